/- Texts of this work, joined: TyB, SyF13, SyF14, SyF20, SyF21, SyF22, SyF54, SyF46, SyF37, SyF23, TyC, SyF47, SyF55, SyF48, SyF39, SyF25, SyF27. -/
import Derived.Test.YtdklnjmdaecboaaDoorSyNTypesPointa
set_option linter.unusedVariables false
set_option linter.unusedSimpArgs false
namespace Go.Proofs.YtdklnjmdaecboaaDoor.Sy
open Go Go.RowKit Go.Proofs.YtdklnjmdaecboaaDoorW.PrintWords Go.Proofs.YtdklnjmdaecboaaDoor.SyO
/-- May a type have so many parts, and such a number? -/
def kok (t : S24) : Bool :=
  if t.f0 = 1 then decide (t.f2.length = 0) && decide (t.f1 = 0)
  else if t.f0 = 2 then decide (t.f2.length = 1) && decide (t.f1 = 0)
  else if t.f0 = 3 then decide (t.f2.length = 1) && decide (1 ≤ t.f1) && decide (t.f1 ≤ 1048576)
  else if t.f0 = 4 then decide (1 ≤ t.f2.length) && decide (t.f2.length ≤ 64) && decide (t.f1 = 0)
  else false
mutual
/-- Is a type shaped? -/
def shp : S24 → Bool
  | ⟨a, b, l⟩ => kok ⟨a, b, l⟩ && shpL l
def shpL : List S24 → Bool
  | [] => true
  | x :: r => shp x && shpL r
end
mutual
/-- How many cells it takes, cut at one more than there may be. -/
def cel : S24 → Nat
  | ⟨a, b, l⟩ => min (if a = 3 then celH l * b.toNat else if a = 4 then celL l else 1) 1048577
def celL : List S24 → Nat
  | [] => 0
  | x :: r => cel x + celL r
def celH : List S24 → Nat
  | [] => 0
  | x :: _ => cel x
end
mutual
/-- Is it right, but for its depth? -/
def rt : S24 → Bool
  | ⟨a, b, l⟩ => kok ⟨a, b, l⟩ && rtL l && decide (cel ⟨a, b, l⟩ ≤ 1048576)
def rtL : List S24 → Bool
  | [] => true
  | x :: r => rt x && rtL r
end
theorem shp_eq (t : S24) : shp t = (kok t && shpL t.f2) := by cases t; simp [shp]
theorem cel_eq (t : S24) : cel t = min (if t.f0 = 3 then celH t.f2 * t.f1.toNat else if t.f0 = 4 then celL t.f2 else 1) 1048577 := by cases t; simp [cel]
theorem rt_eq (t : S24) : rt t = (kok t && rtL t.f2 && decide (cel t ≤ 1048576)) := by cases t; simp [rt]
theorem cel_le (t : S24) : cel t ≤ 1048577 := by rw [cel_eq]; omega
theorem shpL_mem {l : List S24} (h : shpL l = true) {y : S24} (hy : y ∈ l) : shp y = true := by
  induction l with
  | nil => cases hy
  | cons x r ih =>
    simp only [shpL, Bool.and_eq_true] at h
    rcases List.mem_cons.1 hy with rfl | hy
    · exact h.1
    · exact ih h.2 hy
theorem rtL_mem {l : List S24} (h : rtL l = true) {y : S24} (hy : y ∈ l) : rt y = true := by
  induction l with
  | nil => cases hy
  | cons x r ih =>
    simp only [rtL, Bool.and_eq_true] at h
    rcases List.mem_cons.1 hy with rfl | hy
    · exact h.1
    · exact ih h.2 hy
theorem shpL_of {l : List S24} (h : ∀ y ∈ l, shp y = true) : shpL l = true := by
  induction l with
  | nil => rfl
  | cons x r ih => simp only [shpL, Bool.and_eq_true]; exact ⟨h x List.mem_cons_self, ih (fun y hy => h y (List.mem_cons_of_mem _ hy))⟩
theorem shp_of_rt (t : S24) : rt t = true → shp t = true := by
  refine S24.ind (P := fun t => rt t = true → shp t = true) (fun t ih h => ?_) t
  rw [rt_eq] at h
  simp only [Bool.and_eq_true] at h
  rw [shp_eq, h.1.1, shpL_of (fun y hy => ih y hy (rtL_mem h.1.2 hy))]; rfl
/-! #### Depth -/
theorem depth_l0 {rec : S24 → Option Int} {t : S24} (hl : t.f2.length ≤ 1000) (hr : ∀ y ∈ t.f2, rec y = some (dep y : Int)) :
    ∀ (ys : List S24) (n i x : Nat), t.f2.drop i = ys → ys.length < n → i ≤ t.f2.length → swageref11_depth.l0 rec t n x i = some ((max x (depL ys) : Nat) : Int) := by
  intro ys
  induction ys with
  | nil =>
    intro n i x hdr hn hi
    obtain ⟨n, rfl⟩ : ∃ m, n = m + 1 := ⟨n - 1, by simp at hn; omega⟩
    rw [swageref11_depth.l0, if_neg (drop_nil hdr)]; simp [depL]
  | cons y ys ih =>
    intro n i x hdr hn hi
    obtain ⟨n, rfl⟩ : ∃ m, n = m + 1 := ⟨n - 1, by simp at hn; omega⟩
    obtain ⟨h1, h2, h3, h4⟩ := drop_cons hdr
    rw [swageref11_depth.l0, if_pos h1, h2]
    simp only [Option.bind_some]
    rw [hr y h4]
    simp only [Option.bind_some]
    have e : (if (x : Int) < (dep y : Int) then (dep y : Int) else (x : Int)) = ((max x (dep y) : Nat) : Int) := by split <;> omega
    rw [e, wsucc (by omega), ih n (i + 1) _ h3 (by simp at hn; omega) (by omega)]
    simp only [depL]
    congr 2; omega
theorem depth_fix : ∀ (m : Nat) (t : S24), dep t ≤ m → m ≤ 1000 → cnt t ≤ 700 → swageref11_depth.fix m t = some (dep t : Int)
  | 0, t, h, _, _ => by have := dep_eq t; omega
  | m + 1, t, h, hm, hc => by
    have hd := dep_eq t
    obtain ⟨hl, hk⟩ := kids_small hc
    show swageref11_depth.g (swageref11_depth.fix m) t = _
    unfold swageref11_depth.g
    have := depth_l0 (rec := swageref11_depth.fix m) (t := t) (by omega) (fun y hy => depth_fix m y (by have := depL_mem hy; omega) (by omega) (hk y hy)) t.f2 (t.f2.length + 1) 0 0 (by simp) (by omega) (by omega)
    have this' : swageref11_depth.l0 (swageref11_depth.fix m) t (t.f2.length + 1) 0 0 = some ((max 0 (depL t.f2) : Nat) : Int) := this
    rw [this']
    simp only [Option.bind_some]
    rw [w64 (by omega) (by omega)]
    congr 1; omega
/-! #### Shape -/
theorem shaped_l0 {rec : S24 → Option Bool} {t : S24} (hl : t.f2.length ≤ 1000) (hr : ∀ y ∈ t.f2, rec y = some (shp y)) :
    ∀ (ys : List S24) (n i : Nat), t.f2.drop i = ys → ys.length < n → i ≤ t.f2.length → swageref11_shaped.l0 rec t n i = some (if shpL ys then .inr () else .inl false) := by
  intro ys
  induction ys with
  | nil =>
    intro n i hdr hn hi
    obtain ⟨n, rfl⟩ : ∃ m, n = m + 1 := ⟨n - 1, by simp at hn; omega⟩
    rw [swageref11_shaped.l0, if_neg (drop_nil hdr)]; simp [shpL]
  | cons y ys ih =>
    intro n i hdr hn hi
    obtain ⟨n, rfl⟩ : ∃ m, n = m + 1 := ⟨n - 1, by simp at hn; omega⟩
    obtain ⟨h1, h2, h3, h4⟩ := drop_cons hdr
    rw [swageref11_shaped.l0, if_pos h1, h2]
    simp only [Option.bind_some]
    rw [hr y h4]
    simp only [Option.bind_some]
    cases hs : shp y with
    | false => simp [shpL, hs]
    | true =>
      simp only [Bool.not_true, Bool.false_eq_true, if_false]
      rw [wsucc (by omega), ih n (i + 1) h3 (by simp at hn; omega) (by omega)]
      simp [shpL, hs]
theorem shaped_fix : ∀ (m : Nat) (t : S24), dep t ≤ m → cnt t ≤ 700 → swageref11_shaped.fix m t = some (shp t)
  | 0, t, h, _ => by have := dep_eq t; omega
  | m + 1, t, h, hc => by
    have hd := dep_eq t
    obtain ⟨hl, hk⟩ := kids_small hc
    show swageref11_shaped.g (swageref11_shaped.fix m) t = _
    unfold swageref11_shaped.g
    have := shaped_l0 (rec := swageref11_shaped.fix m) (t := t) (by omega) (fun y hy => shaped_fix m y (by have := depL_mem hy; omega) (hk y hy)) t.f2 (t.f2.length + 1) 0 (by simp) (by omega) (by omega)
    have this' : swageref11_shaped.l0 (swageref11_shaped.fix m) t (t.f2.length + 1) 0 = some (if shpL t.f2 then .inr () else .inl false) := this
    rw [this', shp_eq]
    simp only [jn]
    unfold kok
    cases hsl : shpL t.f2
    · by_cases a1 : t.f0 = 1
      · by_cases b1 : t.f2.length = 0 <;> by_cases b2 : t.f1 = 0 <;> simp [a1, b1, b2]
      · by_cases a2 : t.f0 = 2
        · by_cases b1 : t.f2.length = 1 <;> by_cases b2 : t.f1 = 0 <;> simp [a2, b1, b2] <;> omega
        · by_cases a3 : t.f0 = 3
          · by_cases b1 : t.f2.length = 1 <;> by_cases b2 : t.f1 < 1 <;> by_cases b3 : 1048576 < t.f1 <;> simp [a3, b1, b2, b3] <;> omega
          · by_cases a4 : t.f0 = 4
            · by_cases b1 : (t.f2.length : Int) < 1 <;> by_cases b3 : (64 : Int) < t.f2.length <;> by_cases b2 : t.f1 = 0 <;> simp [a4, b1, b2, b3] <;> omega
            · simp [a1, a2, a3, a4]
    · by_cases a1 : t.f0 = 1
      · by_cases b1 : t.f2.length = 0 <;> by_cases b2 : t.f1 = 0 <;> simp [a1, b1, b2]
      · by_cases a2 : t.f0 = 2
        · by_cases b1 : t.f2.length = 1 <;> by_cases b2 : t.f1 = 0 <;> simp [a2, b1, b2] <;> omega
        · by_cases a3 : t.f0 = 3
          · by_cases b1 : t.f2.length = 1 <;> by_cases b2 : t.f1 < 1 <;> by_cases b3 : 1048576 < t.f1 <;> simp [a3, b1, b2, b3] <;> omega
          · by_cases a4 : t.f0 = 4
            · by_cases b1 : (t.f2.length : Int) < 1 <;> by_cases b3 : (64 : Int) < t.f2.length <;> by_cases b2 : t.f1 = 0 <;> simp [a4, b1, b2, b3] <;> omega
            · simp [a1, a2, a3, a4]
theorem kids_f (t : S24) : types_kids.f t = some (kok t) := by
  unfold types_kids.f kok
  simp only [jn]
  by_cases a1 : t.f0 = 1
  · by_cases b1 : t.f2.length = 0 <;> by_cases b2 : t.f1 = 0 <;> simp [a1, b1, b2]
  · by_cases a2 : t.f0 = 2
    · by_cases b1 : t.f2.length = 1 <;> by_cases b2 : t.f1 = 0 <;> simp [a2, b1, b2] <;> omega
    · by_cases a3 : t.f0 = 3
      · by_cases b1 : t.f2.length = 1 <;> by_cases b2 : 1 ≤ t.f1 <;> by_cases b3 : t.f1 ≤ 1048576 <;> simp [a3, b1, b2, b3] <;> omega
      · by_cases a4 : t.f0 = 4
        · by_cases b1 : 1 ≤ (t.f2.length : Int) <;> by_cases b3 : (t.f2.length : Int) ≤ 64 <;> by_cases b2 : t.f1 = 0 <;> simp [a4, b1, b2, b3] <;> omega
        · simp [a1, a2, a3, a4]
/-! #### Cells -/
theorem cells_l0 {rec : S24 → Option Int} {t : S24} (hl : t.f2.length ≤ 700) (hr : ∀ y ∈ t.f2, rec y = some (cel y : Int)) :
    ∀ (ys : List S24) (n i x : Nat), t.f2.drop i = ys → ys.length < n → i ≤ t.f2.length → x ≤ i * 1048577 → swageref11_cells.l0 rec t n x i = some ((x + celL ys : Nat) : Int) := by
  intro ys
  induction ys with
  | nil =>
    intro n i x hdr hn hi hx
    obtain ⟨n, rfl⟩ : ∃ m, n = m + 1 := ⟨n - 1, by simp at hn; omega⟩
    rw [swageref11_cells.l0, if_neg (drop_nil hdr)]; simp [celL]
  | cons y ys ih =>
    intro n i x hdr hn hi hx
    obtain ⟨n, rfl⟩ : ∃ m, n = m + 1 := ⟨n - 1, by simp at hn; omega⟩
    obtain ⟨h1, h2, h3, h4⟩ := drop_cons hdr
    rw [swageref11_cells.l0, if_pos h1, h2]
    simp only [Option.bind_some]
    rw [hr y h4]
    simp only [Option.bind_some]
    have hc := cel_le y
    have e : IntKind.i64.wrap ((x : Int) + (cel y : Int)) = ((x + cel y : Nat) : Int) := by rw [w64 (by omega) (by omega)]; omega
    rw [e, wsucc (by omega), ih n (i + 1) _ h3 (by simp at hn; omega) (by omega) (by omega)]
    simp only [celL]
    congr 2; omega
theorem celL_le : ∀ l : List S24, celL l ≤ l.length * 1048577
  | [] => by simp [celL]
  | x :: r => by have := celL_le r; have := cel_le x; simp only [celL, List.length_cons]; omega
theorem kok3 {t : S24} (h : kok t = true) (h3 : t.f0 = 3) : t.f2.length = 1 ∧ 1 ≤ t.f1 ∧ t.f1 ≤ 1048576 := by
  unfold kok at h
  simp [h3] at h
  omega
theorem kok4 {t : S24} (h : kok t = true) (h3 : t.f0 = 4) : 1 ≤ t.f2.length ∧ t.f2.length ≤ 64 ∧ t.f1 = 0 := by
  unfold kok at h
  simp [h3] at h
  omega
theorem at_head {l : List S24} (h : l.length = 1) : ∃ y, l = [y] ∧ at? l 0 = some y := by
  match l, h with
  | [y], _ => exact ⟨y, rfl, rfl⟩
theorem cells_fix : ∀ (m : Nat) (t : S24), dep t ≤ m → cnt t ≤ 700 → shp t = true → swageref11_cells.fix m t = some (cel t : Int)
  | 0, t, h, _, _ => by have := dep_eq t; omega
  | m + 1, t, h, hc, hs => by
    have hd := dep_eq t
    obtain ⟨hl, hk⟩ := kids_small hc
    rw [shp_eq, Bool.and_eq_true] at hs
    have hr : ∀ y ∈ t.f2, swageref11_cells.fix m y = some (cel y : Int) := fun y hy => cells_fix m y (by have := depL_mem hy; omega) (hk y hy) (shpL_mem hs.2 hy)
    show swageref11_cells.g (swageref11_cells.fix m) t = _
    unfold swageref11_cells.g
    simp only [jn]
    rw [cel_eq]
    by_cases a3 : t.f0 = 3
    · obtain ⟨b1, b2, b3⟩ := kok3 hs.1 a3
      obtain ⟨y, hy, hat⟩ := at_head b1
      have hcy := cel_le y
      have hmul : (cel y : Int) * t.f1 ≤ 1048577 * 1048576 := Int.mul_le_mul (by omega) (by omega) (by omega) (by omega)
      have hmul0 : 0 ≤ (cel y : Int) * t.f1 := Int.mul_nonneg (by omega) (by omega)
      rw [if_pos a3, hat]
      simp only [Option.bind_some]
      rw [hr y (by rw [hy]; exact List.mem_singleton_self _)]
      simp only [Option.bind_some]
      rw [if_neg (by omega), w64 (by omega) (by omega), if_pos a3, hy]
      simp only [celH]
      have e : ((cel y * t.f1.toNat : Nat) : Int) = (cel y : Int) * t.f1 := by rw [Int.natCast_mul]; congr 1; omega
      rw [← e]
      generalize cel y * t.f1.toNat = p
      congr 1
      split <;> omega
    · rw [if_neg a3, if_neg a3]
      by_cases a4 : t.f0 = 4
      · have := cells_l0 (rec := swageref11_cells.fix m) (t := t) (by omega) hr t.f2 (t.f2.length + 1) 0 0 (by simp) (by omega) (by omega) (by omega)
        have this' : swageref11_cells.l0 (swageref11_cells.fix m) t (t.f2.length + 1) 0 0 = some ((0 + celL t.f2 : Nat) : Int) := this
        rw [if_pos a4, if_pos a4, this']
        simp only [Option.bind_some]
        congr 1
        split <;> omega
      · rw [if_neg a4, if_neg a4]
        rfl
/-! #### Measure -/
theorem measure_l0 {rec : S24 → Int → Option (Int × Bool)} {t : S24} {d : Nat} (hl : t.f2.length ≤ 700) (hd0 : 1 ≤ d) (hd : d ≤ 1000)
    (hr : ∀ y ∈ t.f2, ∃ c, rec y ((d : Int) - 1) = some (c, rt y && decide (dep y ≤ d - 1)) ∧ ((rt y && decide (dep y ≤ d - 1)) = true → c = (cel y : Int))) :
    ∀ (ys : List S24) (n i x : Nat), t.f2.drop i = ys → ys.length < n → i ≤ t.f2.length → x ≤ 1048577 →
      types_measure.l0 rec t d n x i = some (if (rtL ys && decide (depL ys ≤ d - 1)) = true then .inr ((min (x + celL ys) 1048577 : Nat) : Int) else .inl (0, false)) := by
  intro ys
  induction ys with
  | nil =>
    intro n i x hdr hn hi hx
    obtain ⟨n, rfl⟩ : ∃ m, n = m + 1 := ⟨n - 1, by simp at hn; omega⟩
    rw [types_measure.l0, if_neg (drop_nil hdr)]
    simp only [rtL, depL, celL, Bool.true_and, Nat.zero_le, decide_true, if_true]
    congr 2; omega
  | cons y ys ih =>
    intro n i x hdr hn hi hx
    obtain ⟨n, rfl⟩ : ∃ m, n = m + 1 := ⟨n - 1, by simp at hn; omega⟩
    obtain ⟨h1, h2, h3, h4⟩ := drop_cons hdr
    rw [types_measure.l0, if_pos h1, h2]
    simp only [Option.bind_some]
    obtain ⟨c, c1, c2⟩ := hr y h4
    rw [w64 (n := (d : Int) - 1) (by omega) (by omega), c1]
    simp only [Option.bind_some]
    cases hs : (rt y && decide (dep y ≤ d - 1)) with
    | false =>
      simp only [Bool.not_false, if_true]
      rw [if_neg]
      simp only [rtL, depL, Bool.and_eq_true, decide_eq_true_eq]
      rintro ⟨⟨e1, _⟩, e2⟩
      rw [e1, Bool.true_and] at hs
      have h9 := of_decide_eq_false hs
      have e2' : max (dep y) (depL ys) ≤ d - 1 := of_decide_eq_true e2
      omega
    | true =>
      simp only [Bool.not_true, Bool.false_eq_true, if_false]
      rw [c2 hs]
      have hc := cel_le y
      have e : IntKind.i64.wrap ((x : Int) + (cel y : Int)) = ((x + cel y : Nat) : Int) := by rw [w64 (by omega) (by omega)]; omega
      have e2 : (if (1048577 : Int) < ((x + cel y : Nat) : Int) then (1048577 : Int) else ((x + cel y : Nat) : Int)) = ((min (x + cel y) 1048577 : Nat) : Int) := by split <;> omega
      rw [e, e2, wsucc (by omega), ih n (i + 1) _ h3 (by simp at hn; omega) (by omega) (by omega)]
      rw [Bool.and_eq_true] at hs
      have hd2 := of_decide_eq_true hs.2
      have e3 : (rtL (y :: ys) && decide (depL (y :: ys) ≤ d - 1)) = (rtL ys && decide (depL ys ≤ d - 1)) := by
        simp only [rtL, depL, hs.1, Bool.true_and]
        congr 1
        apply decide_eq_decide.2; omega
      rw [e3]
      simp only [celL]
      congr 1
      split
      · congr 2; omega
      · rfl
theorem measure_fix : ∀ (m : Nat) (t : S24) (d : Nat), dep t ≤ m → cnt t ≤ 700 → d ≤ 1000 → ∃ c, types_measure.fix m t d = some (c, rt t && decide (dep t ≤ d)) ∧ ((rt t && decide (dep t ≤ d)) = true → c = (cel t : Int))
  | 0, t, _, h, _, _ => by have := dep_eq t; omega
  | m + 1, t, d, h, hc, hd1 => by
    have hd := dep_eq t
    obtain ⟨hl, hk⟩ := kids_small hc
    show ∃ c, types_measure.g (types_measure.fix m) t d = _ ∧ _
    unfold types_measure.g
    simp only [jn]
    by_cases hd0 : d < 1
    · rw [if_pos (by omega), if_pos trivial]
      have e : (rt t && decide (dep t ≤ d)) = false := by
        rw [Bool.and_eq_false_iff]; right; simp; omega
      rw [e]
      exact ⟨0, rfl, fun h => by cases h⟩
    rw [if_neg (by omega), kids_f]
    simp only [Option.bind_some]
    cases hkk : kok t with
    | false =>
      have e : (rt t && decide (dep t ≤ d)) = false := by rw [rt_eq, hkk]; rfl
      rw [e]
      exact ⟨0, rfl, fun h => by cases h⟩
    | true =>
      simp only [Bool.not_true, Bool.false_eq_true, if_false]
      have := measure_l0 (rec := types_measure.fix m) (t := t) (d := d) hl (by omega) hd1 (fun y hy => by
        obtain ⟨c, c1, c2⟩ := measure_fix m y (d - 1) (by have := depL_mem hy; omega) (hk y hy) (by omega)
        refine ⟨c, ?_, c2⟩
        rw [← c1]; congr 1; omega) t.f2 (t.f2.length + 1) 0 0 (by simp) (by omega) (by omega) (by omega)
      have this' : types_measure.l0 (types_measure.fix m) t d (t.f2.length + 1) 0 0 = _ := this
      rw [this']
      simp only [Option.bind_some]
      by_cases hR : (rtL t.f2 && decide (depL t.f2 ≤ d - 1)) = true
      · rw [if_pos hR]
        dsimp only
        rw [Bool.and_eq_true] at hR
        have hR2 := of_decide_eq_true hR.2
        have e : (rt t && decide (dep t ≤ d)) = decide (cel t ≤ 1048576) := by
          rw [rt_eq, hkk, hR.1]
          have : decide (dep t ≤ d) = true := decide_eq_true (by omega)
          rw [this]; simp
        rw [e]
        have hcl := celL_le t.f2
        by_cases a12 : t.f0 = 1 ∨ t.f0 = 2
        · have ec : cel t = 1 := by rw [cel_eq]; rcases a12 with a | a <;> simp [a]
          have e4 : (if t.f0 = 1 then decide (t.f0 = 1) else decide (t.f0 = 2)) = true := by rcases a12 with a | a <;> simp [a]
          rw [ec]
          refine ⟨1, ?_, fun _ => rfl⟩
          by_cases a1 : t.f0 = 1
          · simp [a1]
          · have a2 : t.f0 = 2 := by rcases a12 with a | a; exact absurd a a1; exact a
            simp [a2]
        · have a1 : ¬ t.f0 = 1 := fun a => a12 (.inl a)
          have a2 : ¬ t.f0 = 2 := fun a => a12 (.inr a)
          rw [if_neg a1, decide_eq_false a2]
          simp only [Bool.false_eq_true, if_false]
          by_cases a3 : t.f0 = 3
          · obtain ⟨b1, b2, b3⟩ := kok3 hkk a3
            obtain ⟨y, hy, _⟩ := at_head b1
            have hcy := cel_le y
            have e5 : min (0 + celL t.f2) 1048577 = cel y := by rw [hy]; simp only [celL]; omega
            rw [if_pos a3, e5]
            have hmul : (cel y : Int) * t.f1 ≤ 1048577 * 1048576 := Int.mul_le_mul (by omega) (by omega) (by omega) (by omega)
            have hmul0 : 0 ≤ (cel y : Int) * t.f1 := Int.mul_nonneg (by omega) (by omega)
            rw [w64 (by omega) (by omega)]
            have e6 : ((cel y * t.f1.toNat : Nat) : Int) = (cel y : Int) * t.f1 := by rw [Int.natCast_mul]; congr 1; omega
            have e7 : (if (1048577 : Int) < (cel y : Int) * t.f1 then (1048577 : Int) else (cel y : Int) * t.f1) = (cel t : Int) := by
              rw [cel_eq t, if_pos a3, hy]
              simp only [celH]
              rw [← e6]
              generalize cel y * t.f1.toNat = p
              split <;> omega
            rw [e7]
            refine ⟨_, ?_, fun _ => rfl⟩
            rw [show decide ((cel t : Int) < 1048577) = decide (cel t ≤ 1048576) from decide_eq_decide.2 (by omega)]
          · rw [if_neg a3]
            have a4 : t.f0 = 4 := by
              apply Classical.byContradiction; intro a4
              unfold kok at hkk; simp [a1, a2, a3, a4] at hkk
            have e7 : ((min (0 + celL t.f2) 1048577 : Nat) : Int) = (cel t : Int) := by
              rw [cel_eq, if_neg a3, if_pos a4]; congr 1; omega
            rw [e7]
            refine ⟨_, ?_, fun _ => rfl⟩
            rw [show decide ((cel t : Int) < 1048577) = decide (cel t ≤ 1048576) from decide_eq_decide.2 (by omega)]
      · rw [if_neg hR]
        have e : (rt t && decide (dep t ≤ d)) = false := by
          cases hh : (rt t && decide (dep t ≤ d)) with
          | false => rfl
          | true =>
            exfalso
            apply hR
            rw [rt_eq] at hh
            simp only [Bool.and_eq_true, decide_eq_true_eq] at hh ⊢
            exact ⟨hh.1.1.2, by omega⟩
        rw [e]
        exact ⟨0, rfl, fun h => by cases h⟩
/-- Is it right? -/
def rgt (t : S24) : Bool := rt t && decide (dep t ≤ 100)
theorem right_f {t : S24} (hd : dep t ≤ 1000) (hc : cnt t ≤ 700) : types_Right.f t = some (rgt t) := by
  obtain ⟨c, c1, _⟩ := measure_fix 1000 t 100 hd hc (by omega)
  unfold types_Right.f types_measure.f
  have c1' : types_measure.fix 1000 t 100 = _ := c1
  rw [c1']; rfl
theorem size_f {t : S24} (hd : dep t ≤ 1000) (hc : cnt t ≤ 700) : types_Size.f t = some (if rgt t then (cel t : Int) else 0) := by
  obtain ⟨c, c1, c2⟩ := measure_fix 1000 t 100 hd hc (by omega)
  unfold types_Size.f types_measure.f
  have c1' : types_measure.fix 1000 t 100 = _ := c1
  rw [c1']
  simp only [Option.bind_some]
  unfold rgt
  cases hh : (rt t && decide (dep t ≤ 100)) with
  | false => rfl
  | true => simp [c2 hh]
/-! #### The other's -/
theorem rright_l0 {rec : S24 → Option Bool} {t : S24} (hl : t.f2.length ≤ 700) (hr : ∀ y ∈ t.f2, rec y = some (rgt y)) :
    ∀ (ys : List S24) (n i : Nat), t.f2.drop i = ys → ys.length < n → i ≤ t.f2.length → swageref11_Right.l0 rec t n i = some (if ys.all rgt then .inr () else .inl false) := by
  intro ys
  induction ys with
  | nil =>
    intro n i hdr hn hi
    obtain ⟨n, rfl⟩ : ∃ m, n = m + 1 := ⟨n - 1, by simp at hn; omega⟩
    rw [swageref11_Right.l0, if_neg (drop_nil hdr)]; simp
  | cons y ys ih =>
    intro n i hdr hn hi
    obtain ⟨n, rfl⟩ : ∃ m, n = m + 1 := ⟨n - 1, by simp at hn; omega⟩
    obtain ⟨h1, h2, h3, h4⟩ := drop_cons hdr
    rw [swageref11_Right.l0, if_pos h1, h2]
    simp only [Option.bind_some]
    rw [hr y h4]
    simp only [Option.bind_some]
    cases hs : rgt y with
    | false => simp [hs]
    | true =>
      simp only [Bool.not_true, Bool.false_eq_true, if_false]
      rw [wsucc (by omega), ih n (i + 1) h3 (by simp at hn; omega) (by omega)]
      simp [hs]
theorem all_rgt {l : List S24} (h : depL l ≤ 100) : l.all rgt = rtL l := by
  induction l with
  | nil => rfl
  | cons x r ih =>
    simp only [depL] at h
    simp only [List.all_cons, rtL]
    rw [ih (by omega)]
    unfold rgt
    have : decide (dep x ≤ 100) = true := decide_eq_true (by omega)
    rw [this]; simp
theorem rright_fix : ∀ (m : Nat) (t : S24), dep t ≤ m → m ≤ 1000 → cnt t ≤ 700 → swageref11_Right.fix m t = some (rgt t)
  | 0, t, h, _, _ => by have := dep_eq t; omega
  | m + 1, t, h, hm, hc => by
    have hd := dep_eq t
    obtain ⟨hl, hk⟩ := kids_small hc
    show swageref11_Right.g (swageref11_Right.fix m) t = _
    unfold swageref11_Right.g swageref11_shaped.f swageref11_depth.f swageref11_cells.f
    simp only [jn]
    rw [shaped_fix 1000 t (by omega) hc]
    simp only [Option.bind_some]
    cases hs : shp t with
    | false =>
      have : rgt t = false := by
        unfold rgt
        cases hr : rt t with
        | false => rfl
        | true => rw [shp_of_rt t hr] at hs; cases hs
      rw [this]; rfl
    | true =>
      simp only [Bool.not_true, Bool.false_eq_true, if_false]
      rw [depth_fix 1000 t (by omega) (by omega) hc]
      simp only [Option.bind_some]
      by_cases hd1 : dep t ≤ 100
      · rw [if_neg (by omega), cells_fix 1000 t (by omega) hc hs]
        simp only [Option.bind_some]
        have := rright_l0 (rec := swageref11_Right.fix m) (t := t) (by omega) (fun y hy => rright_fix m y (by have := depL_mem hy; omega) (by omega) (hk y hy)) t.f2 (t.f2.length + 1) 0 (by simp) (by omega) (by omega)
        have this' : swageref11_Right.l0 (swageref11_Right.fix m) t (t.f2.length + 1) 0 = _ := this
        rw [this', all_rgt (by omega)]
        have e : rgt t = (rtL t.f2 && decide (cel t ≤ 1048576)) := by
          unfold rgt
          rw [shp_eq, Bool.and_eq_true] at hs
          rw [rt_eq, hs.1, decide_eq_true hd1]; simp
        rw [e]
        by_cases hce : cel t ≤ 1048576
        · rw [decide_eq_true hce, decide_eq_false (by omega)]
          cases rtL t.f2 <;> rfl
        · rw [decide_eq_false hce, decide_eq_true (by omega)]
          simp
      · rw [if_pos (by omega), if_pos trivial]
        unfold rgt
        rw [decide_eq_false hd1]; simp
theorem rright_f {t : S24} (hd : dep t ≤ 1000) (hc : cnt t ≤ 700) : swageref11_Right.f t = some (rgt t) := rright_fix 1000 t hd (by omega) hc
theorem shp_of_rgt {t : S24} (h : rgt t = true) : shp t = true := by
  unfold rgt at h
  rw [Bool.and_eq_true] at h
  exact shp_of_rt t h.1
theorem rsize_f {t : S24} (hd : dep t ≤ 1000) (hc : cnt t ≤ 700) : swageref11_Size.f t = some (if rgt t then (cel t : Int) else 0) := by
  unfold swageref11_Size.f swageref11_cells.f
  rw [rright_f hd hc]
  simp only [Option.bind_some]
  cases h : rgt t with
  | false => rfl
  | true => simp [cells_fix 1000 t hd hc (shp_of_rgt h)]
theorem rgt_kids {t : S24} (h : rgt t = true) {y : S24} (hy : y ∈ t.f2) : rgt y = true := by
  unfold rgt at h ⊢
  rw [Bool.and_eq_true, rt_eq] at h
  simp only [Bool.and_eq_true, decide_eq_true_eq] at h ⊢
  refine ⟨rtL_mem h.1.1.2 hy, ?_⟩
  have := depL_mem hy; have := dep_eq t
  omega
end Go.Proofs.YtdklnjmdaecboaaDoor.Sy
set_option linter.unusedVariables false
set_option linter.unusedSimpArgs false
set_option maxRecDepth 100000
set_option maxHeartbeats 4000000
namespace Go.Proofs.YtdklnjmdaecboaaDoor.Sy
open Go Go.RowKit Go.Proofs.YtdklnjmdaecboaaDoorW.PrintWords 
def types_Offset.l0 (y207 : (List S24)) : Nat → Int → Int → Option (Int)
 | 0, _, _ => none
 | n319 + 1, x281, x282 => (if x282 < (y207.length : Int) then (at? y207 x282).bind fun y372 => (types_Size.f y372).bind fun (y386 : Int) => types_Offset.l0 y207 n319 (IntKind.i64.wrap (x281 + y386)) (IntKind.i64.wrap (x282 + 1)) else some x281)
def types_Offset.f (a0 : S24) (a1 : Int) : Option (Int × Bool) := jn (γ := (Int × Bool)) (fun (x117 : Bool) => (if x117 = true then some (0, false) else jn (γ := (Int × Bool)) (fun (x157 : Bool) => (if x157 = true then (at? a0.f2 0).bind fun y185 => (types_Size.f y185).bind fun (y198 : Int) => some (IntKind.i64.wrap (a1 * y198), true) else jn (γ := (Int × Bool)) (fun (x203 : Bool) => (if x203 = true then some (0, false) else (cut? a0.f2 (0 : Int) a1).bind fun (y207 : (List S24)) => (types_Offset.l0 y207 (y207.length + 1) 0 0).bind fun (x317 : Int) => some (x317, true))) (fun (j204 : (Bool → Option (Int × Bool))) => (if (!decide (a0.f0 = 4)) = true then j204 true else j204 (decide ((a0.f2.length : Int) ≤ a1)))))) (fun (j158 : (Bool → Option (Int × Bool))) => (if a0.f0 = 3 then j158 (decide (a1 < a0.f1)) else j158 false)))) (fun (j118 : (Bool → Option (Int × Bool))) => (types_Right.f a0).bind fun (y394 : Bool) => (if (!y394) = true then j118 true else j118 (decide (a1 < 0))))
def types_Offset.post (G : Gd) (r : (Int × Bool)) (v : Value) (G' : Gd) (Lr : List Ch) : Prop := G = G' ∧ v = .tuple #[.int .i64 r.1, .bool r.2] ∧ Lr = []
theorem types_Offset.calls {G : Gd} {r : (Int × Bool)} {a0 : S24} {a1 : Int} {A1 : Option Addr} {c2 : Nat} (hr3 : Rd G k24 A1 a0.f2) (hl4 : a0.f2.length ≤ c2) (h : types_Offset.f a0 a1 = some r) : Fn Tryd.prog 13 G [] [.agg #[.int .i64 a0.f0, .int .i64 a0.f1, .slice A1 a0.f2.length c2], .int .i64 a1] (types_Offset.post G r) := by
 refine Fn.intro (e := [(0, .agg #[.int .i64 a0.f0, .int .i64 a0.f1, .slice A1 a0.f2.length c2]), (1, .int .i64 a1)]) 60 Tryd.func13 rfl Tryd.ntmps13 rfl rfl (Nat.le_of_ble_eq_true rfl) (fun L => ?_)
 unfold types_Offset.f at h
 refine TC.seq ?_
 refine TC.region ?_
 refine TL.cons (TL.box (cs := [.int .i64 a0.f0, .int .i64 a0.f1, .slice A1 a0.f2.length c2]) rfl rfl rfl rfl (fun b5 => ?_))
 refine TL.cons (TO.val rfl rfl rfl (Val.assign rfl) ?_)
 refine TL.cons (TO.val rfl rfl rfl (Val.assign rfl) ?_)
 refine TL.nil ?_
 refine TQ.then_ ?_
 refine TC.seq ?_
 refine TC.block ?_
 refine TC.seq ?_
 obtain ⟨j118, hj118, h⟩ := jn_no h
 refine TC.tail (fun a W => ∃ (x117 : Bool), j118 x117 = some r ∧ Fr 60 a [(1, .int .i64 a1), (2, .pointer (some ⟨b5, 0, none⟩)), (9, .bool x117)] ∧ Own G (Blk b5 [.int .i64 a0.f0, .int .i64 a0.f1, .slice A1 a0.f2.length c2] 24 :: L) W) ?_ ?_
 ·
  rintro a W ⟨x117, h, hF, hO⟩
  rw [hj118] at h
  refine TQ.use ?_ hF hO
  clear hF hO
  refine TQ.then_ ?_
  refine TC.cond_b rfl h (fun hc153 h => ?_) (fun hc153 h => ?_)
  ·
   refine TC.seq ?_
   refine TC.region ?_
   refine TL.cons (TO.val rfl rfl rfl (Val.assign rfl) ?_)
   refine TL.cons (TO.val rfl rfl rfl (Val.assign rfl) ?_)
   refine TL.nil ?_
   refine TQ.then_ ?_
   refine TC.ret ?_
   refine TQ.inBR ?_
   refine TQ.thenR ?_
   obtain rfl := Option.some.inj h
   exact TQ.fin (.inl rfl) rfl Tryd.results13 (.tmp rfl (.tmp rfl .nil)) rfl (FRel.mk (Ls := []) [] 1 (Gd.le.refl _) rfl rfl rfl ⟨rfl, rfl, rfl⟩)
  ·
   refine TC.seq ?_
   obtain ⟨j158, hj158, h⟩ := jn_no h
   refine TC.tail (fun a W => ∃ (x157 : Bool), j158 x157 = some r ∧ Fr 60 a [(1, .int .i64 a1), (2, .pointer (some ⟨b5, 0, none⟩)), (17, .bool x157)] ∧ Own G (Blk b5 [.int .i64 a0.f0, .int .i64 a0.f1, .slice A1 a0.f2.length c2] 24 :: L) W) ?_ ?_
   ·
    rintro a W ⟨x157, h, hF, hO⟩
    rw [hj158] at h
    refine TQ.use ?_ hF hO
    clear hF hO
    refine TQ.then_ ?_
    refine TC.cond_b rfl h (fun hc184 h => ?_) (fun hc184 h => ?_)
    ·
     refine TC.seq ?_
     refine TC.region ?_
     refine TL.cons (TO.val rfl rfl rfl (Val.move rfl) ?_)
     refine TL.cons (TO.val rfl rfl rfl (Val.fieldAddrB Tryd.underlying24 rfl fsz22 rfl rfl rfl) ?_)
     refine TL.cons (TO.val rfl rfl rfl (Val.loadB 0 agg22 rfl rfl rfl) ?_)
     obtain ⟨y185, hx186, h⟩ := bind_no h
     obtain ⟨ad187, cs193, hA188, hi189, hj190, hcl191, hK192⟩ := Rd.at hr3 hx186
     obtain ⟨A194, c195, rfl, hr196, hl197⟩ := k24_openR hK192
     refine TL.cons (TO.val rfl rfl rfl (Val.indexAddr Tryd.underlying22 fsz24 rfl hA188 rfl hi189 hj190) ?_)
     refine TL.cons (TO.val rfl rfl rfl (Val.loadsS (cs := [.int .i64 y185.f0, .int .i64 y185.f1, .slice A194 y185.f2.length c195]) agg24 fsz24 rfl rfl (Cl.sub (off := 0) (n := 3) hcl191 rfl)) ?_)
     obtain ⟨y198, hy199, h⟩ := bind_no h
     refine TL.cons (TL.callV (Lin := []) (args := [.agg #[.int .i64 y185.f0, .int .i64 y185.f1, .slice A194 y185.f2.length c195]]) rfl rfl rfl hbd17 rfl rfl (types_Size.calls (a0 := y185) hr196 hl197 hy199) rfl ?_)
     rintro _ _ _ _ ⟨rfl, rfl, rfl⟩
     refine TL.cons (TO.val rfl rfl rfl (Val.cmp rfl rfl run_mul) ?_)
     refine TL.cons (TO.val rfl rfl rfl (Val.assign rfl) ?_)
     refine TL.cons (TO.val rfl rfl rfl (Val.assign rfl) ?_)
     refine TL.nil ?_
     refine TQ.then_ ?_
     refine TC.ret ?_
     refine TQ.inBR ?_
     refine TQ.thenR ?_
     obtain rfl := Option.some.inj h
     exact TQ.fin (.inl rfl) rfl Tryd.results13 (.tmp rfl (.tmp rfl .nil)) rfl (FRel.mk (Ls := []) [] 1 (Gd.le.refl _) rfl rfl rfl ⟨rfl, rfl, rfl⟩)
    ·
     refine TC.seq ?_
     obtain ⟨j204, hj204, h⟩ := jn_no h
     refine TC.tail (fun a W => ∃ (x203 : Bool), j204 x203 = some r ∧ Fr 60 a [(1, .int .i64 a1), (2, .pointer (some ⟨b5, 0, none⟩)), (34, .bool x203)] ∧ Own G (Blk b5 [.int .i64 a0.f0, .int .i64 a0.f1, .slice A1 a0.f2.length c2] 24 :: L) W) ?_ ?_
     ·
      rintro a W ⟨x203, h, hF, hO⟩
      rw [hj204] at h
      refine TQ.use ?_ hF hO
      clear hF hO
      refine TQ.then_ ?_
      refine TC.cond_b rfl h (fun hc206 h => ?_) (fun hc206 h => ?_)
      ·
       refine TC.seq ?_
       refine TC.region ?_
       refine TL.cons (TO.val rfl rfl rfl (Val.assign rfl) ?_)
       refine TL.cons (TO.val rfl rfl rfl (Val.assign rfl) ?_)
       refine TL.nil ?_
       refine TQ.then_ ?_
       refine TC.ret ?_
       refine TQ.inBR ?_
       refine TQ.thenR ?_
       obtain rfl := Option.some.inj h
       exact TQ.fin (.inl rfl) rfl Tryd.results13 (.tmp rfl (.tmp rfl .nil)) rfl (FRel.mk (Ls := []) [] 1 (Gd.le.refl _) rfl rfl rfl ⟨rfl, rfl, rfl⟩)
      ·
       refine TC.skip ?_
       refine TQ.inB ?_
       refine TQ.then_ ?_
       refine TC.seq ?_
       refine TC.region ?_
       refine TL.cons (TO.val rfl rfl rfl (Val.assign rfl) ?_)
       refine TL.nil ?_
       refine TQ.then_ ?_
       refine TC.seq ?_
       refine TC.seq ?_
       refine TC.region ?_
       refine TL.cons (TO.val rfl rfl rfl (Val.fieldAddrB Tryd.underlying24 rfl fsz22 rfl rfl rfl) ?_)
       refine TL.cons (TO.val rfl rfl rfl (Val.loadB 0 agg22 rfl rfl rfl) ?_)
       refine TL.cons (TO.val rfl rfl rfl (Val.move rfl) ?_)
       obtain ⟨y207, hy208, h⟩ := bind_no h
       obtain ⟨hr209, hl210⟩ := Rd.cut hr3 hl4 hy208
       refine TL.cons (TO.val rfl rfl rfl (Val.cut Tryd.underlying22 fsz24 rfl rfl hl4 rfl rfl hy208) ?_)
       refine TL.cons (TO.val rfl rfl rfl (Val.len Tryd.underlying22 rfl) ?_)
       refine TL.cons (TO.val rfl rfl rfl (Val.move rfl) ?_)
       refine TL.nil ?_
       refine TQ.then_ ?_
       obtain ⟨o318, ho318, ko318⟩ := bind_no h
       clear h
       refine TC.tail (fun a W => ∃ (x317 : Int), x317 = o318 ∧ Fr 60 a [(6, .int .i64 x317)] ∧ Own G (L) W) ?_ ?_
       ·
        rintro a W ⟨x317, rfl, hF, hO⟩
        have h := ko318
        clear ko318 ho318
        refine TQ.use ?_ hF hO
        clear hF hO
        refine TQ.then_ ?_
        refine TC.seq ?_
        refine TC.region ?_
        refine TL.cons (TO.val rfl rfl rfl (Val.move rfl) ?_)
        refine TL.cons (TO.val rfl rfl rfl (Val.assign rfl) ?_)
        refine TL.cons (TO.val rfl rfl rfl (Val.assign rfl) ?_)
        refine TL.nil ?_
        refine TQ.then_ ?_
        refine TC.ret ?_
        obtain rfl := Option.some.inj h
        exact TQ.fin (.inl rfl) rfl Tryd.results13 (.tmp rfl (.tmp rfl .nil)) rfl (FRel.mk (Ls := []) [] 0 (Gd.le.refl _) rfl rfl rfl ⟨rfl, rfl, rfl⟩)
       ·
        refine TC.block ?_
        intro a W hF hO
        have hS : ∃ (x281 : Int) (x282 : Int), types_Offset.l0 y207 (y207.length + 1) x281 x282 = some o318 ∧ Fr 60 a [(6, .int .i64 x281), (48, .slice (cutA A1 c2 (0 : Int).toNat 3) y207.length (c2 - (0 : Int).toNat)), (49, .int .i64 (y207.length : Int)), (50, .int .i64 x282)] ∧ Own G (L) W := by
         exact ⟨0, 0, ho318, hF.sub ⟨rfl, rfl, rfl, rfl, trivial⟩, hO.selT (Ls := []) [] 1 rfl rfl rfl⟩
        clear hF hO ho318 ko318
        refine TC.loop (fun n319 a W => ∃ (x281 : Int) (x282 : Int), types_Offset.l0 y207 n319 x281 x282 = some o318 ∧ Fr 60 a [(6, .int .i64 x281), (48, .slice (cutA A1 c2 (0 : Int).toNat 3) y207.length (c2 - (0 : Int).toNat)), (49, .int .i64 (y207.length : Int)), (50, .int .i64 x282)] ∧ Own G (L) W) ?_ ?_ hS
        ·
         rintro a W ⟨x281, x282, h, hF, hO⟩
         exact none_no h
        ·
         clear hS
         rintro n319 a W ⟨x281, x282, h, hF, hO⟩
         rw [types_Offset.l0] at h
         refine TC.use ?_ hF hO
         clear hF hO
         refine TC.seq ?_
         refine TC.region ?_
         refine TL.cons (TO.val rfl rfl rfl (Val.cmp rfl rfl run_lss) ?_)
         refine TL.nil ?_
         refine TQ.then_ ?_
         refine TC.seq ?_
         refine TC.cond_p rfl h (fun hc355 h => ?_) (fun hc355 h => ?_)
         ·
          refine TC.skip ?_
          refine TQ.then_ ?_
          refine TC.seq ?_
          refine TC.block ?_
          refine TC.seq ?_
          refine TC.region ?_
          obtain ⟨y372, hx373, h⟩ := bind_no h
          obtain ⟨ad374, cs380, hA375, hi376, hj377, hcl378, hK379⟩ := Rd.at hr209 hx373
          obtain ⟨A381, c382, rfl, hr383, hl384⟩ := k24_openR hK379
          refine TL.cons (TO.val rfl rfl rfl (Val.indexAddr Tryd.underlying22 fsz24 rfl hA375 rfl hi376 hj377) ?_)
          refine TL.cons (TO.val rfl rfl rfl (Val.loadsS (cs := [.int .i64 y372.f0, .int .i64 y372.f1, .slice A381 y372.f2.length c382]) agg24 fsz24 rfl rfl (Cl.sub (off := 0) (n := 3) hcl378 rfl)) ?_)
          refine TL.cons (TL.alloc (cs := [.int .i64 0, .int .i64 0, .slice none 0 0]) rfl rfl zr24 rfl (fun b385 => ?_))
          refine TL.cons (TL.store 0 (ds := [.int .i64 y372.f0, .int .i64 y372.f1, .slice A381 y372.f2.length c382]) (cs' := [.int .i64 y372.f0, .int .i64 y372.f1, .slice A381 y372.f2.length c382]) (L' := (Blk b385 [.int .i64 y372.f0, .int .i64 y372.f1, .slice A381 y372.f2.length c382] 24 :: L)) rfl fsz24 rfl rfl rfl rfl rfl (Nat.le_of_ble_eq_true rfl) rfl rfl ?_)
          refine TL.nil ?_
          refine TQ.then_ ?_
          refine TC.region ?_
          refine TL.cons (TO.val rfl rfl rfl (Val.move rfl) ?_)
          refine TL.cons (TO.val rfl rfl rfl (Val.loadsB 0 (cs := [.int .i64 y372.f0, .int .i64 y372.f1, .slice A381 y372.f2.length c382]) agg24 fsz24 rfl rfl rfl rfl) ?_)
          obtain ⟨y386, hy387, h⟩ := bind_no h
          refine TL.cons (TL.callV (Lin := []) (args := [.agg #[.int .i64 y372.f0, .int .i64 y372.f1, .slice A381 y372.f2.length c382]]) rfl rfl rfl hbd17 rfl rfl (types_Size.calls (a0 := y372) hr383 hl384 hy387) rfl ?_)
          rintro _ _ _ _ ⟨rfl, rfl, rfl⟩
          refine TL.cons (TO.val rfl rfl rfl (Val.cmp rfl rfl run_add) ?_)
          refine TL.cons (TO.val rfl rfl rfl (Val.assign rfl) ?_)
          refine TL.nil ?_
          refine TQ.inB ?_
          refine TQ.then_ ?_
          refine TC.region ?_
          refine TL.cons (TO.val rfl rfl rfl (Val.cmp rfl rfl run_add) ?_)
          refine TL.cons (TO.val rfl rfl rfl (Val.move rfl) ?_)
          refine TL.nil ?_
          exact fun a W hF hO => ⟨IntKind.i64.wrap (x281 + y386), IntKind.i64.wrap (x282 + 1), h, hF.sub ⟨rfl, rfl, rfl, rfl, trivial⟩, hO.selT (Ls := []) [] 1 rfl rfl rfl⟩
         ·
          refine TC.exit ?_
          refine TQ.thenX ?_
          refine TQ.thenX ?_
          refine TQ.inBX ?_
          exact fun a W hF hO => ⟨x281, Option.some.inj h, hF.sub ⟨rfl, trivial⟩, hO.selT (Ls := []) [] 0 rfl rfl rfl⟩
     ·
      refine TC.region ?_
      refine TL.cons (TO.val rfl rfl rfl (Val.fieldAddrB Tryd.underlying24 rfl fsz3 rfl rfl rfl) ?_)
      refine TL.cons (TO.val rfl rfl rfl (Val.loadB 0 agg3 rfl rfl rfl) ?_)
      refine TL.cons (TO.val rfl rfl rfl (Val.cmp rfl rfl run_neq) ?_)
      refine TL.cons (TO.val rfl rfl rfl (Val.move rfl) ?_)
      refine TK.split (p := (!decide (a0.f0 = 4)) = true) h (fun hg388 h => ?_) (fun hg388 h => ?_)
      ·
       have hk389 : (!decide (a0.f0 = 4)) = true := hg388
       refine TL.cons (TL.not (Wt.no rfl rfl rfl hk389) rfl ?_)
       refine TL.cons (TL.not (Wt.no rfl rfl rfl hk389) rfl ?_)
       refine TL.cons (TL.not (Wt.no rfl rfl rfl hk389) rfl ?_)
       refine TL.cons (TL.not (Wt.no rfl rfl rfl hk389) rfl ?_)
       refine TL.cons (TL.not (Wt.no rfl rfl rfl hk389) rfl ?_)
       refine TL.cons (TO.val rfl rfl rfl (Val.pickY rfl hk389 rfl) ?_)
       refine TL.cons (TO.val rfl rfl rfl (Val.assign rfl) ?_)
       refine TL.nil ?_
       exact fun a W hF hO => ⟨true, h, hF.sub ⟨rfl, rfl, rfl, trivial⟩, hO.selT (Ls := [Blk b5 [.int .i64 a0.f0, .int .i64 a0.f1, .slice A1 a0.f2.length c2] 24]) [0] 1 rfl rfl rfl⟩
      ·
       have hk390 : (!decide (a0.f0 = 4)) = false := (by simpa using hg388)
       refine TL.cons (TO.val (Wt.yes rfl rfl rfl hk390) rfl rfl (Val.move rfl) ?_)
       refine TL.cons (TO.val (Wt.yes rfl rfl rfl hk390) rfl rfl (Val.fieldAddrB Tryd.underlying24 rfl fsz22 rfl rfl rfl) ?_)
       refine TL.cons (TO.val (Wt.yes rfl rfl rfl hk390) rfl rfl (Val.loadB 0 agg22 rfl rfl rfl) ?_)
       refine TL.cons (TO.val (Wt.yes rfl rfl rfl hk390) rfl rfl (Val.len Tryd.underlying22 rfl) ?_)
       refine TL.cons (TO.val (Wt.yes rfl rfl rfl hk390) rfl rfl (Val.cmp rfl rfl run_geq) ?_)
       refine TL.cons (TO.val rfl rfl rfl (Val.pickN rfl hk390 rfl) ?_)
       refine TL.cons (TO.val rfl rfl rfl (Val.assign rfl) ?_)
       refine TL.nil ?_
       exact fun a W hF hO => ⟨decide ((a0.f2.length : Int) ≤ a1), h, hF.sub ⟨rfl, rfl, rfl, trivial⟩, hO.selT (Ls := [Blk b5 [.int .i64 a0.f0, .int .i64 a0.f1, .slice A1 a0.f2.length c2] 24]) [0] 1 rfl rfl rfl⟩
   ·
    refine TC.region ?_
    refine TL.cons (TO.val rfl rfl rfl (Val.fieldAddrB Tryd.underlying24 rfl fsz3 rfl rfl rfl) ?_)
    refine TL.cons (TO.val rfl rfl rfl (Val.loadB 0 agg3 rfl rfl rfl) ?_)
    refine TL.cons (TO.val rfl rfl rfl (Val.cmp rfl rfl run_eql) ?_)
    refine TL.cons (TO.val rfl rfl rfl (Val.move rfl) ?_)
    refine TK.split (p := a0.f0 = 3) h (fun hg391 h => ?_) (fun hg391 h => ?_)
    ·
     have hk392 : decide (a0.f0 = 3) = true := decide_eq_true hg391
     refine TL.cons (TO.val (Wt.yes rfl rfl rfl hk392) rfl rfl (Val.move rfl) ?_)
     refine TL.cons (TO.val (Wt.yes rfl rfl rfl hk392) rfl rfl (Val.fieldAddrB Tryd.underlying24 rfl fsz3 rfl rfl rfl) ?_)
     refine TL.cons (TO.val (Wt.yes rfl rfl rfl hk392) rfl rfl (Val.loadB 0 agg3 rfl rfl rfl) ?_)
     refine TL.cons (TO.val (Wt.yes rfl rfl rfl hk392) rfl rfl (Val.cmp rfl rfl run_lss) ?_)
     refine TL.cons (TO.val rfl rfl rfl (Val.pickY rfl hk392 rfl) ?_)
     refine TL.cons (TO.val rfl rfl rfl (Val.assign rfl) ?_)
     refine TL.nil ?_
     exact fun a W hF hO => ⟨decide (a1 < a0.f1), h, hF.sub ⟨rfl, rfl, rfl, trivial⟩, hO.selT (Ls := [Blk b5 [.int .i64 a0.f0, .int .i64 a0.f1, .slice A1 a0.f2.length c2] 24]) [0] 1 rfl rfl rfl⟩
    ·
     have hk393 : decide (a0.f0 = 3) = false := decide_eq_false hg391
     refine TL.cons (TL.not (Wt.no rfl rfl rfl hk393) rfl ?_)
     refine TL.cons (TL.not (Wt.no rfl rfl rfl hk393) rfl ?_)
     refine TL.cons (TL.not (Wt.no rfl rfl rfl hk393) rfl ?_)
     refine TL.cons (TL.not (Wt.no rfl rfl rfl hk393) rfl ?_)
     refine TL.cons (TO.val rfl rfl rfl (Val.pickN rfl hk393 rfl) ?_)
     refine TL.cons (TO.val rfl rfl rfl (Val.assign rfl) ?_)
     refine TL.nil ?_
     exact fun a W hF hO => ⟨false, h, hF.sub ⟨rfl, rfl, rfl, trivial⟩, hO.selT (Ls := [Blk b5 [.int .i64 a0.f0, .int .i64 a0.f1, .slice A1 a0.f2.length c2] 24]) [0] 1 rfl rfl rfl⟩
 ·
  refine TC.region ?_
  refine TL.cons (TO.val rfl rfl rfl (Val.loadsB 0 (cs := [.int .i64 a0.f0, .int .i64 a0.f1, .slice A1 a0.f2.length c2]) agg24 fsz24 rfl rfl rfl rfl) ?_)
  obtain ⟨y394, hy395, h⟩ := bind_no h
  refine TL.cons (TL.callV (Lin := []) (args := [.agg #[.int .i64 a0.f0, .int .i64 a0.f1, .slice A1 a0.f2.length c2]]) rfl rfl rfl hbd15 rfl rfl (types_Right.calls (a0 := a0) hr3 hl4 hy395) rfl ?_)
  rintro _ _ _ _ ⟨rfl, rfl, rfl⟩
  refine TL.cons (TO.val rfl rfl rfl (Val.not_ rfl) ?_)
  refine TL.cons (TO.val rfl rfl rfl (Val.move rfl) ?_)
  refine TK.split (p := (!y394) = true) h (fun hg396 h => ?_) (fun hg396 h => ?_)
  ·
   have hk397 : (!y394) = true := hg396
   refine TL.cons (TL.not (Wt.no rfl rfl rfl hk397) rfl ?_)
   refine TL.cons (TL.not (Wt.no rfl rfl rfl hk397) rfl ?_)
   refine TL.cons (TO.val rfl rfl rfl (Val.pickY rfl hk397 rfl) ?_)
   refine TL.cons (TO.val rfl rfl rfl (Val.assign rfl) ?_)
   refine TL.nil ?_
   exact fun a W hF hO => ⟨true, h, hF.sub ⟨rfl, rfl, rfl, trivial⟩, hO.selT (Ls := [Blk b5 [.int .i64 a0.f0, .int .i64 a0.f1, .slice A1 a0.f2.length c2] 24]) [0] 1 rfl rfl rfl⟩
  ·
   have hk398 : (!y394) = false := (by simpa using hg396)
   refine TL.cons (TO.val (Wt.yes rfl rfl rfl hk398) rfl rfl (Val.move rfl) ?_)
   refine TL.cons (TO.val (Wt.yes rfl rfl rfl hk398) rfl rfl (Val.cmp rfl rfl run_lss) ?_)
   refine TL.cons (TO.val rfl rfl rfl (Val.pickN rfl hk398 rfl) ?_)
   refine TL.cons (TO.val rfl rfl rfl (Val.assign rfl) ?_)
   refine TL.nil ?_
   exact fun a W hF hO => ⟨decide (a1 < 0), h, hF.sub ⟨rfl, rfl, rfl, trivial⟩, hO.selT (Ls := [Blk b5 [.int .i64 a0.f0, .int .i64 a0.f1, .slice A1 a0.f2.length c2] 24]) [0] 1 rfl rfl rfl⟩
end Go.Proofs.YtdklnjmdaecboaaDoor.Sy
set_option linter.unusedVariables false
set_option linter.unusedSimpArgs false
set_option maxRecDepth 100000
set_option maxHeartbeats 4000000
namespace Go.Proofs.YtdklnjmdaecboaaDoor.Sy
open Go Go.RowKit Go.Proofs.YtdklnjmdaecboaaDoorW.PrintWords 
def swageref11_Offset.l0 (a0 : S24) (a1 : Int) : Nat → Int → Int → Option (Int)
 | 0, _, _ => none
 | n161 + 1, x125, x126 => (if x126 < a1 then (at? a0.f2 x126).bind fun y211 => (swageref11_cells.f y211).bind fun (y224 : Int) => swageref11_Offset.l0 a0 a1 n161 (IntKind.i64.wrap (x125 + y224)) (IntKind.i64.wrap (x126 + 1)) else some x125)
def swageref11_Offset.f (a0 : S24) (a1 : Int) : Option (Int × Bool) := (swageref11_Right.f a0).bind fun (y6 : Bool) => jn (γ := (Int × Bool)) (fun (x11 : Bool) => (if x11 = true then some (0, false) else jn (γ := (Int × Bool)) (fun (x18 : Bool) => (if x18 = true then (at? a0.f2 0).bind fun y37 => (swageref11_cells.f y37).bind fun (y50 : Int) => some (IntKind.i64.wrap (a1 * y50), true) else jn (γ := (Int × Bool)) (fun (x55 : Bool) => (if x55 = true then some (0, false) else (swageref11_Offset.l0 a0 a1 (a1.toNat + 1) 0 0).bind fun (x159 : Int) => some (x159, true))) (fun (j56 : (Bool → Option (Int × Bool))) => (if (!decide (a0.f0 = 4)) = true then j56 true else j56 (decide ((a0.f2.length : Int) ≤ a1)))))) (fun (j19 : (Bool → Option (Int × Bool))) => (if a0.f0 = 3 then j19 (decide (a1 < a0.f1)) else j19 false)))) (fun (j12 : (Bool → Option (Int × Bool))) => (if (!y6) = true then j12 true else j12 (decide (a1 < 0))))
def swageref11_Offset.post (G : Gd) (r : (Int × Bool)) (v : Value) (G' : Gd) (Lr : List Ch) : Prop := G = G' ∧ v = .tuple #[.int .i64 r.1, .bool r.2] ∧ Lr = []
theorem swageref11_Offset.calls {G : Gd} {r : (Int × Bool)} {a0 : S24} {a1 : Int} {A1 : Option Addr} {c2 : Nat} (hr3 : Rd G k24 A1 a0.f2) (hl4 : a0.f2.length ≤ c2) (h : swageref11_Offset.f a0 a1 = some r) : Fn Tryd.prog 14 G [] [.agg #[.int .i64 a0.f0, .int .i64 a0.f1, .slice A1 a0.f2.length c2], .int .i64 a1] (swageref11_Offset.post G r) := by
 refine Fn.intro (e := [(0, .agg #[.int .i64 a0.f0, .int .i64 a0.f1, .slice A1 a0.f2.length c2]), (1, .int .i64 a1)]) 57 Tryd.func14 rfl Tryd.ntmps14 rfl rfl (Nat.le_of_ble_eq_true rfl) (fun L => ?_)
 unfold swageref11_Offset.f at h
 refine TC.seq ?_
 refine TC.region ?_
 refine TL.cons (TL.box (cs := [.int .i64 a0.f0, .int .i64 a0.f1, .slice A1 a0.f2.length c2]) rfl rfl rfl rfl (fun b5 => ?_))
 refine TL.cons (TO.val rfl rfl rfl (Val.assign rfl) ?_)
 refine TL.cons (TO.val rfl rfl rfl (Val.assign rfl) ?_)
 refine TL.nil ?_
 refine TQ.then_ ?_
 refine TC.seq ?_
 refine TC.region ?_
 refine TL.cons (TO.val rfl rfl rfl (Val.loadsB 0 (cs := [.int .i64 a0.f0, .int .i64 a0.f1, .slice A1 a0.f2.length c2]) agg24 fsz24 rfl rfl rfl rfl) ?_)
 obtain ⟨y6, hy7, h⟩ := bind_no h
 refine TL.cons (TL.callV (Lin := []) (args := [.agg #[.int .i64 a0.f0, .int .i64 a0.f1, .slice A1 a0.f2.length c2]]) rfl rfl rfl hbd16 rfl rfl (swageref11_Right.calls (a0 := a0) hr3 hl4 hy7) rfl ?_)
 rintro _ _ _ _ ⟨rfl, rfl, rfl⟩
 refine TL.cons (TO.val rfl rfl rfl (Val.assign rfl) ?_)
 refine TL.nil ?_
 refine TQ.then_ ?_
 refine TC.seq ?_
 refine TC.seq ?_
 obtain ⟨j12, hj12, h⟩ := jn_no h
 refine TC.tail (fun a W => ∃ (x11 : Bool), j12 x11 = some r ∧ Fr 57 a [(1, .int .i64 a1), (2, .pointer (some ⟨b5, 0, none⟩)), (16, .bool x11)] ∧ Own G (Blk b5 [.int .i64 a0.f0, .int .i64 a0.f1, .slice A1 a0.f2.length c2] 24 :: L) W) ?_ ?_
 ·
  rintro a W ⟨x11, h, hF, hO⟩
  rw [hj12] at h
  refine TQ.use ?_ hF hO
  clear hF hO
  refine TQ.then_ ?_
  refine TC.cond_b rfl h (fun hc14 h => ?_) (fun hc14 h => ?_)
  ·
   refine TC.seq ?_
   refine TC.region ?_
   refine TL.cons (TO.val rfl rfl rfl (Val.assign rfl) ?_)
   refine TL.cons (TO.val rfl rfl rfl (Val.assign rfl) ?_)
   refine TL.nil ?_
   refine TQ.then_ ?_
   refine TC.ret ?_
   refine TQ.thenR ?_
   obtain rfl := Option.some.inj h
   exact TQ.fin (.inl rfl) rfl Tryd.results14 (.tmp rfl (.tmp rfl .nil)) rfl (FRel.mk (Ls := []) [] 1 (Gd.le.refl _) rfl rfl rfl ⟨rfl, rfl, rfl⟩)
  ·
   refine TC.skip ?_
   refine TQ.then_ ?_
   refine TC.seq ?_
   refine TC.seq ?_
   obtain ⟨j19, hj19, h⟩ := jn_no h
   refine TC.tail (fun a W => ∃ (x18 : Bool), j19 x18 = some r ∧ Fr 57 a [(1, .int .i64 a1), (2, .pointer (some ⟨b5, 0, none⟩)), (25, .bool x18)] ∧ Own G (Blk b5 [.int .i64 a0.f0, .int .i64 a0.f1, .slice A1 a0.f2.length c2] 24 :: L) W) ?_ ?_
   ·
    rintro a W ⟨x18, h, hF, hO⟩
    rw [hj19] at h
    refine TQ.use ?_ hF hO
    clear hF hO
    refine TQ.then_ ?_
    refine TC.cond_b rfl h (fun hc36 h => ?_) (fun hc36 h => ?_)
    ·
     refine TC.seq ?_
     refine TC.region ?_
     refine TL.cons (TO.val rfl rfl rfl (Val.move rfl) ?_)
     refine TL.cons (TO.val rfl rfl rfl (Val.fieldAddrB Tryd.underlying24 rfl fsz22 rfl rfl rfl) ?_)
     refine TL.cons (TO.val rfl rfl rfl (Val.loadB 0 agg22 rfl rfl rfl) ?_)
     obtain ⟨y37, hx38, h⟩ := bind_no h
     obtain ⟨ad39, cs45, hA40, hi41, hj42, hcl43, hK44⟩ := Rd.at hr3 hx38
     obtain ⟨A46, c47, rfl, hr48, hl49⟩ := k24_openR hK44
     refine TL.cons (TO.val rfl rfl rfl (Val.indexAddr Tryd.underlying22 fsz24 rfl hA40 rfl hi41 hj42) ?_)
     refine TL.cons (TO.val rfl rfl rfl (Val.loadsS (cs := [.int .i64 y37.f0, .int .i64 y37.f1, .slice A46 y37.f2.length c47]) agg24 fsz24 rfl rfl (Cl.sub (off := 0) (n := 3) hcl43 rfl)) ?_)
     obtain ⟨y50, hy51, h⟩ := bind_no h
     refine TL.cons (TL.callV (Lin := []) (args := [.agg #[.int .i64 y37.f0, .int .i64 y37.f1, .slice A46 y37.f2.length c47]]) rfl rfl rfl hbd30 rfl rfl (swageref11_cells.calls (a0 := y37) hr48 hl49 hy51) rfl ?_)
     rintro _ _ _ _ ⟨rfl, rfl, rfl⟩
     refine TL.cons (TO.val rfl rfl rfl (Val.cmp rfl rfl run_mul) ?_)
     refine TL.cons (TO.val rfl rfl rfl (Val.assign rfl) ?_)
     refine TL.cons (TO.val rfl rfl rfl (Val.assign rfl) ?_)
     refine TL.nil ?_
     refine TQ.then_ ?_
     refine TC.ret ?_
     refine TQ.thenR ?_
     obtain rfl := Option.some.inj h
     exact TQ.fin (.inl rfl) rfl Tryd.results14 (.tmp rfl (.tmp rfl .nil)) rfl (FRel.mk (Ls := []) [] 1 (Gd.le.refl _) rfl rfl rfl ⟨rfl, rfl, rfl⟩)
    ·
     refine TC.skip ?_
     refine TQ.then_ ?_
     refine TC.seq ?_
     refine TC.seq ?_
     obtain ⟨j56, hj56, h⟩ := jn_no h
     refine TC.tail (fun a W => ∃ (x55 : Bool), j56 x55 = some r ∧ Fr 57 a [(1, .int .i64 a1), (2, .pointer (some ⟨b5, 0, none⟩)), (42, .bool x55)] ∧ Own G (Blk b5 [.int .i64 a0.f0, .int .i64 a0.f1, .slice A1 a0.f2.length c2] 24 :: L) W) ?_ ?_
     ·
      rintro a W ⟨x55, h, hF, hO⟩
      rw [hj56] at h
      refine TQ.use ?_ hF hO
      clear hF hO
      refine TQ.then_ ?_
      refine TC.cond_b rfl h (fun hc58 h => ?_) (fun hc58 h => ?_)
      ·
       refine TC.seq ?_
       refine TC.region ?_
       refine TL.cons (TO.val rfl rfl rfl (Val.assign rfl) ?_)
       refine TL.cons (TO.val rfl rfl rfl (Val.assign rfl) ?_)
       refine TL.nil ?_
       refine TQ.then_ ?_
       refine TC.ret ?_
       refine TQ.thenR ?_
       obtain rfl := Option.some.inj h
       exact TQ.fin (.inl rfl) rfl Tryd.results14 (.tmp rfl (.tmp rfl .nil)) rfl (FRel.mk (Ls := []) [] 1 (Gd.le.refl _) rfl rfl rfl ⟨rfl, rfl, rfl⟩)
      ·
       refine TC.skip ?_
       refine TQ.then_ ?_
       refine TC.seq ?_
       refine TC.region ?_
       refine TL.cons (TO.val rfl rfl rfl (Val.assign rfl) ?_)
       refine TL.nil ?_
       refine TQ.then_ ?_
       refine TC.seq ?_
       refine TC.seq ?_
       refine TC.region ?_
       refine TL.cons (TO.val rfl rfl rfl (Val.assign rfl) ?_)
       refine TL.nil ?_
       refine TQ.then_ ?_
       obtain ⟨o160, ho160, ko160⟩ := bind_no h
       clear h
       refine TC.tail (fun a W => ∃ (x159 : Int), x159 = o160 ∧ Fr 57 a [(7, .int .i64 x159)] ∧ Own G (L) W) ?_ ?_
       ·
        rintro a W ⟨x159, rfl, hF, hO⟩
        have h := ko160
        clear ko160 ho160
        refine TQ.use ?_ hF hO
        clear hF hO
        refine TQ.then_ ?_
        refine TC.seq ?_
        refine TC.region ?_
        refine TL.cons (TO.val rfl rfl rfl (Val.move rfl) ?_)
        refine TL.cons (TO.val rfl rfl rfl (Val.assign rfl) ?_)
        refine TL.cons (TO.val rfl rfl rfl (Val.assign rfl) ?_)
        refine TL.nil ?_
        refine TQ.then_ ?_
        refine TC.ret ?_
        obtain rfl := Option.some.inj h
        exact TQ.fin (.inl rfl) rfl Tryd.results14 (.tmp rfl (.tmp rfl .nil)) rfl (FRel.mk (Ls := []) [] 0 (Gd.le.refl _) rfl rfl rfl ⟨rfl, rfl, rfl⟩)
       ·
        refine TC.block ?_
        intro a W hF hO
        have hS : ∃ (x125 : Int) (x126 : Int), swageref11_Offset.l0 a0 a1 (a1.toNat + 1) x125 x126 = some o160 ∧ Fr 57 a [(1, .int .i64 a1), (2, .pointer (some ⟨b5, 0, none⟩)), (7, .int .i64 x125), (8, .int .i64 x126)] ∧ Own G (Blk b5 [.int .i64 a0.f0, .int .i64 a0.f1, .slice A1 a0.f2.length c2] 24 :: L) W := by
         exact ⟨0, 0, ho160, hF.sub ⟨rfl, rfl, rfl, rfl, trivial⟩, hO.selT (Ls := [Blk b5 [.int .i64 a0.f0, .int .i64 a0.f1, .slice A1 a0.f2.length c2] 24]) [0] 1 rfl rfl rfl⟩
        clear hF hO ho160 ko160
        refine TC.loop (fun n161 a W => ∃ (x125 : Int) (x126 : Int), swageref11_Offset.l0 a0 a1 n161 x125 x126 = some o160 ∧ Fr 57 a [(1, .int .i64 a1), (2, .pointer (some ⟨b5, 0, none⟩)), (7, .int .i64 x125), (8, .int .i64 x126)] ∧ Own G (Blk b5 [.int .i64 a0.f0, .int .i64 a0.f1, .slice A1 a0.f2.length c2] 24 :: L) W) ?_ ?_ hS
        ·
         rintro a W ⟨x125, x126, h, hF, hO⟩
         exact none_no h
        ·
         clear hS
         rintro n161 a W ⟨x125, x126, h, hF, hO⟩
         rw [swageref11_Offset.l0] at h
         refine TC.use ?_ hF hO
         clear hF hO
         refine TC.seq ?_
         refine TC.seq ?_
         refine TC.region ?_
         refine TL.cons (TO.val rfl rfl rfl (Val.move rfl) ?_)
         refine TL.cons (TO.val rfl rfl rfl (Val.move rfl) ?_)
         refine TL.cons (TO.val rfl rfl rfl (Val.cmp rfl rfl run_lss) ?_)
         refine TL.nil ?_
         refine TQ.then_ ?_
         refine TC.cond_p rfl h (fun hc195 h => ?_) (fun hc195 h => ?_)
         ·
          refine TC.skip ?_
          refine TQ.then_ ?_
          refine TC.seq ?_
          refine TC.block ?_
          refine TC.region ?_
          refine TL.cons (TO.val rfl rfl rfl (Val.move rfl) ?_)
          refine TL.cons (TO.val rfl rfl rfl (Val.fieldAddrB Tryd.underlying24 rfl fsz22 rfl rfl rfl) ?_)
          refine TL.cons (TO.val rfl rfl rfl (Val.loadB 0 agg22 rfl rfl rfl) ?_)
          refine TL.cons (TO.val rfl rfl rfl (Val.move rfl) ?_)
          obtain ⟨y211, hx212, h⟩ := bind_no h
          obtain ⟨ad213, cs219, hA214, hi215, hj216, hcl217, hK218⟩ := Rd.at hr3 hx212
          obtain ⟨A220, c221, rfl, hr222, hl223⟩ := k24_openR hK218
          refine TL.cons (TO.val rfl rfl rfl (Val.indexAddr Tryd.underlying22 fsz24 rfl hA214 rfl hi215 hj216) ?_)
          refine TL.cons (TO.val rfl rfl rfl (Val.loadsS (cs := [.int .i64 y211.f0, .int .i64 y211.f1, .slice A220 y211.f2.length c221]) agg24 fsz24 rfl rfl (Cl.sub (off := 0) (n := 3) hcl217 rfl)) ?_)
          obtain ⟨y224, hy225, h⟩ := bind_no h
          refine TL.cons (TL.callV (Lin := []) (args := [.agg #[.int .i64 y211.f0, .int .i64 y211.f1, .slice A220 y211.f2.length c221]]) rfl rfl rfl hbd30 rfl rfl (swageref11_cells.calls (a0 := y211) hr222 hl223 hy225) rfl ?_)
          rintro _ _ _ _ ⟨rfl, rfl, rfl⟩
          refine TL.cons (TO.val rfl rfl rfl (Val.cmp rfl rfl run_add) ?_)
          refine TL.cons (TO.val rfl rfl rfl (Val.assign rfl) ?_)
          refine TL.nil ?_
          refine TQ.inB ?_
          refine TQ.then_ ?_
          refine TC.region ?_
          refine TL.cons (TO.val rfl rfl rfl (Val.move rfl) ?_)
          refine TL.cons (TO.val rfl rfl rfl (Val.cmp rfl rfl run_add) ?_)
          refine TL.cons (TO.val rfl rfl rfl (Val.assign rfl) ?_)
          refine TL.nil ?_
          exact fun a W hF hO => ⟨IntKind.i64.wrap (x125 + y224), IntKind.i64.wrap (x126 + 1), h, hF.sub ⟨rfl, rfl, rfl, rfl, trivial⟩, hO.selT (Ls := [Blk b5 [.int .i64 a0.f0, .int .i64 a0.f1, .slice A1 a0.f2.length c2] 24]) [0] 1 rfl rfl rfl⟩
         ·
          refine TC.exit ?_
          refine TQ.thenX ?_
          refine TQ.thenX ?_
          refine TQ.inBX ?_
          exact fun a W hF hO => ⟨x125, Option.some.inj h, hF.sub ⟨rfl, trivial⟩, hO.selT (Ls := []) [] 1 rfl rfl rfl⟩
     ·
      refine TC.region ?_
      refine TL.cons (TO.val rfl rfl rfl (Val.fieldAddrB Tryd.underlying24 rfl fsz3 rfl rfl rfl) ?_)
      refine TL.cons (TO.val rfl rfl rfl (Val.loadB 0 agg3 rfl rfl rfl) ?_)
      refine TL.cons (TO.val rfl rfl rfl (Val.cmp rfl rfl run_neq) ?_)
      refine TL.cons (TO.val rfl rfl rfl (Val.move rfl) ?_)
      refine TK.split (p := (!decide (a0.f0 = 4)) = true) h (fun hg226 h => ?_) (fun hg226 h => ?_)
      ·
       have hk227 : (!decide (a0.f0 = 4)) = true := hg226
       refine TL.cons (TL.not (Wt.no rfl rfl rfl hk227) rfl ?_)
       refine TL.cons (TL.not (Wt.no rfl rfl rfl hk227) rfl ?_)
       refine TL.cons (TL.not (Wt.no rfl rfl rfl hk227) rfl ?_)
       refine TL.cons (TL.not (Wt.no rfl rfl rfl hk227) rfl ?_)
       refine TL.cons (TL.not (Wt.no rfl rfl rfl hk227) rfl ?_)
       refine TL.cons (TO.val rfl rfl rfl (Val.pickY rfl hk227 rfl) ?_)
       refine TL.nil ?_
       exact fun a W hF hO => ⟨true, h, hF.sub ⟨rfl, rfl, rfl, trivial⟩, hO.selT (Ls := [Blk b5 [.int .i64 a0.f0, .int .i64 a0.f1, .slice A1 a0.f2.length c2] 24]) [0] 1 rfl rfl rfl⟩
      ·
       have hk228 : (!decide (a0.f0 = 4)) = false := (by simpa using hg226)
       refine TL.cons (TO.val (Wt.yes rfl rfl rfl hk228) rfl rfl (Val.move rfl) ?_)
       refine TL.cons (TO.val (Wt.yes rfl rfl rfl hk228) rfl rfl (Val.fieldAddrB Tryd.underlying24 rfl fsz22 rfl rfl rfl) ?_)
       refine TL.cons (TO.val (Wt.yes rfl rfl rfl hk228) rfl rfl (Val.loadB 0 agg22 rfl rfl rfl) ?_)
       refine TL.cons (TO.val (Wt.yes rfl rfl rfl hk228) rfl rfl (Val.len Tryd.underlying22 rfl) ?_)
       refine TL.cons (TO.val (Wt.yes rfl rfl rfl hk228) rfl rfl (Val.cmp rfl rfl run_geq) ?_)
       refine TL.cons (TO.val rfl rfl rfl (Val.pickN rfl hk228 rfl) ?_)
       refine TL.nil ?_
       exact fun a W hF hO => ⟨decide ((a0.f2.length : Int) ≤ a1), h, hF.sub ⟨rfl, rfl, rfl, trivial⟩, hO.selT (Ls := [Blk b5 [.int .i64 a0.f0, .int .i64 a0.f1, .slice A1 a0.f2.length c2] 24]) [0] 1 rfl rfl rfl⟩
   ·
    refine TC.region ?_
    refine TL.cons (TO.val rfl rfl rfl (Val.fieldAddrB Tryd.underlying24 rfl fsz3 rfl rfl rfl) ?_)
    refine TL.cons (TO.val rfl rfl rfl (Val.loadB 0 agg3 rfl rfl rfl) ?_)
    refine TL.cons (TO.val rfl rfl rfl (Val.cmp rfl rfl run_eql) ?_)
    refine TL.cons (TO.val rfl rfl rfl (Val.move rfl) ?_)
    refine TK.split (p := a0.f0 = 3) h (fun hg229 h => ?_) (fun hg229 h => ?_)
    ·
     have hk230 : decide (a0.f0 = 3) = true := decide_eq_true hg229
     refine TL.cons (TO.val (Wt.yes rfl rfl rfl hk230) rfl rfl (Val.move rfl) ?_)
     refine TL.cons (TO.val (Wt.yes rfl rfl rfl hk230) rfl rfl (Val.fieldAddrB Tryd.underlying24 rfl fsz3 rfl rfl rfl) ?_)
     refine TL.cons (TO.val (Wt.yes rfl rfl rfl hk230) rfl rfl (Val.loadB 0 agg3 rfl rfl rfl) ?_)
     refine TL.cons (TO.val (Wt.yes rfl rfl rfl hk230) rfl rfl (Val.cmp rfl rfl run_lss) ?_)
     refine TL.cons (TO.val rfl rfl rfl (Val.pickY rfl hk230 rfl) ?_)
     refine TL.nil ?_
     exact fun a W hF hO => ⟨decide (a1 < a0.f1), h, hF.sub ⟨rfl, rfl, rfl, trivial⟩, hO.selT (Ls := [Blk b5 [.int .i64 a0.f0, .int .i64 a0.f1, .slice A1 a0.f2.length c2] 24]) [0] 1 rfl rfl rfl⟩
    ·
     have hk231 : decide (a0.f0 = 3) = false := decide_eq_false hg229
     refine TL.cons (TL.not (Wt.no rfl rfl rfl hk231) rfl ?_)
     refine TL.cons (TL.not (Wt.no rfl rfl rfl hk231) rfl ?_)
     refine TL.cons (TL.not (Wt.no rfl rfl rfl hk231) rfl ?_)
     refine TL.cons (TL.not (Wt.no rfl rfl rfl hk231) rfl ?_)
     refine TL.cons (TO.val rfl rfl rfl (Val.pickN rfl hk231 rfl) ?_)
     refine TL.nil ?_
     exact fun a W hF hO => ⟨false, h, hF.sub ⟨rfl, rfl, rfl, trivial⟩, hO.selT (Ls := [Blk b5 [.int .i64 a0.f0, .int .i64 a0.f1, .slice A1 a0.f2.length c2] 24]) [0] 1 rfl rfl rfl⟩
 ·
  refine TC.region ?_
  refine TL.cons (TO.val rfl rfl rfl (Val.move rfl) ?_)
  refine TL.cons (TO.val rfl rfl rfl (Val.not_ rfl) ?_)
  refine TL.cons (TO.val rfl rfl rfl (Val.move rfl) ?_)
  refine TK.split (p := (!y6) = true) h (fun hg232 h => ?_) (fun hg232 h => ?_)
  ·
   have hk233 : (!y6) = true := hg232
   refine TL.cons (TL.not (Wt.no rfl rfl rfl hk233) rfl ?_)
   refine TL.cons (TL.not (Wt.no rfl rfl rfl hk233) rfl ?_)
   refine TL.cons (TO.val rfl rfl rfl (Val.pickY rfl hk233 rfl) ?_)
   refine TL.nil ?_
   exact fun a W hF hO => ⟨true, h, hF.sub ⟨rfl, rfl, rfl, trivial⟩, hO.selT (Ls := [Blk b5 [.int .i64 a0.f0, .int .i64 a0.f1, .slice A1 a0.f2.length c2] 24]) [0] 1 rfl rfl rfl⟩
  ·
   have hk234 : (!y6) = false := (by simpa using hg232)
   refine TL.cons (TO.val (Wt.yes rfl rfl rfl hk234) rfl rfl (Val.move rfl) ?_)
   refine TL.cons (TO.val (Wt.yes rfl rfl rfl hk234) rfl rfl (Val.cmp rfl rfl run_lss) ?_)
   refine TL.cons (TO.val rfl rfl rfl (Val.pickN rfl hk234 rfl) ?_)
   refine TL.nil ?_
   exact fun a W hF hO => ⟨decide (a1 < 0), h, hF.sub ⟨rfl, rfl, rfl, trivial⟩, hO.selT (Ls := [Blk b5 [.int .i64 a0.f0, .int .i64 a0.f1, .slice A1 a0.f2.length c2] 24]) [0] 1 rfl rfl rfl⟩
end Go.Proofs.YtdklnjmdaecboaaDoor.Sy
set_option linter.unusedVariables false
set_option linter.unusedSimpArgs false
set_option maxRecDepth 100000
set_option maxHeartbeats 4000000
namespace Go.Proofs.YtdklnjmdaecboaaDoor.Sy
open Go Go.RowKit Go.Proofs.YtdklnjmdaecboaaDoorW.PrintWords 
def types_Scalar.f (a0 : S24) : Option Bool := (types_Right.f a0).bind fun (y14 : Bool) => (if y14 = true then (if a0.f0 = 1 then some true else some (decide (a0.f0 = 2))) else some false)
def types_Scalar.post (G : Gd) (r : Bool) (v : Value) (G' : Gd) (Lr : List Ch) : Prop := G = G' ∧ v = .bool r ∧ Lr = []
theorem types_Scalar.calls {G : Gd} {r : Bool} {a0 : S24} {A1 : Option Addr} {c2 : Nat} (hr3 : Rd G k24 A1 a0.f2) (hl4 : a0.f2.length ≤ c2) (h : types_Scalar.f a0 = some r) : Fn Tryd.prog 20 G [] [.agg #[.int .i64 a0.f0, .int .i64 a0.f1, .slice A1 a0.f2.length c2]] (types_Scalar.post G r) := by
 refine Fn.intro (e := [(0, .agg #[.int .i64 a0.f0, .int .i64 a0.f1, .slice A1 a0.f2.length c2])]) 15 Tryd.func20 rfl Tryd.ntmps20 rfl rfl (Nat.le_of_ble_eq_true rfl) (fun L => ?_)
 unfold types_Scalar.f at h
 refine TC.seq ?_
 refine TC.region ?_
 refine TL.cons (TL.box (cs := [.int .i64 a0.f0, .int .i64 a0.f1, .slice A1 a0.f2.length c2]) rfl rfl rfl rfl (fun b5 => ?_))
 refine TL.cons (TO.val rfl rfl rfl (Val.assign rfl) ?_)
 refine TL.nil ?_
 refine TQ.then_ ?_
 refine TC.seq ?_
 refine TC.region ?_
 refine TL.cons (TO.val rfl rfl rfl (Val.loadsB 0 (cs := [.int .i64 a0.f0, .int .i64 a0.f1, .slice A1 a0.f2.length c2]) agg24 fsz24 rfl rfl rfl rfl) ?_)
 obtain ⟨y14, hy15, h⟩ := bind_no h
 refine TL.cons (TL.callV (Lin := []) (args := [.agg #[.int .i64 a0.f0, .int .i64 a0.f1, .slice A1 a0.f2.length c2]]) rfl rfl rfl hbd15 rfl rfl (types_Right.calls (a0 := a0) hr3 hl4 hy15) rfl ?_)
 rintro _ _ _ _ ⟨rfl, rfl, rfl⟩
 refine TL.cons (TO.val rfl rfl rfl (Val.move rfl) ?_)
 refine TK.split (p := y14 = true) h (fun hg16 h => ?_) (fun hg16 h => ?_)
 ·
  have hk17 : y14 = true := hg16
  refine TL.cons (TO.val (Wt.yes rfl rfl rfl hk17) rfl rfl (Val.fieldAddrB Tryd.underlying24 rfl fsz3 rfl rfl rfl) ?_)
  refine TL.cons (TO.val (Wt.yes rfl rfl rfl hk17) rfl rfl (Val.loadB 0 agg3 rfl rfl rfl) ?_)
  refine TL.cons (TO.val (Wt.yes rfl rfl rfl hk17) rfl rfl (Val.cmp rfl rfl run_eql) ?_)
  refine TL.cons (TO.val (Wt.yes rfl rfl rfl hk17) rfl rfl (Val.move rfl) ?_)
  refine TK.split (p := a0.f0 = 1) h (fun hg18 h => ?_) (fun hg18 h => ?_)
  ·
   have hk19 : decide (a0.f0 = 1) = true := decide_eq_true hg18
   refine TL.cons (TL.not (Wt.no rfl rfl rfl hk19) rfl ?_)
   refine TL.cons (TL.not (Wt.no rfl rfl rfl hk19) rfl ?_)
   refine TL.cons (TL.not (Wt.no rfl rfl rfl hk19) rfl ?_)
   refine TL.cons (TO.val (Wt.yes rfl rfl rfl hk17) rfl rfl (Val.pickY rfl hk19 rfl) ?_)
   refine TL.cons (TO.val rfl rfl rfl (Val.pickY rfl hk17 rfl) ?_)
   refine TL.cons (TO.val rfl rfl rfl (Val.assign rfl) ?_)
   refine TL.nil ?_
   refine TQ.then_ ?_
   refine TC.ret ?_
   obtain rfl := Option.some.inj h
   exact TQ.fin (.inl rfl) rfl Tryd.results20 (.tmp rfl .nil) rfl (FRel.mk (Ls := []) [] 1 (Gd.le.refl _) rfl rfl rfl ⟨rfl, rfl, rfl⟩)
  ·
   have hk20 : decide (a0.f0 = 1) = false := decide_eq_false hg18
   refine TL.cons (TO.val (Wt.yes rfl rfl rfl hk20) rfl rfl (Val.fieldAddrB Tryd.underlying24 rfl fsz3 rfl rfl rfl) ?_)
   refine TL.cons (TO.val (Wt.yes rfl rfl rfl hk20) rfl rfl (Val.loadB 0 agg3 rfl rfl rfl) ?_)
   refine TL.cons (TO.val (Wt.yes rfl rfl rfl hk20) rfl rfl (Val.cmp rfl rfl run_eql) ?_)
   refine TL.cons (TO.val (Wt.yes rfl rfl rfl hk17) rfl rfl (Val.pickN rfl hk20 rfl) ?_)
   refine TL.cons (TO.val rfl rfl rfl (Val.pickY rfl hk17 rfl) ?_)
   refine TL.cons (TO.val rfl rfl rfl (Val.assign rfl) ?_)
   refine TL.nil ?_
   refine TQ.then_ ?_
   refine TC.ret ?_
   obtain rfl := Option.some.inj h
   exact TQ.fin (.inl rfl) rfl Tryd.results20 (.tmp rfl .nil) rfl (FRel.mk (Ls := []) [] 1 (Gd.le.refl _) rfl rfl rfl ⟨rfl, rfl, rfl⟩)
 ·
  have hk21 : y14 = false := (by simpa using hg16)
  refine TL.cons (TL.not (Wt.no rfl rfl rfl hk21) rfl ?_)
  refine TL.cons (TL.not (Wt.no rfl rfl rfl hk21) rfl ?_)
  refine TL.cons (TL.not (Wt.no rfl rfl rfl hk21) rfl ?_)
  refine TL.cons (TL.not (Wt.no rfl rfl rfl hk21) rfl ?_)
  refine TL.cons (TL.not rfl rfl ?_)
  refine TL.cons (TL.not rfl rfl ?_)
  refine TL.cons (TL.not rfl rfl ?_)
  refine TL.cons (TL.not (Wt.no rfl rfl rfl hk21) rfl ?_)
  refine TL.cons (TO.val rfl rfl rfl (Val.pickN rfl hk21 rfl) ?_)
  refine TL.cons (TO.val rfl rfl rfl (Val.assign rfl) ?_)
  refine TL.nil ?_
  refine TQ.then_ ?_
  refine TC.ret ?_
  obtain rfl := Option.some.inj h
  exact TQ.fin (.inl rfl) rfl Tryd.results20 (.tmp rfl .nil) rfl (FRel.mk (Ls := []) [] 1 (Gd.le.refl _) rfl rfl rfl ⟨rfl, rfl, rfl⟩)
end Go.Proofs.YtdklnjmdaecboaaDoor.Sy
set_option linter.unusedVariables false
set_option linter.unusedSimpArgs false
set_option maxRecDepth 100000
set_option maxHeartbeats 4000000
namespace Go.Proofs.YtdklnjmdaecboaaDoor.Sy
open Go Go.RowKit Go.Proofs.YtdklnjmdaecboaaDoorW.PrintWords 
def swageref11_Scalar.f (a0 : S24) : Option Bool := (swageref11_Right.f a0).bind fun (y6 : Bool) => (if y6 = true then (if a0.f0 = 1 then some true else some (decide (a0.f0 = 2))) else some false)
def swageref11_Scalar.post (G : Gd) (r : Bool) (v : Value) (G' : Gd) (Lr : List Ch) : Prop := G = G' ∧ v = .bool r ∧ Lr = []
theorem swageref11_Scalar.calls {G : Gd} {r : Bool} {a0 : S24} {A1 : Option Addr} {c2 : Nat} (hr3 : Rd G k24 A1 a0.f2) (hl4 : a0.f2.length ≤ c2) (h : swageref11_Scalar.f a0 = some r) : Fn Tryd.prog 21 G [] [.agg #[.int .i64 a0.f0, .int .i64 a0.f1, .slice A1 a0.f2.length c2]] (swageref11_Scalar.post G r) := by
 refine Fn.intro (e := [(0, .agg #[.int .i64 a0.f0, .int .i64 a0.f1, .slice A1 a0.f2.length c2])]) 17 Tryd.func21 rfl Tryd.ntmps21 rfl rfl (Nat.le_of_ble_eq_true rfl) (fun L => ?_)
 unfold swageref11_Scalar.f at h
 refine TC.seq ?_
 refine TC.region ?_
 refine TL.cons (TL.box (cs := [.int .i64 a0.f0, .int .i64 a0.f1, .slice A1 a0.f2.length c2]) rfl rfl rfl rfl (fun b5 => ?_))
 refine TL.cons (TO.val rfl rfl rfl (Val.assign rfl) ?_)
 refine TL.nil ?_
 refine TQ.then_ ?_
 refine TC.seq ?_
 refine TC.region ?_
 refine TL.cons (TO.val rfl rfl rfl (Val.loadsB 0 (cs := [.int .i64 a0.f0, .int .i64 a0.f1, .slice A1 a0.f2.length c2]) agg24 fsz24 rfl rfl rfl rfl) ?_)
 obtain ⟨y6, hy7, h⟩ := bind_no h
 refine TL.cons (TL.callV (Lin := []) (args := [.agg #[.int .i64 a0.f0, .int .i64 a0.f1, .slice A1 a0.f2.length c2]]) rfl rfl rfl hbd16 rfl rfl (swageref11_Right.calls (a0 := a0) hr3 hl4 hy7) rfl ?_)
 rintro _ _ _ _ ⟨rfl, rfl, rfl⟩
 refine TL.cons (TO.val rfl rfl rfl (Val.assign rfl) ?_)
 refine TL.nil ?_
 refine TQ.then_ ?_
 refine TC.seq ?_
 refine TC.region ?_
 refine TL.cons (TO.val rfl rfl rfl (Val.move rfl) ?_)
 refine TL.cons (TO.val rfl rfl rfl (Val.move rfl) ?_)
 refine TK.split (p := y6 = true) h (fun hg14 h => ?_) (fun hg14 h => ?_)
 ·
  have hk15 : y6 = true := hg14
  refine TL.cons (TO.val (Wt.yes rfl rfl rfl hk15) rfl rfl (Val.fieldAddrB Tryd.underlying24 rfl fsz3 rfl rfl rfl) ?_)
  refine TL.cons (TO.val (Wt.yes rfl rfl rfl hk15) rfl rfl (Val.loadB 0 agg3 rfl rfl rfl) ?_)
  refine TL.cons (TO.val (Wt.yes rfl rfl rfl hk15) rfl rfl (Val.cmp rfl rfl run_eql) ?_)
  refine TL.cons (TO.val (Wt.yes rfl rfl rfl hk15) rfl rfl (Val.move rfl) ?_)
  refine TK.split (p := a0.f0 = 1) h (fun hg16 h => ?_) (fun hg16 h => ?_)
  ·
   have hk17 : decide (a0.f0 = 1) = true := decide_eq_true hg16
   refine TL.cons (TL.not (Wt.no rfl rfl rfl hk17) rfl ?_)
   refine TL.cons (TL.not (Wt.no rfl rfl rfl hk17) rfl ?_)
   refine TL.cons (TL.not (Wt.no rfl rfl rfl hk17) rfl ?_)
   refine TL.cons (TO.val (Wt.yes rfl rfl rfl hk15) rfl rfl (Val.pickY rfl hk17 rfl) ?_)
   refine TL.cons (TO.val rfl rfl rfl (Val.pickY rfl hk15 rfl) ?_)
   refine TL.cons (TO.val rfl rfl rfl (Val.assign rfl) ?_)
   refine TL.nil ?_
   refine TQ.then_ ?_
   refine TC.ret ?_
   obtain rfl := Option.some.inj h
   exact TQ.fin (.inl rfl) rfl Tryd.results21 (.tmp rfl .nil) rfl (FRel.mk (Ls := []) [] 1 (Gd.le.refl _) rfl rfl rfl ⟨rfl, rfl, rfl⟩)
  ·
   have hk18 : decide (a0.f0 = 1) = false := decide_eq_false hg16
   refine TL.cons (TO.val (Wt.yes rfl rfl rfl hk18) rfl rfl (Val.fieldAddrB Tryd.underlying24 rfl fsz3 rfl rfl rfl) ?_)
   refine TL.cons (TO.val (Wt.yes rfl rfl rfl hk18) rfl rfl (Val.loadB 0 agg3 rfl rfl rfl) ?_)
   refine TL.cons (TO.val (Wt.yes rfl rfl rfl hk18) rfl rfl (Val.cmp rfl rfl run_eql) ?_)
   refine TL.cons (TO.val (Wt.yes rfl rfl rfl hk15) rfl rfl (Val.pickN rfl hk18 rfl) ?_)
   refine TL.cons (TO.val rfl rfl rfl (Val.pickY rfl hk15 rfl) ?_)
   refine TL.cons (TO.val rfl rfl rfl (Val.assign rfl) ?_)
   refine TL.nil ?_
   refine TQ.then_ ?_
   refine TC.ret ?_
   obtain rfl := Option.some.inj h
   exact TQ.fin (.inl rfl) rfl Tryd.results21 (.tmp rfl .nil) rfl (FRel.mk (Ls := []) [] 1 (Gd.le.refl _) rfl rfl rfl ⟨rfl, rfl, rfl⟩)
 ·
  have hk19 : y6 = false := (by simpa using hg14)
  refine TL.cons (TL.not (Wt.no rfl rfl rfl hk19) rfl ?_)
  refine TL.cons (TL.not (Wt.no rfl rfl rfl hk19) rfl ?_)
  refine TL.cons (TL.not (Wt.no rfl rfl rfl hk19) rfl ?_)
  refine TL.cons (TL.not (Wt.no rfl rfl rfl hk19) rfl ?_)
  refine TL.cons (TL.not rfl rfl ?_)
  refine TL.cons (TL.not rfl rfl ?_)
  refine TL.cons (TL.not rfl rfl ?_)
  refine TL.cons (TL.not (Wt.no rfl rfl rfl hk19) rfl ?_)
  refine TL.cons (TO.val rfl rfl rfl (Val.pickN rfl hk19 rfl) ?_)
  refine TL.cons (TO.val rfl rfl rfl (Val.assign rfl) ?_)
  refine TL.nil ?_
  refine TQ.then_ ?_
  refine TC.ret ?_
  obtain rfl := Option.some.inj h
  exact TQ.fin (.inl rfl) rfl Tryd.results21 (.tmp rfl .nil) rfl (FRel.mk (Ls := []) [] 1 (Gd.le.refl _) rfl rfl rfl ⟨rfl, rfl, rfl⟩)
end Go.Proofs.YtdklnjmdaecboaaDoor.Sy
set_option linter.unusedVariables false
set_option linter.unusedSimpArgs false
set_option maxRecDepth 100000
set_option maxHeartbeats 4000000
namespace Go.Proofs.YtdklnjmdaecboaaDoor.Sy
open Go Go.RowKit Go.Proofs.YtdklnjmdaecboaaDoorW.PrintWords 
def types_Text.post (G : Gd) (r : ByteArray) (v : Value) (G' : Gd) (Lr : List Ch) : Prop := G = G' ∧ v = .string r ∧ Lr = []
def types_Text.l0 (rec22 : (S24 → Option ByteArray)) (a0 : S24) : Nat → (List ByteArray) → Int → Option ((List ByteArray))
 | 0, _, _ => none
 | n149 + 1, l97, x101 => (if x101 < (a0.f2.length : Int) then (at? a0.f2 x101).bind fun y836 => (rec22 y836).bind fun (y850 : ByteArray) => (if l97.length < 8796093022208 then types_Text.l0 rec22 a0 n149 (l97 ++ [y850]) (IntKind.i64.wrap (x101 + 1)) else none) else some l97)
def types_Text.g (rec22 : (S24 → Option ByteArray)) (a0 : S24) : Option ByteArray := (types_Text.l0 rec22 a0 (a0.f2.length + 1) [] 0).bind fun (l144 : (List ByteArray)) => (if a0.f0 = 1 then some (⟨#[105, 110, 116]⟩ : ByteArray) else jn (γ := ByteArray) (fun (x579 : Bool) => (if x579 = true then some (⟨#[63]⟩ : ByteArray) else (if a0.f0 = 2 then (at? l144 0).bind fun y706 => (if (⟨#[42]⟩ : ByteArray).size + y706.size ≤ 9223372036854775807 then some (cat (⟨#[42]⟩ : ByteArray) y706) else none) else (if a0.f0 = 3 then (at? l144 0).bind fun y784 => (strconv_Itoa.f a0.f1).bind fun (y793 : ByteArray) => (if (⟨#[91]⟩ : ByteArray).size + y793.size ≤ 9223372036854775807 then (if (cat (⟨#[91]⟩ : ByteArray) y793).size + (⟨#[93]⟩ : ByteArray).size ≤ 9223372036854775807 then (if (cat (cat (⟨#[91]⟩ : ByteArray) y793) (⟨#[93]⟩ : ByteArray)).size + y784.size ≤ 9223372036854775807 then some (cat (cat (cat (⟨#[91]⟩ : ByteArray) y793) (⟨#[93]⟩ : ByteArray)) y784) else none) else none) else none) else (strings_Join.f l144 (⟨#[44]⟩ : ByteArray)).bind fun (y804 : ByteArray) => (if (⟨#[40]⟩ : ByteArray).size + y804.size ≤ 9223372036854775807 then (if (cat (⟨#[40]⟩ : ByteArray) y804).size + (⟨#[41]⟩ : ByteArray).size ≤ 9223372036854775807 then some (cat (cat (⟨#[40]⟩ : ByteArray) y804) (⟨#[41]⟩ : ByteArray)) else none) else none))))) (fun (j580 : (Bool → Option ByteArray)) => (if a0.f0 < 1 then j580 true else (if 4 < a0.f0 then j580 true else j580 (decide ((l144.length : Int) = 0))))))
theorem types_Text.step (rec22 : (S24 → Option ByteArray)) (ih22 : ∀ {G : Gd} {r : ByteArray} {a0 : S24} {A1 : Option Addr} {c2 : Nat} (ht : Tab G) (hr3 : Rd G k24 A1 a0.f2) (hl4 : a0.f2.length ≤ c2), rec22 a0 = some r → Fn Tryd.prog 22 G [] [.agg #[.int .i64 a0.f0, .int .i64 a0.f1, .slice A1 a0.f2.length c2]] (types_Text.post G r)) {G : Gd} {r : ByteArray} {a0 : S24} {A1 : Option Addr} {c2 : Nat} (ht : Tab G) (hr3 : Rd G k24 A1 a0.f2) (hl4 : a0.f2.length ≤ c2) (h : types_Text.g rec22 a0 = some r) : Fn Tryd.prog 22 G [] [.agg #[.int .i64 a0.f0, .int .i64 a0.f1, .slice A1 a0.f2.length c2]] (types_Text.post G r) := by
 refine Fn.intro (e := [(0, .agg #[.int .i64 a0.f0, .int .i64 a0.f1, .slice A1 a0.f2.length c2])]) 62 Tryd.func22 rfl Tryd.ntmps22 rfl rfl (Nat.le_of_ble_eq_true rfl) (fun L => ?_)
 unfold types_Text.g at h
 refine TC.seq ?_
 refine TC.region ?_
 refine TL.cons (TL.box (cs := [.int .i64 a0.f0, .int .i64 a0.f1, .slice A1 a0.f2.length c2]) rfl rfl rfl rfl (fun b5 => ?_))
 refine TL.cons (TO.val rfl rfl rfl (Val.assign rfl) ?_)
 refine TL.nil ?_
 refine TQ.then_ ?_
 refine TC.seq ?_
 refine TC.region ?_
 refine TL.cons (TO.val rfl rfl rfl (Val.assign rfl) ?_)
 refine TL.nil ?_
 refine TQ.then_ ?_
 refine TC.seq ?_
 refine TC.seq ?_
 refine TC.region ?_
 refine TL.cons (TO.val rfl rfl rfl (Val.fieldAddrB Tryd.underlying24 rfl fsz22 rfl rfl rfl) ?_)
 refine TL.cons (TO.val rfl rfl rfl (Val.loadB 0 agg22 rfl rfl rfl) ?_)
 refine TL.cons (TO.val rfl rfl rfl (Val.len Tryd.underlying22 rfl) ?_)
 refine TL.cons (TO.val rfl rfl rfl (Val.move rfl) ?_)
 refine TL.nil ?_
 refine TQ.then_ ?_
 obtain ⟨o148, ho148, ko148⟩ := bind_no h
 clear h
 refine TC.tail (fun a W => ∃ (l144 : (List ByteArray)) (A145 : Option Addr) (c146 : Nat), l144 = o148 ∧ Fr 62 a [(1, .pointer (some ⟨b5, 0, none⟩)), (3, .slice A145 l144.length c146)] ∧ Own G (Blk b5 [.int .i64 a0.f0, .int .i64 a0.f1, .slice A1 a0.f2.length c2] 24 :: Row Kd.string 9 (.slice A145 l144.length c146) l144 :: L) W) ?_ ?_
 ·
  rintro a W ⟨l144, A145, c146, rfl, hF, hO⟩
  have h := ko148
  clear ko148 ho148
  refine TQ.use ?_ hF hO
  clear hF hO
  refine TQ.then_ ?_
  refine TC.seq ?_
  refine TC.block ?_
  refine TC.seq ?_
  refine TC.region ?_
  refine TL.cons (TO.val rfl rfl rfl (Val.fieldAddrB Tryd.underlying24 rfl fsz3 rfl rfl rfl) ?_)
  refine TL.cons (TO.val rfl rfl rfl (Val.loadB 0 agg3 rfl rfl rfl) ?_)
  refine TL.cons (TO.val rfl rfl rfl (Val.cmp rfl rfl run_eql) ?_)
  refine TL.cons (TO.val rfl rfl rfl (Val.assign rfl) ?_)
  refine TL.nil ?_
  refine TQ.then_ ?_
  refine TC.cond_p rfl h (fun hc572 h => ?_) (fun hc572 h => ?_)
  ·
   refine TC.seq ?_
   refine TC.region ?_
   refine TL.cons (TO.val rfl rfl rfl (Val.assign rfl) ?_)
   refine TL.nil ?_
   refine TQ.then_ ?_
   refine TC.ret ?_
   refine TQ.inBR ?_
   refine TQ.thenR ?_
   obtain rfl := Option.some.inj h
   exact TQ.fin (.inl rfl) rfl Tryd.results22 (.tmp rfl .nil) rfl (FRel.mk (Ls := []) [] 2 (Gd.le.refl _) rfl rfl rfl ⟨rfl, rfl, rfl⟩)
  ·
   refine TC.seq ?_
   obtain ⟨j580, hj580, h⟩ := jn_no h
   refine TC.tail (fun a W => ∃ (x579 : Bool), j580 x579 = some r ∧ Fr 62 a [(1, .pointer (some ⟨b5, 0, none⟩)), (3, .slice A145 l144.length c146), (23, .bool x579)] ∧ Own G (Blk b5 [.int .i64 a0.f0, .int .i64 a0.f1, .slice A1 a0.f2.length c2] 24 :: Row Kd.string 9 (.slice A145 l144.length c146) l144 :: L) W) ?_ ?_
   ·
    rintro a W ⟨x579, h, hF, hO⟩
    rw [hj580] at h
    refine TQ.use ?_ hF hO
    clear hF hO
    refine TQ.then_ ?_
    refine TC.cond_b rfl h (fun hc640 h => ?_) (fun hc640 h => ?_)
    ·
     refine TC.seq ?_
     refine TC.region ?_
     refine TL.cons (TO.val rfl rfl rfl (Val.assign rfl) ?_)
     refine TL.nil ?_
     refine TQ.then_ ?_
     refine TC.ret ?_
     refine TQ.inBR ?_
     refine TQ.thenR ?_
     obtain rfl := Option.some.inj h
     exact TQ.fin (.inl rfl) rfl Tryd.results22 (.tmp rfl .nil) rfl (FRel.mk (Ls := []) [] 2 (Gd.le.refl _) rfl rfl rfl ⟨rfl, rfl, rfl⟩)
    ·
     refine TC.seq ?_
     refine TC.region ?_
     refine TL.cons (TO.val rfl rfl rfl (Val.fieldAddrB Tryd.underlying24 rfl fsz3 rfl rfl rfl) ?_)
     refine TL.cons (TO.val rfl rfl rfl (Val.loadB 0 agg3 rfl rfl rfl) ?_)
     refine TL.cons (TO.val rfl rfl rfl (Val.cmp rfl rfl run_eql) ?_)
     refine TL.cons (TO.val rfl rfl rfl (Val.assign rfl) ?_)
     refine TL.nil ?_
     refine TQ.then_ ?_
     refine TC.cond_p rfl h (fun hc699 h => ?_) (fun hc699 h => ?_)
     ·
      refine TC.seq ?_
      refine TC.region ?_
      refine TL.cons (TO.val rfl rfl rfl (Val.move rfl) ?_)
      refine TK.sel (Ls := [Row Kd.string 9 (.slice A145 l144.length c146) l144, Blk b5 [.int .i64 a0.f0, .int .i64 a0.f1, .slice A1 a0.f2.length c2] 24]) [1, 0] 2 rfl rfl rfl ?_
      refine TK.share (fun G700 e701 hs702 hb703 => ?_)
      have rd704 : Rd G700 Kd.string A145 l144 := Rd.row hs702
      have le705 : l144.length ≤ c146 := Row.le hs702
      obtain ⟨y706, hx707, h⟩ := bind_no h
      obtain ⟨ad708, cs714, hA709, hi710, hj711, hcl712, hK713⟩ := Rd.at rd704 hx707
      obtain rfl := RdK.string hK713
      refine TL.cons (TO.val rfl rfl rfl (Val.indexAddr Tryd.underlying46 fsz9 rfl hA709 rfl hi710 hj711) ?_)
      refine TL.cons (TO.val rfl rfl rfl (Val.loadS agg9 rfl (hcl712 0 _ rfl)) ?_)
      obtain ⟨hz715, h⟩ := ite_no h
      refine TL.cons (TO.val rfl rfl rfl (Val.addS rfl rfl hz715) ?_)
      refine TL.cons (TO.val rfl rfl rfl (Val.assign rfl) ?_)
      refine TL.nil ?_
      refine TQ.then_ ?_
      refine TC.ret ?_
      refine TQ.inBR ?_
      refine TQ.thenR ?_
      refine TQ.back hb703 ?_
      obtain rfl := Option.some.inj h
      exact TQ.fin (.inl rfl) rfl Tryd.results22 (.tmp rfl .nil) rfl (FRel.mk (Ls := []) [] 2 (Gd.le.refl _) rfl rfl rfl ⟨rfl, rfl, rfl⟩)
     ·
      refine TC.seq ?_
      refine TC.region ?_
      refine TL.cons (TO.val rfl rfl rfl (Val.fieldAddrB Tryd.underlying24 rfl fsz3 rfl rfl rfl) ?_)
      refine TL.cons (TO.val rfl rfl rfl (Val.loadB 0 agg3 rfl rfl rfl) ?_)
      refine TL.cons (TO.val rfl rfl rfl (Val.cmp rfl rfl run_eql) ?_)
      refine TL.cons (TO.val rfl rfl rfl (Val.assign rfl) ?_)
      refine TL.nil ?_
      refine TQ.then_ ?_
      refine TC.cond_p rfl h (fun hc757 h => ?_) (fun hc757 h => ?_)
      ·
       refine TC.seq ?_
       refine TC.sel (Ls := [Row Kd.string 9 (.slice A145 l144.length c146) l144, Blk b5 [.int .i64 a0.f0, .int .i64 a0.f1, .slice A1 a0.f2.length c2] 24]) [1, 0] 2 rfl rfl rfl ?_
       refine TC.share (fun G778 e779 hs780 hb781 => ?_)
       have rd782 : Rd G778 Kd.string A145 l144 := Rd.row hs780
       have le783 : l144.length ≤ c146 := Row.le hs780
       refine TC.regionAny [] [0, 1, 3, 4, 5, 6, 7, 8, 9] mixed (by kernel_rfl) ?_
       refine TA.take 0 rfl (by kernel_rfl) rfl (PQ.then_ (PQ.inB (PQ.then_ PQ.body))) rfl (Val.fieldAddrB Tryd.underlying24 rfl fsz3 rfl rfl rfl) (fun W hO => hO) ?_
       refine TA.take 1 rfl (by kernel_rfl) rfl (PQ.then_ (PQ.inB (PQ.then_ PQ.body))) rfl (Val.loadB 0 agg3 rfl rfl rfl) (fun W hO => hO) ?_
       refine TA.take 5 rfl (by kernel_rfl) rfl (PQ.then_ (PQ.inB (PQ.then_ PQ.body))) rfl (Val.move rfl) (fun W hO => hO) ?_
       obtain ⟨y784, hx785, h⟩ := bind_no h
       obtain ⟨ad786, cs792, hA787, hi788, hj789, hcl790, hK791⟩ := Rd.at rd782 hx785
       obtain rfl := RdK.string hK791
       refine TA.take 6 rfl (by kernel_rfl) rfl (PQ.then_ (PQ.inB (PQ.then_ PQ.body))) rfl (Val.indexAddr Tryd.underlying46 fsz9 rfl hA787 rfl hi788 hj789) (fun W hO => hO) ?_
       refine TA.take 7 rfl (by kernel_rfl) rfl (PQ.then_ (PQ.inB (PQ.then_ PQ.body))) rfl (Val.loadS agg9 rfl (hcl790 0 _ rfl)) (fun W hO => hO) ?_
       obtain ⟨y793, hy794, h⟩ := bind_no h
       refine TA.eff 2 rfl (by kernel_rfl) rfl (TL.callV (Lin := []) (args := [.int .i64 a0.f1]) rfl rfl rfl hbd35 rfl rfl (strconv_Itoa.calls (a0 := a0.f1) (ht.up e779) hy794) rfl ?_)
       rintro _ _ _ _ ⟨rfl, rfl, rfl⟩
       refine TA.next (fun W hO => hO) ?_
       obtain ⟨hz795, h⟩ := ite_no h
       refine TA.take 3 rfl (by kernel_rfl) rfl (PQ.then_ (PQ.inB (PQ.then_ PQ.body))) rfl (Val.addS rfl rfl hz795) (fun W hO => hO) ?_
       obtain ⟨hz796, h⟩ := ite_no h
       refine TA.take 4 rfl (by kernel_rfl) rfl (PQ.then_ (PQ.inB (PQ.then_ PQ.body))) rfl (Val.addS rfl rfl hz796) (fun W hO => hO) ?_
       obtain ⟨hz797, h⟩ := ite_no h
       refine TA.take 8 rfl (by kernel_rfl) rfl (PQ.then_ (PQ.inB (PQ.then_ PQ.body))) rfl (Val.addS rfl rfl hz797) (fun W hO => hO) ?_
       refine TA.take 9 rfl (by kernel_rfl) rfl (PQ.then_ (PQ.inB (PQ.then_ PQ.body))) rfl (Val.assign rfl) (fun W hO => hO) ?_
       refine TA.done (by kernel_rfl) ?_
       refine TQ.then_ ?_
       refine TC.ret ?_
       refine TQ.inBR ?_
       refine TQ.thenR ?_
       refine TQ.back hb781 ?_
       obtain rfl := Option.some.inj h
       exact TQ.fin (.inl rfl) rfl Tryd.results22 (.tmp rfl .nil) rfl (FRel.mk (Ls := []) [] 2 (Gd.le.refl _) rfl rfl rfl ⟨rfl, rfl, rfl⟩)
      ·
       refine TC.skip ?_
       refine TQ.inB ?_
       refine TQ.then_ ?_
       refine TC.seq ?_
       refine TC.region ?_
       refine TL.cons (TO.val rfl rfl rfl (Val.move rfl) ?_)
       refine TK.sel (Ls := [Row Kd.string 9 (.slice A145 l144.length c146) l144, Blk b5 [.int .i64 a0.f0, .int .i64 a0.f1, .slice A1 a0.f2.length c2] 24]) [1, 0] 2 rfl rfl rfl ?_
       refine TK.share (fun G798 e799 hs800 hb801 => ?_)
       have rd802 : Rd G798 Kd.string A145 l144 := Rd.row hs800
       have le803 : l144.length ≤ c146 := Row.le hs800
       obtain ⟨y804, hy805, h⟩ := bind_no h
       refine TL.cons (TL.callV (Lin := []) (args := [.slice A145 l144.length c146, .string (⟨#[44]⟩ : ByteArray)]) rfl rfl rfl hbd36 rfl rfl (strings_Join.calls (a0 := l144) (a1 := (⟨#[44]⟩ : ByteArray)) (Row.pl (k := Kd.string) hs800) rd802 le803 hy805) rfl ?_)
       rintro _ _ _ _ ⟨rfl, rfl, rfl⟩
       obtain ⟨hz806, h⟩ := ite_no h
       refine TL.cons (TO.val rfl rfl rfl (Val.addS rfl rfl hz806) ?_)
       obtain ⟨hz807, h⟩ := ite_no h
       refine TL.cons (TO.val rfl rfl rfl (Val.addS rfl rfl hz807) ?_)
       refine TL.cons (TO.val rfl rfl rfl (Val.assign rfl) ?_)
       refine TL.nil ?_
       refine TQ.then_ ?_
       refine TC.ret ?_
       refine TQ.back hb801 ?_
       obtain rfl := Option.some.inj h
       exact TQ.fin (.inl rfl) rfl Tryd.results22 (.tmp rfl .nil) rfl (FRel.mk (Ls := []) [] 2 (Gd.le.refl _) rfl rfl rfl ⟨rfl, rfl, rfl⟩)
   ·
    refine TC.region ?_
    refine TL.cons (TO.val rfl rfl rfl (Val.fieldAddrB Tryd.underlying24 rfl fsz3 rfl rfl rfl) ?_)
    refine TL.cons (TO.val rfl rfl rfl (Val.loadB 0 agg3 rfl rfl rfl) ?_)
    refine TL.cons (TO.val rfl rfl rfl (Val.cmp rfl rfl run_lss) ?_)
    refine TL.cons (TO.val rfl rfl rfl (Val.move rfl) ?_)
    refine TK.split (p := a0.f0 < 1) h (fun hg808 h => ?_) (fun hg808 h => ?_)
    ·
     have hk809 : decide (a0.f0 < 1) = true := decide_eq_true hg808
     refine TL.cons (TL.not (Wt.no rfl rfl rfl hk809) rfl ?_)
     refine TL.cons (TL.not (Wt.no rfl rfl rfl hk809) rfl ?_)
     refine TL.cons (TL.not (Wt.no rfl rfl rfl hk809) rfl ?_)
     refine TL.cons (TO.val rfl rfl rfl (Val.pickY rfl hk809 rfl) ?_)
     refine TL.cons (TO.val rfl rfl rfl (Val.move rfl) ?_)
     refine TL.cons (TL.not (Wt.no rfl rfl rfl rfl) rfl ?_)
     refine TL.cons (TL.not (Wt.no rfl rfl rfl rfl) rfl ?_)
     refine TL.cons (TL.not (Wt.no rfl rfl rfl rfl) rfl ?_)
     refine TL.cons (TO.val rfl rfl rfl (Val.pickY rfl rfl rfl) ?_)
     refine TL.cons (TO.val rfl rfl rfl (Val.assign rfl) ?_)
     refine TL.nil ?_
     exact fun a W hF hO => ⟨true, h, hF.sub ⟨rfl, rfl, rfl, trivial⟩, hO.selT (Ls := [Blk b5 [.int .i64 a0.f0, .int .i64 a0.f1, .slice A1 a0.f2.length c2] 24, Row Kd.string 9 (.slice A145 l144.length c146) l144]) [0, 1] 2 rfl rfl rfl⟩
    ·
     have hk810 : decide (a0.f0 < 1) = false := decide_eq_false hg808
     refine TL.cons (TO.val (Wt.yes rfl rfl rfl hk810) rfl rfl (Val.fieldAddrB Tryd.underlying24 rfl fsz3 rfl rfl rfl) ?_)
     refine TL.cons (TO.val (Wt.yes rfl rfl rfl hk810) rfl rfl (Val.loadB 0 agg3 rfl rfl rfl) ?_)
     refine TL.cons (TO.val (Wt.yes rfl rfl rfl hk810) rfl rfl (Val.cmp rfl rfl run_gtr) ?_)
     refine TL.cons (TO.val rfl rfl rfl (Val.pickN rfl hk810 rfl) ?_)
     refine TL.cons (TO.val rfl rfl rfl (Val.move rfl) ?_)
     refine TK.split (p := 4 < a0.f0) h (fun hg811 h => ?_) (fun hg811 h => ?_)
     ·
      have hk812 : decide (4 < a0.f0) = true := decide_eq_true hg811
      refine TL.cons (TL.not (Wt.no rfl rfl rfl hk812) rfl ?_)
      refine TL.cons (TL.not (Wt.no rfl rfl rfl hk812) rfl ?_)
      refine TL.cons (TL.not (Wt.no rfl rfl rfl hk812) rfl ?_)
      refine TL.cons (TO.val rfl rfl rfl (Val.pickY rfl hk812 rfl) ?_)
      refine TL.cons (TO.val rfl rfl rfl (Val.assign rfl) ?_)
      refine TL.nil ?_
      exact fun a W hF hO => ⟨true, h, hF.sub ⟨rfl, rfl, rfl, trivial⟩, hO.selT (Ls := [Blk b5 [.int .i64 a0.f0, .int .i64 a0.f1, .slice A1 a0.f2.length c2] 24, Row Kd.string 9 (.slice A145 l144.length c146) l144]) [0, 1] 2 rfl rfl rfl⟩
     ·
      have hk813 : decide (4 < a0.f0) = false := decide_eq_false hg811
      refine TL.cons (TO.val (Wt.yes rfl rfl rfl hk813) rfl rfl (Val.move rfl) ?_)
      refine TL.cons (TO.val (Wt.yes rfl rfl rfl hk813) rfl rfl (Val.len Tryd.underlying46 rfl) ?_)
      refine TL.cons (TO.val (Wt.yes rfl rfl rfl hk813) rfl rfl (Val.cmp rfl rfl run_eql) ?_)
      refine TL.cons (TO.val rfl rfl rfl (Val.pickN rfl hk813 rfl) ?_)
      refine TL.cons (TO.val rfl rfl rfl (Val.assign rfl) ?_)
      refine TL.nil ?_
      exact fun a W hF hO => ⟨decide ((l144.length : Int) = 0), h, hF.sub ⟨rfl, rfl, rfl, trivial⟩, hO.selT (Ls := [Blk b5 [.int .i64 a0.f0, .int .i64 a0.f1, .slice A1 a0.f2.length c2] 24, Row Kd.string 9 (.slice A145 l144.length c146) l144]) [0, 1] 2 rfl rfl rfl⟩
 ·
  refine TC.block ?_
  intro a W hF hO
  have hS : ∃ (l97 : (List ByteArray)) (x101 : Int) (A98 : Option Addr) (c99 : Nat), types_Text.l0 rec22 a0 (a0.f2.length + 1) l97 x101 = some o148 ∧ Fr 62 a [(1, .pointer (some ⟨b5, 0, none⟩)), (3, .slice A98 l97.length c99), (7, .slice A1 a0.f2.length c2), (8, .int .i64 (a0.f2.length : Int)), (9, .int .i64 x101)] ∧ Own G (Blk b5 [.int .i64 a0.f0, .int .i64 a0.f1, .slice A1 a0.f2.length c2] 24 :: Row Kd.string 9 (.slice A98 l97.length c99) l97 :: L) W := by
   exact ⟨[], 0, none, 0, ho148, hF.sub ⟨rfl, rfl, rfl, rfl, rfl, trivial⟩, (Own.nilRow Kd.string 9 hO).selT (Ls := [Blk b5 [.int .i64 a0.f0, .int .i64 a0.f1, .slice A1 a0.f2.length c2] 24, Row Kd.string 9 (.slice none ([] : List ByteArray).length 0) ([] : List ByteArray)]) [1, 0] 2 rfl rfl rfl⟩
  clear hF hO ho148 ko148
  refine TC.loop (fun n149 a W => ∃ (l97 : (List ByteArray)) (x101 : Int) (A98 : Option Addr) (c99 : Nat), types_Text.l0 rec22 a0 n149 l97 x101 = some o148 ∧ Fr 62 a [(1, .pointer (some ⟨b5, 0, none⟩)), (3, .slice A98 l97.length c99), (7, .slice A1 a0.f2.length c2), (8, .int .i64 (a0.f2.length : Int)), (9, .int .i64 x101)] ∧ Own G (Blk b5 [.int .i64 a0.f0, .int .i64 a0.f1, .slice A1 a0.f2.length c2] 24 :: Row Kd.string 9 (.slice A98 l97.length c99) l97 :: L) W) ?_ ?_ hS
  ·
   rintro a W ⟨l97, x101, A98, c99, h, hF, hO⟩
   exact none_no h
  ·
   clear hS
   rintro n149 a W ⟨l97, x101, A98, c99, h, hF, hO⟩
   rw [types_Text.l0] at h
   refine TC.use ?_ hF hO
   clear hF hO
   refine TC.seq ?_
   refine TC.region ?_
   refine TL.cons (TO.val rfl rfl rfl (Val.cmp rfl rfl run_lss) ?_)
   refine TL.nil ?_
   refine TQ.then_ ?_
   refine TC.seq ?_
   refine TC.cond_p rfl h (fun hc815 h => ?_) (fun hc815 h => ?_)
   ·
    refine TC.skip ?_
    refine TQ.then_ ?_
    refine TC.seq ?_
    refine TC.block ?_
    refine TC.seq ?_
    refine TC.region ?_
    obtain ⟨y836, hx837, h⟩ := bind_no h
    obtain ⟨ad838, cs844, hA839, hi840, hj841, hcl842, hK843⟩ := Rd.at hr3 hx837
    obtain ⟨A845, c846, rfl, hr847, hl848⟩ := k24_openR hK843
    refine TL.cons (TO.val rfl rfl rfl (Val.indexAddr Tryd.underlying22 fsz24 rfl hA839 rfl hi840 hj841) ?_)
    refine TL.cons (TO.val rfl rfl rfl (Val.loadsS (cs := [.int .i64 y836.f0, .int .i64 y836.f1, .slice A845 y836.f2.length c846]) agg24 fsz24 rfl rfl (Cl.sub (off := 0) (n := 3) hcl842 rfl)) ?_)
    refine TL.cons (TL.alloc (cs := [.int .i64 0, .int .i64 0, .slice none 0 0]) rfl rfl zr24 rfl (fun b849 => ?_))
    refine TL.cons (TL.store 0 (ds := [.int .i64 y836.f0, .int .i64 y836.f1, .slice A845 y836.f2.length c846]) (cs' := [.int .i64 y836.f0, .int .i64 y836.f1, .slice A845 y836.f2.length c846]) (L' := (Blk b849 [.int .i64 y836.f0, .int .i64 y836.f1, .slice A845 y836.f2.length c846] 24 :: Blk b5 [.int .i64 a0.f0, .int .i64 a0.f1, .slice A1 a0.f2.length c2] 24 :: Row Kd.string 9 (.slice A98 l97.length c99) l97 :: L)) rfl fsz24 rfl rfl rfl rfl rfl (Nat.le_of_ble_eq_true rfl) rfl rfl ?_)
    refine TL.nil ?_
    refine TQ.then_ ?_
    refine TC.region ?_
    refine TL.cons (TO.val rfl rfl rfl (Val.move rfl) ?_)
    refine TL.cons (TO.val rfl rfl rfl (Val.loadsB 0 (cs := [.int .i64 y836.f0, .int .i64 y836.f1, .slice A845 y836.f2.length c846]) agg24 fsz24 rfl rfl rfl rfl) ?_)
    obtain ⟨y850, hy851, h⟩ := bind_no h
    refine TL.cons (TL.callV (Lin := []) (args := [.agg #[.int .i64 y836.f0, .int .i64 y836.f1, .slice A845 y836.f2.length c846]]) rfl rfl rfl hbd22 rfl rfl (ih22 (a0 := y836) ht hr847 hl848 hy851) rfl ?_)
    rintro _ _ _ _ ⟨rfl, rfl, rfl⟩
    refine TL.cons (TL.buildSlice (xs := [.tmp 15]) (vs := [.string y850]) (cs := [.string y850]) rfl rfl Tryd.underlying46 zs9 rfl rfl rfl rfl rfl rfl rfl rfl (fun b852 => ?_))
    refine TK.new (El.of (k := Kd.string) (xv := y850) (cs := [.string y850]) (fun W B => rfl)) ?_
    refine TK.sel (Ls := [Row Kd.string 9 (.slice A98 l97.length c99) l97, El Kd.string y850 [.string y850], Blk b852 [.string y850] 9, Blk b849 [.int .i64 y836.f0, .int .i64 y836.f1, .slice A845 y836.f2.length c846] 24, Blk b5 [.int .i64 a0.f0, .int .i64 a0.f1, .slice A1 a0.f2.length c2] 24]) [4, 0, 1, 2, 3] 5 rfl rfl rfl ?_
    obtain ⟨ha853, h⟩ := ite_no h
    refine TL.cons (TL.append (xs := l97) Kd.string rfl rfl Tryd.underlying46 inf9 rfl (Nat.le_of_ble_eq_true rfl) (Nat.le_of_ble_eq_true rfl) rfl rfl (by omega) (fun A854 c855 => ?_))
    refine TL.cons (TO.val rfl rfl rfl (Val.assign rfl) ?_)
    refine TL.nil ?_
    refine TQ.inB ?_
    refine TQ.then_ ?_
    refine TC.region ?_
    refine TL.cons (TO.val rfl rfl rfl (Val.cmp rfl rfl run_add) ?_)
    refine TL.cons (TO.val rfl rfl rfl (Val.move rfl) ?_)
    refine TL.nil ?_
    exact fun a W hF hO => ⟨(l97 ++ [y850]), IntKind.i64.wrap (x101 + 1), A854, c855, h, hF.sub ⟨rfl, rfl, rfl, rfl, rfl, trivial⟩, hO.selT (Ls := [Blk b5 [.int .i64 a0.f0, .int .i64 a0.f1, .slice A1 a0.f2.length c2] 24, Row Kd.string 9 (.slice A854 (l97 ++ [y850]).length c855) (l97 ++ [y850])]) [2, 0] 3 rfl rfl rfl⟩
   ·
    refine TC.exit ?_
    refine TQ.thenX ?_
    refine TQ.thenX ?_
    refine TQ.inBX ?_
    exact fun a W hF hO => ⟨l97, A98, c99, Option.some.inj h, hF.sub ⟨rfl, rfl, trivial⟩, hO.selT (Ls := [Blk b5 [.int .i64 a0.f0, .int .i64 a0.f1, .slice A1 a0.f2.length c2] 24, Row Kd.string 9 (.slice A98 l97.length c99) l97]) [0, 1] 2 rfl rfl rfl⟩
def types_Text.fix : Nat → (S24 → Option ByteArray)
 | 0 => (fun _ => none)
 | n + 1 => types_Text.g (types_Text.fix n)
theorem types_Text.fixc : ∀ k, (∀ {G : Gd} {r : ByteArray} {a0 : S24} {A1 : Option Addr} {c2 : Nat} (ht : Tab G) (hr3 : Rd G k24 A1 a0.f2) (hl4 : a0.f2.length ≤ c2), (types_Text.fix k) a0 = some r → Fn Tryd.prog 22 G [] [.agg #[.int .i64 a0.f0, .int .i64 a0.f1, .slice A1 a0.f2.length c2]] (types_Text.post G r)) ∧ True
 | 0 => ⟨(by intros; contradiction), trivial⟩
 | k + 1 => by
  have ih := types_Text.fixc k
  exact ⟨(by
   intro G r a0 A1 c2 ht hr3 hl4 h
   exact types_Text.step _ ih.1 ht hr3 hl4 h), trivial⟩
def types_Text.f (a0 : S24) : Option ByteArray := (types_Text.fix 1000) a0
theorem types_Text.calls {G : Gd} {r : ByteArray} {a0 : S24} {A1 : Option Addr} {c2 : Nat} (ht : Tab G) (hr3 : Rd G k24 A1 a0.f2) (hl4 : a0.f2.length ≤ c2) (h : types_Text.f a0 = some r) : Fn Tryd.prog 22 G [] [.agg #[.int .i64 a0.f0, .int .i64 a0.f1, .slice A1 a0.f2.length c2]] (types_Text.post G r) := (types_Text.fixc 1000).1 ht hr3 hl4 h
end Go.Proofs.YtdklnjmdaecboaaDoor.Sy
set_option linter.unusedVariables false
set_option linter.unusedSimpArgs false
set_option maxRecDepth 100000
set_option maxHeartbeats 4000000
namespace Go.Proofs.YtdklnjmdaecboaaDoor.Sy
open Go Go.RowKit Go.Proofs.YtdklnjmdaecboaaDoorW.PrintWords 
def swageref05_digits.post (G : Gd) (r : ByteArray) (v : Value) (G' : Gd) (Lr : List Ch) : Prop := G = G' ∧ v = .string r ∧ Lr = []
def swageref05_digits.g (rec54 : (Int → Option ByteArray)) (a0 : Int) : Option ByteArray := (if ¬ (10 : Int) = 0 then (if a0 < 10 then some (strOfNums ([IntKind.u8.wrap (IntKind.i64.wrap (48 + (a0.tmod 10)))] : List Int)) else (if ¬ (10 : Int) = 0 then (rec54 (IntKind.i64.wrap (a0.tdiv 10))).bind fun (y7 : ByteArray) => (if y7.size + (strOfNums ([IntKind.u8.wrap (IntKind.i64.wrap (48 + (a0.tmod 10)))] : List Int)).size ≤ 9223372036854775807 then some (cat y7 (strOfNums ([IntKind.u8.wrap (IntKind.i64.wrap (48 + (a0.tmod 10)))] : List Int))) else none) else none)) else none)
theorem swageref05_digits.step (rec54 : (Int → Option ByteArray)) (ih54 : ∀ {G : Gd} {r : ByteArray} {a0 : Int}, rec54 a0 = some r → Fn Tryd.prog 54 G [] [.int .i64 a0] (swageref05_digits.post G r)) {G : Gd} {r : ByteArray} {a0 : Int} (h : swageref05_digits.g rec54 a0 = some r) : Fn Tryd.prog 54 G [] [.int .i64 a0] (swageref05_digits.post G r) := by
 refine Fn.intro (e := [(0, .int .i64 a0)]) 18 Tryd.func54 rfl Tryd.ntmps54 rfl rfl (Nat.le_of_ble_eq_true rfl) (fun L => ?_)
 unfold swageref05_digits.g at h
 refine TC.seq ?_
 refine TC.region ?_
 refine TL.cons (TO.val rfl rfl rfl (Val.assign rfl) ?_)
 refine TL.nil ?_
 refine TQ.then_ ?_
 refine TC.seq ?_
 refine TC.region ?_
 refine TL.cons (TO.val rfl rfl rfl (Val.move rfl) ?_)
 obtain ⟨hz1, h⟩ := ite_no h
 refine TL.cons (TO.val rfl rfl rfl (Val.cmp rfl rfl (run_rem hz1)) ?_)
 refine TL.cons (TO.val rfl rfl rfl (Val.cmp rfl rfl run_add) ?_)
 refine TL.cons (TO.val rfl rfl rfl (Val.convI Tryd.underlying3 Tryd.underlying5 rfl) ?_)
 refine TL.cons (TL.buildSlice (xs := [.tmp 7]) (vs := [.int .u8 (IntKind.u8.wrap (IntKind.i64.wrap (48 + (a0.tmod 10))))]) (cs := [.int .u8 (IntKind.u8.wrap (IntKind.i64.wrap (48 + (a0.tmod 10))))]) rfl rfl Tryd.underlying53 zs5 rfl rfl rfl rfl rfl rfl rfl rfl (fun b2 => ?_))
 refine TK.new (Els.nil (Kd.int .u8)) ?_
 refine TK.new (El.of (k := (Kd.int .u8)) (xv := IntKind.u8.wrap (IntKind.i64.wrap (48 + (a0.tmod 10)))) (cs := [.int .u8 (IntKind.u8.wrap (IntKind.i64.wrap (48 + (a0.tmod 10))))]) (fun W B => rfl)) ?_
 refine TK.sel (Ls := [Els (Kd.int .u8) [] [], El (Kd.int .u8) (IntKind.u8.wrap (IntKind.i64.wrap (48 + (a0.tmod 10)))) [.int .u8 (IntKind.u8.wrap (IntKind.i64.wrap (48 + (a0.tmod 10))))], Blk b2 [.int .u8 (IntKind.u8.wrap (IntKind.i64.wrap (48 + (a0.tmod 10))))] 5]) [1, 0, 2] 3 rfl rfl rfl ?_
 refine TK.two (ch := Els (Kd.int .u8) [IntKind.u8.wrap (IntKind.i64.wrap (48 + (a0.tmod 10)))] [.int .u8 (IntKind.u8.wrap (IntKind.i64.wrap (48 + (a0.tmod 10))))]) (Els.snoc (Kd.int .u8)) ?_
 refine TK.sel (Ls := [Blk b2 [.int .u8 (IntKind.u8.wrap (IntKind.i64.wrap (48 + (a0.tmod 10))))] 5, Els (Kd.int .u8) [IntKind.u8.wrap (IntKind.i64.wrap (48 + (a0.tmod 10)))] [.int .u8 (IntKind.u8.wrap (IntKind.i64.wrap (48 + (a0.tmod 10))))]]) [1, 0] 2 rfl rfl rfl ?_
 refine TK.two (ch := Row (Kd.int .u8) 5 (.slice (some ⟨b2, 0, none⟩) 1 1) ([IntKind.u8.wrap (IntKind.i64.wrap (48 + (a0.tmod 10)))] : List Int)) (Row.lit (Kd.int .u8) rfl rfl) ?_
 refine TL.cons (TO.val rfl rfl rfl (Val.convBS 0 Tryd.underlying53 Tryd.underlying5 Tryd.underlying9 rfl rfl) ?_)
 refine TL.cons (TO.val rfl rfl rfl (Val.assign rfl) ?_)
 refine TL.nil ?_
 refine TQ.then_ ?_
 refine TC.seq ?_
 refine TC.seq ?_
 refine TC.region ?_
 refine TL.cons (TO.val rfl rfl rfl (Val.move rfl) ?_)
 refine TL.cons (TO.val rfl rfl rfl (Val.cmp rfl rfl run_lss) ?_)
 refine TL.nil ?_
 refine TQ.then_ ?_
 refine TC.cond_p rfl h (fun hc5 h => ?_) (fun hc5 h => ?_)
 ·
  refine TC.seq ?_
  refine TC.region ?_
  refine TL.cons (TO.val rfl rfl rfl (Val.move rfl) ?_)
  refine TL.cons (TO.val rfl rfl rfl (Val.assign rfl) ?_)
  refine TL.nil ?_
  refine TQ.then_ ?_
  refine TC.ret ?_
  refine TQ.thenR ?_
  obtain rfl := Option.some.inj h
  exact TQ.fin (.inl rfl) rfl Tryd.results54 (.tmp rfl .nil) rfl (FRel.mk (Ls := []) [] 1 (Gd.le.refl _) rfl rfl rfl ⟨rfl, rfl, rfl⟩)
 ·
  refine TC.skip ?_
  refine TQ.then_ ?_
  refine TC.seq ?_
  refine TC.region ?_
  refine TL.cons (TO.val rfl rfl rfl (Val.move rfl) ?_)
  obtain ⟨hz6, h⟩ := ite_no h
  refine TL.cons (TO.val rfl rfl rfl (Val.cmp rfl rfl (run_quo hz6)) ?_)
  obtain ⟨y7, hy8, h⟩ := bind_no h
  refine TL.cons (TL.callV (Lin := []) (args := [.int .i64 (IntKind.i64.wrap (a0.tdiv 10))]) rfl rfl rfl hbd54 rfl rfl (ih54 (a0 := IntKind.i64.wrap (a0.tdiv 10)) hy8) rfl ?_)
  rintro _ _ _ _ ⟨rfl, rfl, rfl⟩
  refine TL.cons (TO.val rfl rfl rfl (Val.move rfl) ?_)
  obtain ⟨hz9, h⟩ := ite_no h
  refine TL.cons (TO.val rfl rfl rfl (Val.addS rfl rfl hz9) ?_)
  refine TL.cons (TO.val rfl rfl rfl (Val.assign rfl) ?_)
  refine TL.nil ?_
  refine TQ.then_ ?_
  refine TC.ret ?_
  obtain rfl := Option.some.inj h
  exact TQ.fin (.inl rfl) rfl Tryd.results54 (.tmp rfl .nil) rfl (FRel.mk (Ls := []) [] 1 (Gd.le.refl _) rfl rfl rfl ⟨rfl, rfl, rfl⟩)
def swageref05_digits.fix : Nat → (Int → Option ByteArray)
 | 0 => (fun _ => none)
 | n + 1 => swageref05_digits.g (swageref05_digits.fix n)
theorem swageref05_digits.fixc : ∀ k, (∀ {G : Gd} {r : ByteArray} {a0 : Int}, (swageref05_digits.fix k) a0 = some r → Fn Tryd.prog 54 G [] [.int .i64 a0] (swageref05_digits.post G r)) ∧ True
 | 0 => ⟨(by intros; contradiction), trivial⟩
 | k + 1 => by
  have ih := swageref05_digits.fixc k
  exact ⟨(by
   intro G r a0 h
   exact swageref05_digits.step _ ih.1  h), trivial⟩
def swageref05_digits.f (a0 : Int) : Option ByteArray := (swageref05_digits.fix 1000) a0
theorem swageref05_digits.calls {G : Gd} {r : ByteArray} {a0 : Int} (h : swageref05_digits.f a0 = some r) : Fn Tryd.prog 54 G [] [.int .i64 a0] (swageref05_digits.post G r) := (swageref05_digits.fixc 1000).1  h
end Go.Proofs.YtdklnjmdaecboaaDoor.Sy
set_option linter.unusedVariables false
set_option linter.unusedSimpArgs false
set_option maxRecDepth 100000
set_option maxHeartbeats 4000000
namespace Go.Proofs.YtdklnjmdaecboaaDoor.Sy
open Go Go.RowKit Go.Proofs.YtdklnjmdaecboaaDoorW.PrintWords 
def swageref05_number.f (a0 : Int) : Option ByteArray := (if 0 ≤ a0 then (swageref05_digits.f a0).bind fun (y5 : ByteArray) => some y5 else (if a0 = (-9223372036854775808) then some (⟨#[45, 57, 50, 50, 51, 51, 55, 50, 48, 51, 54, 56, 53, 52, 55, 55, 53, 56, 48, 56]⟩ : ByteArray) else (swageref05_digits.f (IntKind.i64.wrap (0 - a0))).bind fun (y9 : ByteArray) => (if (⟨#[45]⟩ : ByteArray).size + y9.size ≤ 9223372036854775807 then some (cat (⟨#[45]⟩ : ByteArray) y9) else none)))
def swageref05_number.post (G : Gd) (r : ByteArray) (v : Value) (G' : Gd) (Lr : List Ch) : Prop := G = G' ∧ v = .string r ∧ Lr = []
theorem swageref05_number.calls {G : Gd} {r : ByteArray} {a0 : Int} (h : swageref05_number.f a0 = some r) : Fn Tryd.prog 46 G [] [.int .i64 a0] (swageref05_number.post G r) := by
 refine Fn.intro (e := [(0, .int .i64 a0)]) 13 Tryd.func46 rfl Tryd.ntmps46 rfl rfl (Nat.le_of_ble_eq_true rfl) (fun L => ?_)
 unfold swageref05_number.f at h
 refine TC.seq ?_
 refine TC.region ?_
 refine TL.cons (TO.val rfl rfl rfl (Val.assign rfl) ?_)
 refine TL.nil ?_
 refine TQ.then_ ?_
 refine TC.seq ?_
 refine TC.seq ?_
 refine TC.region ?_
 refine TL.cons (TO.val rfl rfl rfl (Val.move rfl) ?_)
 refine TL.cons (TO.val rfl rfl rfl (Val.cmp rfl rfl run_geq) ?_)
 refine TL.nil ?_
 refine TQ.then_ ?_
 refine TC.cond_p rfl h (fun hc4 h => ?_) (fun hc4 h => ?_)
 ·
  refine TC.seq ?_
  refine TC.region ?_
  refine TL.cons (TO.val rfl rfl rfl (Val.move rfl) ?_)
  obtain ⟨y5, hy6, h⟩ := bind_no h
  refine TL.cons (TL.callV (Lin := []) (args := [.int .i64 a0]) rfl rfl rfl hbd54 rfl rfl (swageref05_digits.calls (a0 := a0) hy6) rfl ?_)
  rintro _ _ _ _ ⟨rfl, rfl, rfl⟩
  refine TL.cons (TO.val rfl rfl rfl (Val.assign rfl) ?_)
  refine TL.nil ?_
  refine TQ.then_ ?_
  refine TC.ret ?_
  refine TQ.thenR ?_
  obtain rfl := Option.some.inj h
  exact TQ.fin (.inl rfl) rfl Tryd.results46 (.tmp rfl .nil) rfl (FRel.mk (Ls := []) [] 0 (Gd.le.refl _) rfl rfl rfl ⟨rfl, rfl, rfl⟩)
 ·
  refine TC.skip ?_
  refine TQ.then_ ?_
  refine TC.seq ?_
  refine TC.seq ?_
  refine TC.region ?_
  refine TL.cons (TO.val rfl rfl rfl (Val.move rfl) ?_)
  refine TL.cons (TO.val rfl rfl rfl (Val.cmp rfl rfl run_eql) ?_)
  refine TL.nil ?_
  refine TQ.then_ ?_
  refine TC.cond_p rfl h (fun hc8 h => ?_) (fun hc8 h => ?_)
  ·
   refine TC.seq ?_
   refine TC.region ?_
   refine TL.cons (TO.val rfl rfl rfl (Val.assign rfl) ?_)
   refine TL.nil ?_
   refine TQ.then_ ?_
   refine TC.ret ?_
   refine TQ.thenR ?_
   obtain rfl := Option.some.inj h
   exact TQ.fin (.inl rfl) rfl Tryd.results46 (.tmp rfl .nil) rfl (FRel.mk (Ls := []) [] 0 (Gd.le.refl _) rfl rfl rfl ⟨rfl, rfl, rfl⟩)
  ·
   refine TC.skip ?_
   refine TQ.then_ ?_
   refine TC.seq ?_
   refine TC.region ?_
   refine TL.cons (TO.val rfl rfl rfl (Val.move rfl) ?_)
   refine TL.cons (TO.val rfl rfl rfl (Val.neg rfl) ?_)
   obtain ⟨y9, hy10, h⟩ := bind_no h
   refine TL.cons (TL.callV (Lin := []) (args := [.int .i64 (IntKind.i64.wrap (0 - a0))]) rfl rfl rfl hbd54 rfl rfl (swageref05_digits.calls (a0 := IntKind.i64.wrap (0 - a0)) hy10) rfl ?_)
   rintro _ _ _ _ ⟨rfl, rfl, rfl⟩
   obtain ⟨hz11, h⟩ := ite_no h
   refine TL.cons (TO.val rfl rfl rfl (Val.addS rfl rfl hz11) ?_)
   refine TL.cons (TO.val rfl rfl rfl (Val.assign rfl) ?_)
   refine TL.nil ?_
   refine TQ.then_ ?_
   refine TC.ret ?_
   obtain rfl := Option.some.inj h
   exact TQ.fin (.inl rfl) rfl Tryd.results46 (.tmp rfl .nil) rfl (FRel.mk (Ls := []) [] 0 (Gd.le.refl _) rfl rfl rfl ⟨rfl, rfl, rfl⟩)
end Go.Proofs.YtdklnjmdaecboaaDoor.Sy
set_option linter.unusedVariables false
set_option linter.unusedSimpArgs false
set_option maxRecDepth 100000
set_option maxHeartbeats 4000000
namespace Go.Proofs.YtdklnjmdaecboaaDoor.Sy
open Go Go.RowKit Go.Proofs.YtdklnjmdaecboaaDoorW.PrintWords 
def swageref05_Number.f (a0 : Int) : Option ByteArray := (swageref05_number.f a0).bind fun (y1 : ByteArray) => some y1
def swageref05_Number.post (G : Gd) (r : ByteArray) (v : Value) (G' : Gd) (Lr : List Ch) : Prop := G = G' ∧ v = .string r ∧ Lr = []
theorem swageref05_Number.calls {G : Gd} {r : ByteArray} {a0 : Int} (h : swageref05_Number.f a0 = some r) : Fn Tryd.prog 37 G [] [.int .i64 a0] (swageref05_Number.post G r) := by
 refine Fn.intro (e := [(0, .int .i64 a0)]) 5 Tryd.func37 rfl Tryd.ntmps37 rfl rfl (Nat.le_of_ble_eq_true rfl) (fun L => ?_)
 unfold swageref05_Number.f at h
 refine TC.seq ?_
 refine TC.region ?_
 refine TL.cons (TO.val rfl rfl rfl (Val.assign rfl) ?_)
 refine TL.nil ?_
 refine TQ.then_ ?_
 refine TC.seq ?_
 refine TC.region ?_
 refine TL.cons (TO.val rfl rfl rfl (Val.move rfl) ?_)
 obtain ⟨y1, hy2, h⟩ := bind_no h
 refine TL.cons (TL.callV (Lin := []) (args := [.int .i64 a0]) rfl rfl rfl hbd46 rfl rfl (swageref05_number.calls (a0 := a0) hy2) rfl ?_)
 rintro _ _ _ _ ⟨rfl, rfl, rfl⟩
 refine TL.cons (TO.val rfl rfl rfl (Val.assign rfl) ?_)
 refine TL.nil ?_
 refine TQ.then_ ?_
 refine TC.ret ?_
 obtain rfl := Option.some.inj h
 exact TQ.fin (.inl rfl) rfl Tryd.results37 (.tmp rfl .nil) rfl (FRel.mk (Ls := []) [] 0 (Gd.le.refl _) rfl rfl rfl ⟨rfl, rfl, rfl⟩)
end Go.Proofs.YtdklnjmdaecboaaDoor.Sy
set_option linter.unusedVariables false
set_option linter.unusedSimpArgs false
set_option maxRecDepth 100000
set_option maxHeartbeats 4000000
namespace Go.Proofs.YtdklnjmdaecboaaDoor.Sy
open Go Go.RowKit Go.Proofs.YtdklnjmdaecboaaDoorW.PrintWords 
def swageref11_Text.post (G : Gd) (r : ByteArray) (v : Value) (G' : Gd) (Lr : List Ch) : Prop := G = G' ∧ v = .string r ∧ Lr = []
def swageref11_Text.l0 (rec23 : (S24 → Option ByteArray)) (a0 : S24) : Nat → ByteArray → Int → Option (ByteArray)
 | 0, _, _ => none
 | n278 + 1, x228, x229 => (if x229 < (a0.f2.length : Int) then jn (γ := (ByteArray)) (fun (x352 : ByteArray) => (at? a0.f2 x229).bind fun y354 => (rec23 y354).bind fun (y367 : ByteArray) => (if x352.size + y367.size ≤ 9223372036854775807 then swageref11_Text.l0 rec23 a0 n278 (cat x352 y367) (IntKind.i64.wrap (x229 + 1)) else none)) (fun (j353 : (ByteArray → Option (ByteArray))) => (if 0 < x229 then (if x228.size + (⟨#[44]⟩ : ByteArray).size ≤ 9223372036854775807 then j353 (cat x228 (⟨#[44]⟩ : ByteArray)) else none) else j353 x228)) else some x228)
def swageref11_Text.g (rec23 : (S24 → Option ByteArray)) (a0 : S24) : Option ByteArray := (if a0.f0 = 1 then some (⟨#[105, 110, 116]⟩ : ByteArray) else jn (γ := ByteArray) (fun (x14 : Bool) => (if x14 = true then some (⟨#[63]⟩ : ByteArray) else (if a0.f0 = 2 then (at? a0.f2 0).bind fun y36 => (rec23 y36).bind fun (y49 : ByteArray) => (if (⟨#[42]⟩ : ByteArray).size + y49.size ≤ 9223372036854775807 then some (cat (⟨#[42]⟩ : ByteArray) y49) else none) else (if a0.f0 = 3 then (at? a0.f2 0).bind fun y114 => (swageref05_Number.f a0.f1).bind fun (y127 : ByteArray) => (if (⟨#[91]⟩ : ByteArray).size + y127.size ≤ 9223372036854775807 then (if (cat (⟨#[91]⟩ : ByteArray) y127).size + (⟨#[93]⟩ : ByteArray).size ≤ 9223372036854775807 then (rec23 y114).bind fun (y131 : ByteArray) => (if (cat (cat (⟨#[91]⟩ : ByteArray) y127) (⟨#[93]⟩ : ByteArray)).size + y131.size ≤ 9223372036854775807 then some (cat (cat (cat (⟨#[91]⟩ : ByteArray) y127) (⟨#[93]⟩ : ByteArray)) y131) else none) else none) else none) else (swageref11_Text.l0 rec23 a0 (a0.f2.length + 1) (⟨#[40]⟩ : ByteArray) 0).bind fun (x276 : ByteArray) => (if x276.size + (⟨#[41]⟩ : ByteArray).size ≤ 9223372036854775807 then some (cat x276 (⟨#[41]⟩ : ByteArray)) else none))))) (fun (j15 : (Bool → Option ByteArray)) => (if a0.f0 < 1 then j15 true else (if 4 < a0.f0 then j15 true else j15 (decide ((a0.f2.length : Int) < 1))))))
theorem swageref11_Text.step (rec23 : (S24 → Option ByteArray)) (ih23 : ∀ {G : Gd} {r : ByteArray} {a0 : S24} {A1 : Option Addr} {c2 : Nat} (hr3 : Rd G k24 A1 a0.f2) (hl4 : a0.f2.length ≤ c2), rec23 a0 = some r → Fn Tryd.prog 23 G [] [.agg #[.int .i64 a0.f0, .int .i64 a0.f1, .slice A1 a0.f2.length c2]] (swageref11_Text.post G r)) {G : Gd} {r : ByteArray} {a0 : S24} {A1 : Option Addr} {c2 : Nat} (hr3 : Rd G k24 A1 a0.f2) (hl4 : a0.f2.length ≤ c2) (h : swageref11_Text.g rec23 a0 = some r) : Fn Tryd.prog 23 G [] [.agg #[.int .i64 a0.f0, .int .i64 a0.f1, .slice A1 a0.f2.length c2]] (swageref11_Text.post G r) := by
 refine Fn.intro (e := [(0, .agg #[.int .i64 a0.f0, .int .i64 a0.f1, .slice A1 a0.f2.length c2])]) 66 Tryd.func23 rfl Tryd.ntmps23 rfl rfl (Nat.le_of_ble_eq_true rfl) (fun L => ?_)
 unfold swageref11_Text.g at h
 refine TC.seq ?_
 refine TC.region ?_
 refine TL.cons (TL.box (cs := [.int .i64 a0.f0, .int .i64 a0.f1, .slice A1 a0.f2.length c2]) rfl rfl rfl rfl (fun b5 => ?_))
 refine TL.cons (TO.val rfl rfl rfl (Val.assign rfl) ?_)
 refine TL.nil ?_
 refine TQ.then_ ?_
 refine TC.seq ?_
 refine TC.seq ?_
 refine TC.region ?_
 refine TL.cons (TO.val rfl rfl rfl (Val.fieldAddrB Tryd.underlying24 rfl fsz3 rfl rfl rfl) ?_)
 refine TL.cons (TO.val rfl rfl rfl (Val.loadB 0 agg3 rfl rfl rfl) ?_)
 refine TL.cons (TO.val rfl rfl rfl (Val.cmp rfl rfl run_eql) ?_)
 refine TL.nil ?_
 refine TQ.then_ ?_
 refine TC.cond_p rfl h (fun hc7 h => ?_) (fun hc7 h => ?_)
 ·
  refine TC.seq ?_
  refine TC.region ?_
  refine TL.cons (TO.val rfl rfl rfl (Val.assign rfl) ?_)
  refine TL.nil ?_
  refine TQ.then_ ?_
  refine TC.ret ?_
  refine TQ.thenR ?_
  obtain rfl := Option.some.inj h
  exact TQ.fin (.inl rfl) rfl Tryd.results23 (.tmp rfl .nil) rfl (FRel.mk (Ls := []) [] 1 (Gd.le.refl _) rfl rfl rfl ⟨rfl, rfl, rfl⟩)
 ·
  refine TC.skip ?_
  refine TQ.then_ ?_
  refine TC.seq ?_
  refine TC.seq ?_
  obtain ⟨j15, hj15, h⟩ := jn_no h
  refine TC.tail (fun a W => ∃ (x14 : Bool), j15 x14 = some r ∧ Fr 66 a [(1, .pointer (some ⟨b5, 0, none⟩)), (21, .bool x14)] ∧ Own G (Blk b5 [.int .i64 a0.f0, .int .i64 a0.f1, .slice A1 a0.f2.length c2] 24 :: L) W) ?_ ?_
  ·
   rintro a W ⟨x14, h, hF, hO⟩
   rw [hj15] at h
   refine TQ.use ?_ hF hO
   clear hF hO
   refine TQ.then_ ?_
   refine TC.cond_b rfl h (fun hc17 h => ?_) (fun hc17 h => ?_)
   ·
    refine TC.seq ?_
    refine TC.region ?_
    refine TL.cons (TO.val rfl rfl rfl (Val.assign rfl) ?_)
    refine TL.nil ?_
    refine TQ.then_ ?_
    refine TC.ret ?_
    refine TQ.thenR ?_
    obtain rfl := Option.some.inj h
    exact TQ.fin (.inl rfl) rfl Tryd.results23 (.tmp rfl .nil) rfl (FRel.mk (Ls := []) [] 1 (Gd.le.refl _) rfl rfl rfl ⟨rfl, rfl, rfl⟩)
   ·
    refine TC.skip ?_
    refine TQ.then_ ?_
    refine TC.seq ?_
    refine TC.seq ?_
    refine TC.region ?_
    refine TL.cons (TO.val rfl rfl rfl (Val.fieldAddrB Tryd.underlying24 rfl fsz3 rfl rfl rfl) ?_)
    refine TL.cons (TO.val rfl rfl rfl (Val.loadB 0 agg3 rfl rfl rfl) ?_)
    refine TL.cons (TO.val rfl rfl rfl (Val.cmp rfl rfl run_eql) ?_)
    refine TL.nil ?_
    refine TQ.then_ ?_
    refine TC.cond_p rfl h (fun hc35 h => ?_) (fun hc35 h => ?_)
    ·
     refine TC.seq ?_
     refine TC.region ?_
     refine TL.cons (TO.val rfl rfl rfl (Val.fieldAddrB Tryd.underlying24 rfl fsz22 rfl rfl rfl) ?_)
     refine TL.cons (TO.val rfl rfl rfl (Val.loadB 0 agg22 rfl rfl rfl) ?_)
     obtain ⟨y36, hx37, h⟩ := bind_no h
     obtain ⟨ad38, cs44, hA39, hi40, hj41, hcl42, hK43⟩ := Rd.at hr3 hx37
     obtain ⟨A45, c46, rfl, hr47, hl48⟩ := k24_openR hK43
     refine TL.cons (TO.val rfl rfl rfl (Val.indexAddr Tryd.underlying22 fsz24 rfl hA39 rfl hi40 hj41) ?_)
     refine TL.cons (TO.val rfl rfl rfl (Val.loadsS (cs := [.int .i64 y36.f0, .int .i64 y36.f1, .slice A45 y36.f2.length c46]) agg24 fsz24 rfl rfl (Cl.sub (off := 0) (n := 3) hcl42 rfl)) ?_)
     obtain ⟨y49, hy50, h⟩ := bind_no h
     refine TL.cons (TL.callV (Lin := []) (args := [.agg #[.int .i64 y36.f0, .int .i64 y36.f1, .slice A45 y36.f2.length c46]]) rfl rfl rfl hbd23 rfl rfl (ih23 (a0 := y36) hr47 hl48 hy50) rfl ?_)
     rintro _ _ _ _ ⟨rfl, rfl, rfl⟩
     obtain ⟨hz51, h⟩ := ite_no h
     refine TL.cons (TO.val rfl rfl rfl (Val.addS rfl rfl hz51) ?_)
     refine TL.cons (TO.val rfl rfl rfl (Val.assign rfl) ?_)
     refine TL.nil ?_
     refine TQ.then_ ?_
     refine TC.ret ?_
     refine TQ.thenR ?_
     obtain rfl := Option.some.inj h
     exact TQ.fin (.inl rfl) rfl Tryd.results23 (.tmp rfl .nil) rfl (FRel.mk (Ls := []) [] 1 (Gd.le.refl _) rfl rfl rfl ⟨rfl, rfl, rfl⟩)
    ·
     refine TC.skip ?_
     refine TQ.then_ ?_
     refine TC.seq ?_
     refine TC.seq ?_
     refine TC.region ?_
     refine TL.cons (TO.val rfl rfl rfl (Val.fieldAddrB Tryd.underlying24 rfl fsz3 rfl rfl rfl) ?_)
     refine TL.cons (TO.val rfl rfl rfl (Val.loadB 0 agg3 rfl rfl rfl) ?_)
     refine TL.cons (TO.val rfl rfl rfl (Val.cmp rfl rfl run_eql) ?_)
     refine TL.nil ?_
     refine TQ.then_ ?_
     refine TC.cond_p rfl h (fun hc93 h => ?_) (fun hc93 h => ?_)
     ·
      refine TC.seq ?_
      refine TC.regionAny [] [0, 1, 3, 4, 5, 6, 7, 8, 10, 11] mixed (by kernel_rfl) ?_
      refine TA.take 0 rfl (by kernel_rfl) rfl (PQ.then_ (PQ.then_ PQ.body)) rfl (Val.fieldAddrB Tryd.underlying24 rfl fsz3 rfl rfl rfl) (fun W hO => hO) ?_
      refine TA.take 1 rfl (by kernel_rfl) rfl (PQ.then_ (PQ.then_ PQ.body)) rfl (Val.loadB 0 agg3 rfl rfl rfl) (fun W hO => hO) ?_
      refine TA.take 5 rfl (by kernel_rfl) rfl (PQ.then_ (PQ.then_ PQ.body)) rfl (Val.fieldAddrB Tryd.underlying24 rfl fsz22 rfl rfl rfl) (fun W hO => hO) ?_
      refine TA.take 6 rfl (by kernel_rfl) rfl (PQ.then_ (PQ.then_ PQ.body)) rfl (Val.loadB 0 agg22 rfl rfl rfl) (fun W hO => hO) ?_
      obtain ⟨y114, hx115, h⟩ := bind_no h
      obtain ⟨ad116, cs122, hA117, hi118, hj119, hcl120, hK121⟩ := Rd.at hr3 hx115
      obtain ⟨A123, c124, rfl, hr125, hl126⟩ := k24_openR hK121
      refine TA.take 7 rfl (by kernel_rfl) rfl (PQ.then_ (PQ.then_ PQ.body)) rfl (Val.indexAddr Tryd.underlying22 fsz24 rfl hA117 rfl hi118 hj119) (fun W hO => hO) ?_
      refine TA.take 8 rfl (by kernel_rfl) rfl (PQ.then_ (PQ.then_ PQ.body)) rfl (Val.loadsS (cs := [.int .i64 y114.f0, .int .i64 y114.f1, .slice A123 y114.f2.length c124]) agg24 fsz24 rfl rfl (Cl.sub (off := 0) (n := 3) hcl120 rfl)) (fun W hO => hO) ?_
      obtain ⟨y127, hy128, h⟩ := bind_no h
      refine TA.eff 2 rfl (by kernel_rfl) rfl (TL.callV (Lin := []) (args := [.int .i64 a0.f1]) rfl rfl rfl hbd37 rfl rfl (swageref05_Number.calls (a0 := a0.f1) hy128) rfl ?_)
      rintro _ _ _ _ ⟨rfl, rfl, rfl⟩
      refine TA.next (fun W hO => hO) ?_
      obtain ⟨hz129, h⟩ := ite_no h
      refine TA.take 3 rfl (by kernel_rfl) rfl (PQ.then_ (PQ.then_ PQ.body)) rfl (Val.addS rfl rfl hz129) (fun W hO => hO) ?_
      obtain ⟨hz130, h⟩ := ite_no h
      refine TA.take 4 rfl (by kernel_rfl) rfl (PQ.then_ (PQ.then_ PQ.body)) rfl (Val.addS rfl rfl hz130) (fun W hO => hO) ?_
      obtain ⟨y131, hy132, h⟩ := bind_no h
      refine TA.eff 9 rfl (by kernel_rfl) rfl (TL.callV (Lin := []) (args := [.agg #[.int .i64 y114.f0, .int .i64 y114.f1, .slice A123 y114.f2.length c124]]) rfl rfl rfl hbd23 rfl rfl (ih23 (a0 := y114) hr125 hl126 hy132) rfl ?_)
      rintro _ _ _ _ ⟨rfl, rfl, rfl⟩
      refine TA.next (fun W hO => hO) ?_
      obtain ⟨hz133, h⟩ := ite_no h
      refine TA.take 10 rfl (by kernel_rfl) rfl (PQ.then_ (PQ.then_ PQ.body)) rfl (Val.addS rfl rfl hz133) (fun W hO => hO) ?_
      refine TA.take 11 rfl (by kernel_rfl) rfl (PQ.then_ (PQ.then_ PQ.body)) rfl (Val.assign rfl) (fun W hO => hO) ?_
      refine TA.done (by kernel_rfl) ?_
      refine TQ.then_ ?_
      refine TC.ret ?_
      refine TQ.thenR ?_
      obtain rfl := Option.some.inj h
      exact TQ.fin (.inl rfl) rfl Tryd.results23 (.tmp rfl .nil) rfl (FRel.mk (Ls := []) [] 1 (Gd.le.refl _) rfl rfl rfl ⟨rfl, rfl, rfl⟩)
     ·
      refine TC.skip ?_
      refine TQ.then_ ?_
      refine TC.seq ?_
      refine TC.region ?_
      refine TL.cons (TO.val rfl rfl rfl (Val.assign rfl) ?_)
      refine TL.nil ?_
      refine TQ.then_ ?_
      refine TC.seq ?_
      refine TC.seq ?_
      refine TC.region ?_
      refine TL.cons (TO.val rfl rfl rfl (Val.assign rfl) ?_)
      refine TL.nil ?_
      refine TQ.then_ ?_
      obtain ⟨o277, ho277, ko277⟩ := bind_no h
      clear h
      refine TC.tail (fun a W => ∃ (x276 : ByteArray), x276 = o277 ∧ Fr 66 a [(3, .string x276)] ∧ Own G (L) W) ?_ ?_
      ·
       rintro a W ⟨x276, rfl, hF, hO⟩
       have h := ko277
       clear ko277 ho277
       refine TQ.use ?_ hF hO
       clear hF hO
       refine TQ.then_ ?_
       refine TC.seq ?_
       refine TC.region ?_
       refine TL.cons (TO.val rfl rfl rfl (Val.move rfl) ?_)
       obtain ⟨hz325, h⟩ := ite_no h
       refine TL.cons (TO.val rfl rfl rfl (Val.addS rfl rfl hz325) ?_)
       refine TL.cons (TO.val rfl rfl rfl (Val.assign rfl) ?_)
       refine TL.nil ?_
       refine TQ.then_ ?_
       refine TC.ret ?_
       obtain rfl := Option.some.inj h
       exact TQ.fin (.inl rfl) rfl Tryd.results23 (.tmp rfl .nil) rfl (FRel.mk (Ls := []) [] 0 (Gd.le.refl _) rfl rfl rfl ⟨rfl, rfl, rfl⟩)
      ·
       refine TC.block ?_
       intro a W hF hO
       have hS : ∃ (x228 : ByteArray) (x229 : Int), swageref11_Text.l0 rec23 a0 (a0.f2.length + 1) x228 x229 = some o277 ∧ Fr 66 a [(1, .pointer (some ⟨b5, 0, none⟩)), (3, .string x228), (4, .int .i64 x229)] ∧ Own G (Blk b5 [.int .i64 a0.f0, .int .i64 a0.f1, .slice A1 a0.f2.length c2] 24 :: L) W := by
        exact ⟨(⟨#[40]⟩ : ByteArray), 0, ho277, hF.sub ⟨rfl, rfl, rfl, trivial⟩, hO.selT (Ls := [Blk b5 [.int .i64 a0.f0, .int .i64 a0.f1, .slice A1 a0.f2.length c2] 24]) [0] 1 rfl rfl rfl⟩
       clear hF hO ho277 ko277
       refine TC.loop (fun n278 a W => ∃ (x228 : ByteArray) (x229 : Int), swageref11_Text.l0 rec23 a0 n278 x228 x229 = some o277 ∧ Fr 66 a [(1, .pointer (some ⟨b5, 0, none⟩)), (3, .string x228), (4, .int .i64 x229)] ∧ Own G (Blk b5 [.int .i64 a0.f0, .int .i64 a0.f1, .slice A1 a0.f2.length c2] 24 :: L) W) ?_ ?_ hS
       ·
        rintro a W ⟨x228, x229, h, hF, hO⟩
        exact none_no h
       ·
        clear hS
        rintro n278 a W ⟨x228, x229, h, hF, hO⟩
        rw [swageref11_Text.l0] at h
        refine TC.use ?_ hF hO
        clear hF hO
        refine TC.seq ?_
        refine TC.seq ?_
        refine TC.region ?_
        refine TL.cons (TO.val rfl rfl rfl (Val.move rfl) ?_)
        refine TL.cons (TO.val rfl rfl rfl (Val.fieldAddrB Tryd.underlying24 rfl fsz22 rfl rfl rfl) ?_)
        refine TL.cons (TO.val rfl rfl rfl (Val.loadB 0 agg22 rfl rfl rfl) ?_)
        refine TL.cons (TO.val rfl rfl rfl (Val.len Tryd.underlying22 rfl) ?_)
        refine TL.cons (TO.val rfl rfl rfl (Val.cmp rfl rfl run_lss) ?_)
        refine TL.nil ?_
        refine TQ.then_ ?_
        refine TC.cond_p rfl h (fun hc327 h => ?_) (fun hc327 h => ?_)
        ·
         refine TC.skip ?_
         refine TQ.then_ ?_
         refine TC.seq ?_
         refine TC.block ?_
         refine TC.seq ?_
         refine TC.seq ?_
         refine TC.region ?_
         refine TL.cons (TO.val rfl rfl rfl (Val.move rfl) ?_)
         refine TL.cons (TO.val rfl rfl rfl (Val.cmp rfl rfl run_gtr) ?_)
         refine TL.nil ?_
         refine TQ.then_ ?_
         obtain ⟨j353, hj353, h⟩ := jn_no h
         refine TC.tail (fun a W => ∃ (x352 : ByteArray), j353 x352 = some o277 ∧ Fr 66 a [(1, .pointer (some ⟨b5, 0, none⟩)), (3, .string x352), (4, .int .i64 x229)] ∧ Own G (Blk b5 [.int .i64 a0.f0, .int .i64 a0.f1, .slice A1 a0.f2.length c2] 24 :: L) W) ?_ ?_
         ·
          rintro a W ⟨x352, h, hF, hO⟩
          rw [hj353] at h
          refine TQ.use ?_ hF hO
          clear hF hO
          refine TQ.then_ ?_
          refine TC.region ?_
          refine TL.cons (TO.val rfl rfl rfl (Val.move rfl) ?_)
          refine TL.cons (TO.val rfl rfl rfl (Val.fieldAddrB Tryd.underlying24 rfl fsz22 rfl rfl rfl) ?_)
          refine TL.cons (TO.val rfl rfl rfl (Val.loadB 0 agg22 rfl rfl rfl) ?_)
          refine TL.cons (TO.val rfl rfl rfl (Val.move rfl) ?_)
          obtain ⟨y354, hx355, h⟩ := bind_no h
          obtain ⟨ad356, cs362, hA357, hi358, hj359, hcl360, hK361⟩ := Rd.at hr3 hx355
          obtain ⟨A363, c364, rfl, hr365, hl366⟩ := k24_openR hK361
          refine TL.cons (TO.val rfl rfl rfl (Val.indexAddr Tryd.underlying22 fsz24 rfl hA357 rfl hi358 hj359) ?_)
          refine TL.cons (TO.val rfl rfl rfl (Val.loadsS (cs := [.int .i64 y354.f0, .int .i64 y354.f1, .slice A363 y354.f2.length c364]) agg24 fsz24 rfl rfl (Cl.sub (off := 0) (n := 3) hcl360 rfl)) ?_)
          obtain ⟨y367, hy368, h⟩ := bind_no h
          refine TL.cons (TL.callV (Lin := []) (args := [.agg #[.int .i64 y354.f0, .int .i64 y354.f1, .slice A363 y354.f2.length c364]]) rfl rfl rfl hbd23 rfl rfl (ih23 (a0 := y354) hr365 hl366 hy368) rfl ?_)
          rintro _ _ _ _ ⟨rfl, rfl, rfl⟩
          obtain ⟨hz369, h⟩ := ite_no h
          refine TL.cons (TO.val rfl rfl rfl (Val.addS rfl rfl hz369) ?_)
          refine TL.cons (TO.val rfl rfl rfl (Val.assign rfl) ?_)
          refine TL.nil ?_
          refine TQ.inB ?_
          refine TQ.then_ ?_
          refine TC.region ?_
          refine TL.cons (TO.val rfl rfl rfl (Val.move rfl) ?_)
          refine TL.cons (TO.val rfl rfl rfl (Val.cmp rfl rfl run_add) ?_)
          refine TL.cons (TO.val rfl rfl rfl (Val.assign rfl) ?_)
          refine TL.nil ?_
          exact fun a W hF hO => ⟨(cat x352 y367), IntKind.i64.wrap (x229 + 1), h, hF.sub ⟨rfl, rfl, rfl, trivial⟩, hO.selT (Ls := [Blk b5 [.int .i64 a0.f0, .int .i64 a0.f1, .slice A1 a0.f2.length c2] 24]) [0] 1 rfl rfl rfl⟩
         ·
          refine TC.cond_p rfl h (fun hc370 h => ?_) (fun hc370 h => ?_)
          ·
           refine TC.region ?_
           refine TL.cons (TO.val rfl rfl rfl (Val.move rfl) ?_)
           obtain ⟨hz371, h⟩ := ite_no h
           refine TL.cons (TO.val rfl rfl rfl (Val.addS rfl rfl hz371) ?_)
           refine TL.cons (TO.val rfl rfl rfl (Val.assign rfl) ?_)
           refine TL.nil ?_
           exact fun a W hF hO => ⟨(cat x228 (⟨#[44]⟩ : ByteArray)), h, hF.sub ⟨rfl, rfl, rfl, trivial⟩, hO.selT (Ls := [Blk b5 [.int .i64 a0.f0, .int .i64 a0.f1, .slice A1 a0.f2.length c2] 24]) [0] 1 rfl rfl rfl⟩
          ·
           refine TC.skip ?_
           exact fun a W hF hO => ⟨x228, h, hF.sub ⟨rfl, rfl, rfl, trivial⟩, hO.selT (Ls := [Blk b5 [.int .i64 a0.f0, .int .i64 a0.f1, .slice A1 a0.f2.length c2] 24]) [0] 1 rfl rfl rfl⟩
        ·
         refine TC.exit ?_
         refine TQ.thenX ?_
         refine TQ.thenX ?_
         refine TQ.inBX ?_
         exact fun a W hF hO => ⟨x228, Option.some.inj h, hF.sub ⟨rfl, trivial⟩, hO.selT (Ls := []) [] 1 rfl rfl rfl⟩
  ·
   refine TC.region ?_
   refine TL.cons (TO.val rfl rfl rfl (Val.fieldAddrB Tryd.underlying24 rfl fsz3 rfl rfl rfl) ?_)
   refine TL.cons (TO.val rfl rfl rfl (Val.loadB 0 agg3 rfl rfl rfl) ?_)
   refine TL.cons (TO.val rfl rfl rfl (Val.cmp rfl rfl run_lss) ?_)
   refine TL.cons (TO.val rfl rfl rfl (Val.move rfl) ?_)
   refine TK.split (p := a0.f0 < 1) h (fun hg372 h => ?_) (fun hg372 h => ?_)
   ·
    have hk373 : decide (a0.f0 < 1) = true := decide_eq_true hg372
    refine TL.cons (TL.not (Wt.no rfl rfl rfl hk373) rfl ?_)
    refine TL.cons (TL.not (Wt.no rfl rfl rfl hk373) rfl ?_)
    refine TL.cons (TL.not (Wt.no rfl rfl rfl hk373) rfl ?_)
    refine TL.cons (TO.val rfl rfl rfl (Val.pickY rfl hk373 rfl) ?_)
    refine TL.cons (TO.val rfl rfl rfl (Val.move rfl) ?_)
    refine TL.cons (TL.not (Wt.no rfl rfl rfl rfl) rfl ?_)
    refine TL.cons (TL.not (Wt.no rfl rfl rfl rfl) rfl ?_)
    refine TL.cons (TL.not (Wt.no rfl rfl rfl rfl) rfl ?_)
    refine TL.cons (TL.not (Wt.no rfl rfl rfl rfl) rfl ?_)
    refine TL.cons (TO.val rfl rfl rfl (Val.pickY rfl rfl rfl) ?_)
    refine TL.nil ?_
    exact fun a W hF hO => ⟨true, h, hF.sub ⟨rfl, rfl, trivial⟩, hO.selT (Ls := [Blk b5 [.int .i64 a0.f0, .int .i64 a0.f1, .slice A1 a0.f2.length c2] 24]) [0] 1 rfl rfl rfl⟩
   ·
    have hk374 : decide (a0.f0 < 1) = false := decide_eq_false hg372
    refine TL.cons (TO.val (Wt.yes rfl rfl rfl hk374) rfl rfl (Val.fieldAddrB Tryd.underlying24 rfl fsz3 rfl rfl rfl) ?_)
    refine TL.cons (TO.val (Wt.yes rfl rfl rfl hk374) rfl rfl (Val.loadB 0 agg3 rfl rfl rfl) ?_)
    refine TL.cons (TO.val (Wt.yes rfl rfl rfl hk374) rfl rfl (Val.cmp rfl rfl run_gtr) ?_)
    refine TL.cons (TO.val rfl rfl rfl (Val.pickN rfl hk374 rfl) ?_)
    refine TL.cons (TO.val rfl rfl rfl (Val.move rfl) ?_)
    refine TK.split (p := 4 < a0.f0) h (fun hg375 h => ?_) (fun hg375 h => ?_)
    ·
     have hk376 : decide (4 < a0.f0) = true := decide_eq_true hg375
     refine TL.cons (TL.not (Wt.no rfl rfl rfl hk376) rfl ?_)
     refine TL.cons (TL.not (Wt.no rfl rfl rfl hk376) rfl ?_)
     refine TL.cons (TL.not (Wt.no rfl rfl rfl hk376) rfl ?_)
     refine TL.cons (TL.not (Wt.no rfl rfl rfl hk376) rfl ?_)
     refine TL.cons (TO.val rfl rfl rfl (Val.pickY rfl hk376 rfl) ?_)
     refine TL.nil ?_
     exact fun a W hF hO => ⟨true, h, hF.sub ⟨rfl, rfl, trivial⟩, hO.selT (Ls := [Blk b5 [.int .i64 a0.f0, .int .i64 a0.f1, .slice A1 a0.f2.length c2] 24]) [0] 1 rfl rfl rfl⟩
    ·
     have hk377 : decide (4 < a0.f0) = false := decide_eq_false hg375
     refine TL.cons (TO.val (Wt.yes rfl rfl rfl hk377) rfl rfl (Val.fieldAddrB Tryd.underlying24 rfl fsz22 rfl rfl rfl) ?_)
     refine TL.cons (TO.val (Wt.yes rfl rfl rfl hk377) rfl rfl (Val.loadB 0 agg22 rfl rfl rfl) ?_)
     refine TL.cons (TO.val (Wt.yes rfl rfl rfl hk377) rfl rfl (Val.len Tryd.underlying22 rfl) ?_)
     refine TL.cons (TO.val (Wt.yes rfl rfl rfl hk377) rfl rfl (Val.cmp rfl rfl run_lss) ?_)
     refine TL.cons (TO.val rfl rfl rfl (Val.pickN rfl hk377 rfl) ?_)
     refine TL.nil ?_
     exact fun a W hF hO => ⟨decide ((a0.f2.length : Int) < 1), h, hF.sub ⟨rfl, rfl, trivial⟩, hO.selT (Ls := [Blk b5 [.int .i64 a0.f0, .int .i64 a0.f1, .slice A1 a0.f2.length c2] 24]) [0] 1 rfl rfl rfl⟩
def swageref11_Text.fix : Nat → (S24 → Option ByteArray)
 | 0 => (fun _ => none)
 | n + 1 => swageref11_Text.g (swageref11_Text.fix n)
theorem swageref11_Text.fixc : ∀ k, (∀ {G : Gd} {r : ByteArray} {a0 : S24} {A1 : Option Addr} {c2 : Nat} (hr3 : Rd G k24 A1 a0.f2) (hl4 : a0.f2.length ≤ c2), (swageref11_Text.fix k) a0 = some r → Fn Tryd.prog 23 G [] [.agg #[.int .i64 a0.f0, .int .i64 a0.f1, .slice A1 a0.f2.length c2]] (swageref11_Text.post G r)) ∧ True
 | 0 => ⟨(by intros; contradiction), trivial⟩
 | k + 1 => by
  have ih := swageref11_Text.fixc k
  exact ⟨(by
   intro G r a0 A1 c2 hr3 hl4 h
   exact swageref11_Text.step _ ih.1 hr3 hl4 h), trivial⟩
def swageref11_Text.f (a0 : S24) : Option ByteArray := (swageref11_Text.fix 1000) a0
theorem swageref11_Text.calls {G : Gd} {r : ByteArray} {a0 : S24} {A1 : Option Addr} {c2 : Nat} (hr3 : Rd G k24 A1 a0.f2) (hl4 : a0.f2.length ≤ c2) (h : swageref11_Text.f a0 = some r) : Fn Tryd.prog 23 G [] [.agg #[.int .i64 a0.f0, .int .i64 a0.f1, .slice A1 a0.f2.length c2]] (swageref11_Text.post G r) := (swageref11_Text.fixc 1000).1 hr3 hl4 h
end Go.Proofs.YtdklnjmdaecboaaDoor.Sy
set_option linter.unusedVariables false
set_option linter.unusedSimpArgs false
namespace Go.Proofs.YtdklnjmdaecboaaDoor.Sy
open Go Go.RowKit Go.Proofs.YtdklnjmdaecboaaDoorW.PrintWords Go.Proofs.YtdklnjmdaecboaaDoor.SyO
/-! #### Parts -/
def off : Int → List S24 → Int
  | x, [] => x
  | x, y :: r => off (IntKind.i64.wrap (x + (cel y : Int))) r
theorem off_l0 {l : List S24} (hl : l.length ≤ 700) (hr : ∀ y ∈ l, types_Size.f y = some (cel y : Int)) :
    ∀ (ys : List S24) (n i : Nat) (x : Int), l.drop i = ys → ys.length < n → i ≤ l.length → types_Offset.l0 l n x i = some (off x ys) := by
  intro ys
  induction ys with
  | nil =>
    intro n i x hdr hn hi
    obtain ⟨n, rfl⟩ : ∃ m, n = m + 1 := ⟨n - 1, by simp at hn; omega⟩
    rw [types_Offset.l0, if_neg (drop_nil hdr)]; rfl
  | cons y ys ih =>
    intro n i x hdr hn hi
    obtain ⟨n, rfl⟩ : ∃ m, n = m + 1 := ⟨n - 1, by simp at hn; omega⟩
    obtain ⟨h1, h2, h3, h4⟩ := drop_cons hdr
    rw [types_Offset.l0, if_pos h1, h2]
    simp only [Option.bind_some]
    rw [hr y h4]
    simp only [Option.bind_some]
    rw [wsucc (by omega), ih n (i + 1) _ h3 (by simp at hn; omega) (by omega)]
    rfl
theorem roff_l0 {t : S24} {k : Nat} (hk : k ≤ t.f2.length) (hl : t.f2.length ≤ 700) (hr : ∀ y ∈ t.f2, swageref11_cells.f y = some (cel y : Int)) :
    ∀ (ys : List S24) (n i : Nat) (x : Int), (t.f2.take k).drop i = ys → ys.length < n → i ≤ k → swageref11_Offset.l0 t k n x i = some (off x ys) := by
  intro ys
  induction ys with
  | nil =>
    intro n i x hdr hn hi
    obtain ⟨n, rfl⟩ : ∃ m, n = m + 1 := ⟨n - 1, by simp at hn; omega⟩
    have := drop_nil hdr
    rw [List.length_take] at this
    rw [swageref11_Offset.l0, if_neg (by omega)]; rfl
  | cons y ys ih =>
    intro n i x hdr hn hi
    obtain ⟨n, rfl⟩ : ∃ m, n = m + 1 := ⟨n - 1, by simp at hn; omega⟩
    obtain ⟨h1, h2, h3, h4⟩ := drop_cons hdr
    rw [List.length_take] at h1
    have hat : at? t.f2 (i : Int) = some y := by
      unfold at? at h2 ⊢
      rw [if_pos (by omega)] at h2 ⊢
      simp only [Int.toNat_natCast] at h2 ⊢
      rw [List.getElem?_take] at h2
      rw [if_pos (by omega)] at h2
      exact h2
    rw [swageref11_Offset.l0, if_pos (by omega), hat]
    simp only [Option.bind_some]
    rw [hr y (List.mem_of_mem_take h4)]
    simp only [Option.bind_some]
    rw [wsucc (by omega), ih n (i + 1) _ h3 (by simp at hn; omega) (by omega)]
    rfl
theorem offset_f {t : S24} (hd : dep t ≤ 900) (hc : cnt t ≤ 700) (k : Int) : ∃ r, types_Offset.f t k = some r ∧ swageref11_Offset.f t k = some r := by
  have hde := dep_eq t
  obtain ⟨hl, hk⟩ := kids_small hc
  have hdk : ∀ y ∈ t.f2, dep y ≤ 1000 := fun y hy => by have := depL_mem hy; omega
  unfold types_Offset.f swageref11_Offset.f
  rw [right_f (by omega) hc, rright_f (by omega) hc]
  simp only [jn, Option.bind_some]
  cases hr : rgt t with
  | false => exact ⟨(0, false), by simp, by simp⟩
  | true =>
    have hsz : ∀ y ∈ t.f2, types_Size.f y = some (cel y : Int) := fun y hy => by rw [size_f (hdk y hy) (hk y hy), rgt_kids hr hy]; rfl
    have hce : ∀ y ∈ t.f2, swageref11_cells.f y = some (cel y : Int) := fun y hy => cells_fix 1000 y (hdk y hy) (hk y hy) (shp_of_rgt (rgt_kids hr hy))
    have hkok : kok t = true := by
      have := shp_of_rgt hr
      rw [shp_eq, Bool.and_eq_true] at this
      exact this.1
    simp only [Bool.not_true, Bool.false_eq_true, if_false]
    by_cases k0 : k < 0
    · rw [decide_eq_true k0]
      exact ⟨(0, false), by simp, by simp⟩
    · rw [decide_eq_false k0]
      simp only [Bool.false_eq_true, if_false]
      by_cases a3 : t.f0 = 3
      · obtain ⟨b1, b2, b3⟩ := kok3 hkok a3
        obtain ⟨y, hy, hat⟩ := at_head b1
        have hym : y ∈ t.f2 := by rw [hy]; exact List.mem_singleton_self _
        by_cases k1 : k < t.f1
        · rw [hat]
          simp only [Option.bind_some]
          rw [hsz y hym, hce y hym]
          exact ⟨(IntKind.i64.wrap (k * (cel y : Int)), true), by simp [a3, k1], by simp [a3, k1]⟩
        · exact ⟨(0, false), by simp [a3, k1], by simp [a3, k1]⟩
      · by_cases a4 : t.f0 = 4
        · by_cases k2 : (t.f2.length : Int) ≤ k
          · exact ⟨(0, false), by simp [a4, k2], by simp [a4, k2]⟩
          · obtain ⟨K, rfl⟩ : ∃ K : Nat, k = (K : Int) := ⟨k.toNat, by omega⟩
            have hcut : cut? t.f2 (0 : Int) (K : Int) = some (t.f2.take K) := by
              unfold cut?
              rw [if_pos ⟨by omega, by omega, by omega⟩]
              simp
            have e1 := off_l0 (l := t.f2.take K) (by rw [List.length_take]; omega) (fun y hy => hsz y (List.mem_of_mem_take hy)) (t.f2.take K) ((t.f2.take K).length + 1) 0 0 (by simp) (by omega) (by omega)
            have e1' : types_Offset.l0 (t.f2.take K) ((t.f2.take K).length + 1) 0 0 = _ := e1
            have e2 := roff_l0 (t := t) (k := K) (by omega) hl hce (t.f2.take K) (K + 1) 0 0 (by simp) (by rw [List.length_take]; omega) (by omega)
            have e2' : swageref11_Offset.l0 t K (K + 1) 0 0 = _ := e2
            refine ⟨(off 0 (t.f2.take K), true), ?_, ?_⟩
            · rw [hcut]
              simp only [Option.bind_some]
              rw [e1']
              simp [a4]; omega
            · rw [Int.toNat_natCast, e2']
              simp [a4]; omega
        · exact ⟨(0, false), by simp [a3, a4], by simp [a3, a4]⟩
/-! #### Texts -/
mutual
def txt : S24 → List UInt8
  | ⟨a, b, l⟩ => if a = 1 then [105, 110, 116] else if a < 1 ∨ 4 < a ∨ l.length = 0 then [63] else if a = 2 then 42 :: txtH l else if a = 3 then 91 :: (itoaK b ++ 93 :: txtH l) else 40 :: (txtJ l ++ [41])
def txtH : List S24 → List UInt8
  | [] => []
  | x :: _ => txt x
def txtJ : List S24 → List UInt8
  | [] => []
  | x :: r => txt x ++ txtT r
def txtT : List S24 → List UInt8
  | [] => []
  | x :: r => 44 :: (txt x ++ txtT r)
end
theorem txt_eq (t : S24) : txt t = if t.f0 = 1 then [105, 110, 116] else if t.f0 < 1 ∨ 4 < t.f0 ∨ t.f2.length = 0 then [63] else if t.f0 = 2 then 42 :: txtH t.f2 else if t.f0 = 3 then 91 :: (itoaK t.f1 ++ 93 :: txtH t.f2) else 40 :: (txtJ t.f2 ++ [41]) := by
  cases t; simp [txt]
theorem digK_len : ∀ (f u : Nat), (digK f u).length ≤ f
  | 0, _ => by simp [digK]
  | f + 1, u => by
    rw [digK]
    split
    · simp
    · have := digK_len f (u / 10); simp; omega
theorem itoaK_len (n : Int) : (itoaK n).length ≤ 21 := by
  unfold itoaK
  have := digK_len 20 n.natAbs
  have := digK_len 20 n.toNat
  split <;> simp <;> omega
theorem txtJ_len : ∀ l : List S24, (txtJ l).length ≤ (txtT l).length
  | [] => by simp [txtJ, txtT]
  | x :: r => by simp [txtJ, txtT]
theorem txtT_len {l : List S24} (h : ∀ y ∈ l, (txt y).length + 1 ≤ 32 * cnt y) : (txtT l).length ≤ 32 * cntL l := by
  induction l with
  | nil => simp [txtT, cntL]
  | cons x r ih =>
    have h1 := h x List.mem_cons_self
    have h2 := ih (fun y hy => h y (List.mem_cons_of_mem _ hy))
    simp only [txtT, cntL, List.length_cons, List.length_append]; omega
theorem txtH_len {l : List S24} (h : ∀ y ∈ l, (txt y).length + 1 ≤ 32 * cnt y) : (txtH l).length ≤ 32 * cntL l := by
  cases l with
  | nil => simp [txtH, cntL]
  | cons x r =>
    have h1 := h x List.mem_cons_self
    simp only [txtH, cntL]; omega
theorem txt_len (t : S24) : (txt t).length + 1 ≤ 32 * cnt t := by
  refine S24.ind (P := fun t => (txt t).length + 1 ≤ 32 * cnt t) (fun t ih => ?_) t
  have hT := txtT_len ih
  have hH := txtH_len ih
  have hJ := txtJ_len t.f2
  have hi := itoaK_len t.f1
  rw [txt_eq, cnt_eq]
  split
  · simp; omega
  split
  · simp; omega
  split
  · simp; omega
  split
  · simp; omega
  · simp; omega
/-- A text as Go holds it. -/
def bt (l : List UInt8) : ByteArray := ⟨l.toArray⟩
theorem bt_size (l : List UInt8) : (bt l).size = l.length := by simp [bt, ByteArray.size]
theorem bt_list (l : List UInt8) : (bt l).data.toList = l := by simp [bt]
theorem cat_bt (p q : List UInt8) : cat (bt p) (bt q) = bt (p ++ q) := by simp [cat, bt]
/-! Digits. -/
theorem digits_fix : ∀ (m a : Nat), a < 10 ^ m → a ≤ 9223372036854775807 → swageref05_digits.fix (m + 1) (a : Int) = some (bt (Lib.decDigits a)) ∧ (Lib.decDigits a).length ≤ m + 1 := by
  intro m
  induction m with
  | zero =>
    intro a h ha
    have : a = 0 := by simpa using h
    subst this
    refine ⟨?_, by rw [Lib.decDigits]; simp⟩
    show swageref05_digits.g _ _ = _
    unfold swageref05_digits.g
    rw [Lib.decDigits]
    simp
    rfl
  | succ m ih =>
    intro a h ha
    show swageref05_digits.g (swageref05_digits.fix (m + 1)) _ = _ ∧ _
    unfold swageref05_digits.g
    have e0 : (a : Int).tmod 10 = ((a % 10 : Nat) : Int) := by rw [Int.tmod_eq_emod_of_nonneg (by omega)]; omega
    have e1 : strOfNums ([IntKind.u8.wrap (IntKind.i64.wrap (48 + ((a : Int).tmod 10)))] : List Int) = bt [UInt8.ofNat (48 + a % 10)] := by
      rw [e0, w64 (by omega) (by omega), IntKind.wrap_u8]
      unfold strOfNums bt
      simp only [List.map_cons, List.map_nil]
      congr 4; omega
    rw [e1, if_pos (by omega)]
    by_cases h10 : a < 10
    · rw [if_pos (by omega), Lib.decDigits, dif_pos h10]
      refine ⟨by rw [Nat.mod_eq_of_lt h10], by simp⟩
    · have e2 : (a : Int).tdiv 10 = ((a / 10 : Nat) : Int) := by rw [Int.tdiv_eq_ediv_of_nonneg (by omega)]; omega
      obtain ⟨i1, i2⟩ := ih (a / 10) (by rw [Nat.pow_succ] at h; omega) (by omega)
      rw [if_neg (by omega), if_pos (by omega), e2, w64 (by omega) (by omega), i1]
      simp only [Option.bind_some]
      have dd : Lib.decDigits a = Lib.decDigits (a / 10) ++ [UInt8.ofNat (48 + a % 10)] := by
        conv => lhs; rw [Lib.decDigits]
        rw [dif_neg h10]
      rw [dd]
      have hm : m ≤ 9223372036854775800 ∨ 9223372036854775800 < m := by omega
      have hlen : (Lib.decDigits (a / 10)).length ≤ 20 := by
        have := digK_eq 19 (a / 10) (by have : (10 : Nat) ^ (19 + 1) = 100000000000000000000 := by decide
                                        omega)
        rw [← this]; exact digK_len 20 _
      rw [if_pos (by rw [bt_size, bt_size]; simp; omega), cat_bt]
      exact ⟨rfl, by simp; omega⟩
theorem digits_f (a : Nat) (ha : a ≤ 9223372036854775807) : swageref05_digits.f (a : Int) = some (bt (Lib.decDigits a)) := by
  have h : ∀ m, 19 ≤ m → a < 10 ^ m := fun m hm => by
    have h1 : (10 : Nat) ^ 19 ≤ 10 ^ m := Nat.pow_le_pow_right (by omega) hm
    have h2 : (10 : Nat) ^ 19 = 10000000000000000000 := by decide
    omega
  exact (digits_fix 999 a (h 999 (by omega)) ha).1
theorem number_f (b : Int) (h0 : -9223372036854775808 ≤ b) (h1 : b ≤ 9223372036854775807) : swageref05_Number.f b = some (bt (itoaK b)) := by
  unfold swageref05_Number.f swageref05_number.f
  rw [itoaK_eq h0 h1]
  unfold Lib.itoa
  by_cases hb : 0 ≤ b
  · obtain ⟨n, rfl⟩ : ∃ n : Nat, b = (n : Int) := ⟨b.toNat, by omega⟩
    rw [if_pos hb, digits_f n (by omega), if_neg (by omega), Int.toNat_natCast]
    rfl
  · have hneg : b < 0 := by omega
    rw [if_neg hb, if_pos hneg]
    by_cases hm : b = -9223372036854775808
    · rw [if_pos hm, hm]
      have e := digK_eq 19 9223372036854775808 (by decide)
      have e' : (-9223372036854775808 : Int).natAbs = 9223372036854775808 := by decide
      rw [e', ← e]
      rfl
    · rw [if_neg hm]
      have e : IntKind.i64.wrap (0 - b) = (b.natAbs : Int) := by rw [w64 (by omega) (by omega)]; omega
      have hlen : (Lib.decDigits b.natAbs).length ≤ 20 := by
        have := digK_eq 19 b.natAbs (by have : (10 : Nat) ^ (19 + 1) = 100000000000000000000 := by decide
                                        omega)
        rw [← this]; exact digK_len 20 _
      rw [e, digits_f b.natAbs (by omega)]
      simp only [Option.bind_some]
      rw [if_pos (by rw [bt_size]; show 1 + _ ≤ _; omega)]
      simp only [Option.bind_some]
      show some (cat (bt [45]) _) = _
      rw [cat_bt]; rfl
theorem itoa_f (b : Int) (h0 : -9223372036854775808 ≤ b) (h1 : b ≤ 9223372036854775807) : strconv_Itoa.f b = some (bt (itoaK b)) := by
  unfold strconv_Itoa.f
  rw [if_pos ⟨h0, h1⟩]; rfl
end Go.Proofs.YtdklnjmdaecboaaDoor.Sy
set_option linter.unusedVariables false
set_option linter.unusedSimpArgs false
set_option maxRecDepth 100000
set_option maxHeartbeats 4000000
namespace Go.Proofs.YtdklnjmdaecboaaDoor.Sy
open Go Go.RowKit Go.Proofs.YtdklnjmdaecboaaDoorW.PrintWords 
def types_kindOf.f (a0 : S36) : Option Int := jn (γ := Int) (fun (x103 : Bool) => (if x103 = true then some 1 else jn (γ := Int) (fun (x137 : Bool) => (if x137 = true then some 2 else jn (γ := Int) (fun (x162 : Bool) => (if x162 = true then some 3 else jn (γ := Int) (fun (x178 : Bool) => (if x178 = true then some 4 else some 0)) (fun (j179 : (Bool → Option Int)) => (if a0.f0 = 8 then j179 (decide (0 < (a0.f3.length : Int))) else j179 false)))) (fun (j163 : (Bool → Option Int)) => (if a0.f0 = 7 then j163 (decide ((a0.f3.length : Int) = 1)) else j163 false)))) (fun (j138 : (Bool → Option Int)) => (if a0.f0 = 6 then j138 (decide ((a0.f3.length : Int) = 1)) else j138 false)))) (fun (j104 : (Bool → Option Int)) => (if a0.f0 = 5 then j104 (decide ((a0.f3.length : Int) = 0)) else j104 false))
def types_kindOf.post (G : Gd) (r : Int) (v : Value) (G' : Gd) (Lr : List Ch) : Prop := G = G' ∧ v = .int .i64 r ∧ Lr = []
theorem types_kindOf.calls {G : Gd} {r : Int} {a0 : S36} {A1 : Option Addr} {c2 : Nat} (hr3 : Rd G k36 A1 a0.f3) (hl4 : a0.f3.length ≤ c2) (h : types_kindOf.f a0 = some r) : Fn Tryd.prog 47 G [] [.agg #[.int .i64 a0.f0, .string a0.f1, .int .i64 a0.f2, .slice A1 a0.f3.length c2]] (types_kindOf.post G r) := by
 refine Fn.intro (e := [(0, .agg #[.int .i64 a0.f0, .string a0.f1, .int .i64 a0.f2, .slice A1 a0.f3.length c2])]) 43 Tryd.func47 rfl Tryd.ntmps47 rfl rfl (Nat.le_of_ble_eq_true rfl) (fun L => ?_)
 unfold types_kindOf.f at h
 refine TC.seq ?_
 refine TC.region ?_
 refine TL.cons (TL.box (cs := [.int .i64 a0.f0, .string a0.f1, .int .i64 a0.f2, .slice A1 a0.f3.length c2]) rfl rfl rfl rfl (fun b5 => ?_))
 refine TL.cons (TO.val rfl rfl rfl (Val.assign rfl) ?_)
 refine TL.nil ?_
 refine TQ.then_ ?_
 refine TC.seq ?_
 refine TC.block ?_
 refine TC.seq ?_
 obtain ⟨j104, hj104, h⟩ := jn_no h
 refine TC.tail (fun a W => ∃ (x103 : Bool), j104 x103 = some r ∧ Fr 43 a [(1, .pointer (some ⟨b5, 0, none⟩)), (3, .bool x103)] ∧ Own G (Blk b5 [.int .i64 a0.f0, .string a0.f1, .int .i64 a0.f2, .slice A1 a0.f3.length c2] 36 :: L) W) ?_ ?_
 ·
  rintro a W ⟨x103, h, hF, hO⟩
  rw [hj104] at h
  refine TQ.use ?_ hF hO
  clear hF hO
  refine TQ.then_ ?_
  refine TC.cond_b rfl h (fun hc133 h => ?_) (fun hc133 h => ?_)
  ·
   refine TC.seq ?_
   refine TC.region ?_
   refine TL.cons (TO.val rfl rfl rfl (Val.assign rfl) ?_)
   refine TL.nil ?_
   refine TQ.then_ ?_
   refine TC.ret ?_
   refine TQ.inBR ?_
   refine TQ.thenR ?_
   obtain rfl := Option.some.inj h
   exact TQ.fin (.inl rfl) rfl Tryd.results47 (.tmp rfl .nil) rfl (FRel.mk (Ls := []) [] 1 (Gd.le.refl _) rfl rfl rfl ⟨rfl, rfl, rfl⟩)
  ·
   refine TC.seq ?_
   obtain ⟨j138, hj138, h⟩ := jn_no h
   refine TC.tail (fun a W => ∃ (x137 : Bool), j138 x137 = some r ∧ Fr 43 a [(1, .pointer (some ⟨b5, 0, none⟩)), (13, .bool x137)] ∧ Own G (Blk b5 [.int .i64 a0.f0, .string a0.f1, .int .i64 a0.f2, .slice A1 a0.f3.length c2] 36 :: L) W) ?_ ?_
   ·
    rintro a W ⟨x137, h, hF, hO⟩
    rw [hj138] at h
    refine TQ.use ?_ hF hO
    clear hF hO
    refine TQ.then_ ?_
    refine TC.cond_b rfl h (fun hc158 h => ?_) (fun hc158 h => ?_)
    ·
     refine TC.seq ?_
     refine TC.region ?_
     refine TL.cons (TO.val rfl rfl rfl (Val.assign rfl) ?_)
     refine TL.nil ?_
     refine TQ.then_ ?_
     refine TC.ret ?_
     refine TQ.inBR ?_
     refine TQ.thenR ?_
     obtain rfl := Option.some.inj h
     exact TQ.fin (.inl rfl) rfl Tryd.results47 (.tmp rfl .nil) rfl (FRel.mk (Ls := []) [] 1 (Gd.le.refl _) rfl rfl rfl ⟨rfl, rfl, rfl⟩)
    ·
     refine TC.seq ?_
     obtain ⟨j163, hj163, h⟩ := jn_no h
     refine TC.tail (fun a W => ∃ (x162 : Bool), j163 x162 = some r ∧ Fr 43 a [(1, .pointer (some ⟨b5, 0, none⟩)), (23, .bool x162)] ∧ Own G (Blk b5 [.int .i64 a0.f0, .string a0.f1, .int .i64 a0.f2, .slice A1 a0.f3.length c2] 36 :: L) W) ?_ ?_
     ·
      rintro a W ⟨x162, h, hF, hO⟩
      rw [hj163] at h
      refine TQ.use ?_ hF hO
      clear hF hO
      refine TQ.then_ ?_
      refine TC.cond_b rfl h (fun hc174 h => ?_) (fun hc174 h => ?_)
      ·
       refine TC.seq ?_
       refine TC.region ?_
       refine TL.cons (TO.val rfl rfl rfl (Val.assign rfl) ?_)
       refine TL.nil ?_
       refine TQ.then_ ?_
       refine TC.ret ?_
       refine TQ.inBR ?_
       refine TQ.thenR ?_
       obtain rfl := Option.some.inj h
       exact TQ.fin (.inl rfl) rfl Tryd.results47 (.tmp rfl .nil) rfl (FRel.mk (Ls := []) [] 1 (Gd.le.refl _) rfl rfl rfl ⟨rfl, rfl, rfl⟩)
      ·
       refine TC.seq ?_
       obtain ⟨j179, hj179, h⟩ := jn_no h
       refine TC.tail (fun a W => ∃ (x178 : Bool), j179 x178 = some r ∧ Fr 43 a [(33, .bool x178)] ∧ Own G (L) W) ?_ ?_
       ·
        rintro a W ⟨x178, h, hF, hO⟩
        rw [hj179] at h
        refine TQ.use ?_ hF hO
        clear hF hO
        refine TQ.then_ ?_
        refine TC.cond_b rfl h (fun hc181 h => ?_) (fun hc181 h => ?_)
        ·
         refine TC.seq ?_
         refine TC.region ?_
         refine TL.cons (TO.val rfl rfl rfl (Val.assign rfl) ?_)
         refine TL.nil ?_
         refine TQ.then_ ?_
         refine TC.ret ?_
         refine TQ.inBR ?_
         refine TQ.thenR ?_
         obtain rfl := Option.some.inj h
         exact TQ.fin (.inl rfl) rfl Tryd.results47 (.tmp rfl .nil) rfl (FRel.mk (Ls := []) [] 0 (Gd.le.refl _) rfl rfl rfl ⟨rfl, rfl, rfl⟩)
        ·
         refine TC.skip ?_
         refine TQ.inB ?_
         refine TQ.then_ ?_
         refine TC.seq ?_
         refine TC.region ?_
         refine TL.cons (TO.val rfl rfl rfl (Val.assign rfl) ?_)
         refine TL.nil ?_
         refine TQ.then_ ?_
         refine TC.ret ?_
         obtain rfl := Option.some.inj h
         exact TQ.fin (.inl rfl) rfl Tryd.results47 (.tmp rfl .nil) rfl (FRel.mk (Ls := []) [] 0 (Gd.le.refl _) rfl rfl rfl ⟨rfl, rfl, rfl⟩)
       ·
        refine TC.region ?_
        refine TL.cons (TO.val rfl rfl rfl (Val.fieldAddrB Tryd.underlying36 rfl fsz3 rfl rfl rfl) ?_)
        refine TL.cons (TO.val rfl rfl rfl (Val.loadB 0 agg3 rfl rfl rfl) ?_)
        refine TL.cons (TO.val rfl rfl rfl (Val.cmp rfl rfl run_eql) ?_)
        refine TL.cons (TO.val rfl rfl rfl (Val.move rfl) ?_)
        refine TK.split (p := a0.f0 = 8) h (fun hg182 h => ?_) (fun hg182 h => ?_)
        ·
         have hk183 : decide (a0.f0 = 8) = true := decide_eq_true hg182
         refine TL.cons (TO.val (Wt.yes rfl rfl rfl hk183) rfl rfl (Val.fieldAddrB Tryd.underlying36 rfl fsz34 rfl rfl rfl) ?_)
         refine TL.cons (TO.val (Wt.yes rfl rfl rfl hk183) rfl rfl (Val.loadB 0 agg34 rfl rfl rfl) ?_)
         refine TL.cons (TO.val (Wt.yes rfl rfl rfl hk183) rfl rfl (Val.len Tryd.underlying34 rfl) ?_)
         refine TL.cons (TO.val (Wt.yes rfl rfl rfl hk183) rfl rfl (Val.cmp rfl rfl run_gtr) ?_)
         refine TL.cons (TO.val rfl rfl rfl (Val.pickY rfl hk183 rfl) ?_)
         refine TL.cons (TO.val rfl rfl rfl (Val.assign rfl) ?_)
         refine TL.nil ?_
         exact fun a W hF hO => ⟨decide (0 < (a0.f3.length : Int)), h, hF.sub ⟨rfl, trivial⟩, hO.selT (Ls := []) [] 1 rfl rfl rfl⟩
        ·
         have hk184 : decide (a0.f0 = 8) = false := decide_eq_false hg182
         refine TL.cons (TL.not (Wt.no rfl rfl rfl hk184) rfl ?_)
         refine TL.cons (TL.not (Wt.no rfl rfl rfl hk184) rfl ?_)
         refine TL.cons (TL.not (Wt.no rfl rfl rfl hk184) rfl ?_)
         refine TL.cons (TL.not (Wt.no rfl rfl rfl hk184) rfl ?_)
         refine TL.cons (TO.val rfl rfl rfl (Val.pickN rfl hk184 rfl) ?_)
         refine TL.cons (TO.val rfl rfl rfl (Val.assign rfl) ?_)
         refine TL.nil ?_
         exact fun a W hF hO => ⟨false, h, hF.sub ⟨rfl, trivial⟩, hO.selT (Ls := []) [] 1 rfl rfl rfl⟩
     ·
      refine TC.region ?_
      refine TL.cons (TO.val rfl rfl rfl (Val.fieldAddrB Tryd.underlying36 rfl fsz3 rfl rfl rfl) ?_)
      refine TL.cons (TO.val rfl rfl rfl (Val.loadB 0 agg3 rfl rfl rfl) ?_)
      refine TL.cons (TO.val rfl rfl rfl (Val.cmp rfl rfl run_eql) ?_)
      refine TL.cons (TO.val rfl rfl rfl (Val.move rfl) ?_)
      refine TK.split (p := a0.f0 = 7) h (fun hg185 h => ?_) (fun hg185 h => ?_)
      ·
       have hk186 : decide (a0.f0 = 7) = true := decide_eq_true hg185
       refine TL.cons (TO.val (Wt.yes rfl rfl rfl hk186) rfl rfl (Val.fieldAddrB Tryd.underlying36 rfl fsz34 rfl rfl rfl) ?_)
       refine TL.cons (TO.val (Wt.yes rfl rfl rfl hk186) rfl rfl (Val.loadB 0 agg34 rfl rfl rfl) ?_)
       refine TL.cons (TO.val (Wt.yes rfl rfl rfl hk186) rfl rfl (Val.len Tryd.underlying34 rfl) ?_)
       refine TL.cons (TO.val (Wt.yes rfl rfl rfl hk186) rfl rfl (Val.cmp rfl rfl run_eql) ?_)
       refine TL.cons (TO.val rfl rfl rfl (Val.pickY rfl hk186 rfl) ?_)
       refine TL.cons (TO.val rfl rfl rfl (Val.assign rfl) ?_)
       refine TL.nil ?_
       exact fun a W hF hO => ⟨decide ((a0.f3.length : Int) = 1), h, hF.sub ⟨rfl, rfl, trivial⟩, hO.selT (Ls := [Blk b5 [.int .i64 a0.f0, .string a0.f1, .int .i64 a0.f2, .slice A1 a0.f3.length c2] 36]) [0] 1 rfl rfl rfl⟩
      ·
       have hk187 : decide (a0.f0 = 7) = false := decide_eq_false hg185
       refine TL.cons (TL.not (Wt.no rfl rfl rfl hk187) rfl ?_)
       refine TL.cons (TL.not (Wt.no rfl rfl rfl hk187) rfl ?_)
       refine TL.cons (TL.not (Wt.no rfl rfl rfl hk187) rfl ?_)
       refine TL.cons (TL.not (Wt.no rfl rfl rfl hk187) rfl ?_)
       refine TL.cons (TO.val rfl rfl rfl (Val.pickN rfl hk187 rfl) ?_)
       refine TL.cons (TO.val rfl rfl rfl (Val.assign rfl) ?_)
       refine TL.nil ?_
       exact fun a W hF hO => ⟨false, h, hF.sub ⟨rfl, rfl, trivial⟩, hO.selT (Ls := [Blk b5 [.int .i64 a0.f0, .string a0.f1, .int .i64 a0.f2, .slice A1 a0.f3.length c2] 36]) [0] 1 rfl rfl rfl⟩
   ·
    refine TC.region ?_
    refine TL.cons (TO.val rfl rfl rfl (Val.fieldAddrB Tryd.underlying36 rfl fsz3 rfl rfl rfl) ?_)
    refine TL.cons (TO.val rfl rfl rfl (Val.loadB 0 agg3 rfl rfl rfl) ?_)
    refine TL.cons (TO.val rfl rfl rfl (Val.cmp rfl rfl run_eql) ?_)
    refine TL.cons (TO.val rfl rfl rfl (Val.move rfl) ?_)
    refine TK.split (p := a0.f0 = 6) h (fun hg188 h => ?_) (fun hg188 h => ?_)
    ·
     have hk189 : decide (a0.f0 = 6) = true := decide_eq_true hg188
     refine TL.cons (TO.val (Wt.yes rfl rfl rfl hk189) rfl rfl (Val.fieldAddrB Tryd.underlying36 rfl fsz34 rfl rfl rfl) ?_)
     refine TL.cons (TO.val (Wt.yes rfl rfl rfl hk189) rfl rfl (Val.loadB 0 agg34 rfl rfl rfl) ?_)
     refine TL.cons (TO.val (Wt.yes rfl rfl rfl hk189) rfl rfl (Val.len Tryd.underlying34 rfl) ?_)
     refine TL.cons (TO.val (Wt.yes rfl rfl rfl hk189) rfl rfl (Val.cmp rfl rfl run_eql) ?_)
     refine TL.cons (TO.val rfl rfl rfl (Val.pickY rfl hk189 rfl) ?_)
     refine TL.cons (TO.val rfl rfl rfl (Val.assign rfl) ?_)
     refine TL.nil ?_
     exact fun a W hF hO => ⟨decide ((a0.f3.length : Int) = 1), h, hF.sub ⟨rfl, rfl, trivial⟩, hO.selT (Ls := [Blk b5 [.int .i64 a0.f0, .string a0.f1, .int .i64 a0.f2, .slice A1 a0.f3.length c2] 36]) [0] 1 rfl rfl rfl⟩
    ·
     have hk190 : decide (a0.f0 = 6) = false := decide_eq_false hg188
     refine TL.cons (TL.not (Wt.no rfl rfl rfl hk190) rfl ?_)
     refine TL.cons (TL.not (Wt.no rfl rfl rfl hk190) rfl ?_)
     refine TL.cons (TL.not (Wt.no rfl rfl rfl hk190) rfl ?_)
     refine TL.cons (TL.not (Wt.no rfl rfl rfl hk190) rfl ?_)
     refine TL.cons (TO.val rfl rfl rfl (Val.pickN rfl hk190 rfl) ?_)
     refine TL.cons (TO.val rfl rfl rfl (Val.assign rfl) ?_)
     refine TL.nil ?_
     exact fun a W hF hO => ⟨false, h, hF.sub ⟨rfl, rfl, trivial⟩, hO.selT (Ls := [Blk b5 [.int .i64 a0.f0, .string a0.f1, .int .i64 a0.f2, .slice A1 a0.f3.length c2] 36]) [0] 1 rfl rfl rfl⟩
 ·
  refine TC.region ?_
  refine TL.cons (TO.val rfl rfl rfl (Val.fieldAddrB Tryd.underlying36 rfl fsz3 rfl rfl rfl) ?_)
  refine TL.cons (TO.val rfl rfl rfl (Val.loadB 0 agg3 rfl rfl rfl) ?_)
  refine TL.cons (TO.val rfl rfl rfl (Val.cmp rfl rfl run_eql) ?_)
  refine TL.cons (TO.val rfl rfl rfl (Val.move rfl) ?_)
  refine TK.split (p := a0.f0 = 5) h (fun hg191 h => ?_) (fun hg191 h => ?_)
  ·
   have hk192 : decide (a0.f0 = 5) = true := decide_eq_true hg191
   refine TL.cons (TO.val (Wt.yes rfl rfl rfl hk192) rfl rfl (Val.fieldAddrB Tryd.underlying36 rfl fsz34 rfl rfl rfl) ?_)
   refine TL.cons (TO.val (Wt.yes rfl rfl rfl hk192) rfl rfl (Val.loadB 0 agg34 rfl rfl rfl) ?_)
   refine TL.cons (TO.val (Wt.yes rfl rfl rfl hk192) rfl rfl (Val.len Tryd.underlying34 rfl) ?_)
   refine TL.cons (TO.val (Wt.yes rfl rfl rfl hk192) rfl rfl (Val.cmp rfl rfl run_eql) ?_)
   refine TL.cons (TO.val rfl rfl rfl (Val.pickY rfl hk192 rfl) ?_)
   refine TL.cons (TO.val rfl rfl rfl (Val.assign rfl) ?_)
   refine TL.nil ?_
   exact fun a W hF hO => ⟨decide ((a0.f3.length : Int) = 0), h, hF.sub ⟨rfl, rfl, trivial⟩, hO.selT (Ls := [Blk b5 [.int .i64 a0.f0, .string a0.f1, .int .i64 a0.f2, .slice A1 a0.f3.length c2] 36]) [0] 1 rfl rfl rfl⟩
  ·
   have hk193 : decide (a0.f0 = 5) = false := decide_eq_false hg191
   refine TL.cons (TL.not (Wt.no rfl rfl rfl hk193) rfl ?_)
   refine TL.cons (TL.not (Wt.no rfl rfl rfl hk193) rfl ?_)
   refine TL.cons (TL.not (Wt.no rfl rfl rfl hk193) rfl ?_)
   refine TL.cons (TL.not (Wt.no rfl rfl rfl hk193) rfl ?_)
   refine TL.cons (TO.val rfl rfl rfl (Val.pickN rfl hk193 rfl) ?_)
   refine TL.cons (TO.val rfl rfl rfl (Val.assign rfl) ?_)
   refine TL.nil ?_
   exact fun a W hF hO => ⟨false, h, hF.sub ⟨rfl, rfl, trivial⟩, hO.selT (Ls := [Blk b5 [.int .i64 a0.f0, .string a0.f1, .int .i64 a0.f2, .slice A1 a0.f3.length c2] 36]) [0] 1 rfl rfl rfl⟩
end Go.Proofs.YtdklnjmdaecboaaDoor.Sy
set_option linter.unusedVariables false
set_option linter.unusedSimpArgs false
set_option maxRecDepth 100000
set_option maxHeartbeats 4000000
namespace Go.Proofs.YtdklnjmdaecboaaDoor.Sy
open Go Go.RowKit Go.Proofs.YtdklnjmdaecboaaDoorW.PrintWords 
def token_digit.f (a0 : Int) : Option Bool := (if 48 ≤ a0 then some (decide (a0 ≤ 57)) else some false)
def token_digit.post (G : Gd) (r : Bool) (v : Value) (G' : Gd) (Lr : List Ch) : Prop := G = G' ∧ v = .bool r ∧ Lr = []
theorem token_digit.calls {G : Gd} {r : Bool} {a0 : Int} (h : token_digit.f a0 = some r) : Fn Tryd.prog 55 G [] [.int .u8 a0] (token_digit.post G r) := by
 refine Fn.intro (e := [(0, .int .u8 a0)]) 9 Tryd.func55 rfl Tryd.ntmps55 rfl rfl (Nat.le_of_ble_eq_true rfl) (fun L => ?_)
 unfold token_digit.f at h
 refine TC.seq ?_
 refine TC.region ?_
 refine TL.cons (TO.val rfl rfl rfl (Val.assign rfl) ?_)
 refine TL.nil ?_
 refine TQ.then_ ?_
 refine TC.seq ?_
 refine TC.region ?_
 refine TL.cons (TO.val rfl rfl rfl (Val.move rfl) ?_)
 refine TL.cons (TO.val rfl rfl rfl (Val.cmp rfl rfl run_geq) ?_)
 refine TL.cons (TO.val rfl rfl rfl (Val.move rfl) ?_)
 refine TK.split (p := 48 ≤ a0) h (fun hg4 h => ?_) (fun hg4 h => ?_)
 ·
  have hk5 : decide (48 ≤ a0) = true := decide_eq_true hg4
  refine TL.cons (TO.val (Wt.yes rfl rfl rfl hk5) rfl rfl (Val.move rfl) ?_)
  refine TL.cons (TO.val (Wt.yes rfl rfl rfl hk5) rfl rfl (Val.cmp rfl rfl run_leq) ?_)
  refine TL.cons (TO.val rfl rfl rfl (Val.pickY rfl hk5 rfl) ?_)
  refine TL.cons (TO.val rfl rfl rfl (Val.assign rfl) ?_)
  refine TL.nil ?_
  refine TQ.then_ ?_
  refine TC.ret ?_
  obtain rfl := Option.some.inj h
  exact TQ.fin (.inl rfl) rfl Tryd.results55 (.tmp rfl .nil) rfl (FRel.mk (Ls := []) [] 0 (Gd.le.refl _) rfl rfl rfl ⟨rfl, rfl, rfl⟩)
 ·
  have hk6 : decide (48 ≤ a0) = false := decide_eq_false hg4
  refine TL.cons (TL.not (Wt.no rfl rfl rfl hk6) rfl ?_)
  refine TL.cons (TL.not (Wt.no rfl rfl rfl hk6) rfl ?_)
  refine TL.cons (TO.val rfl rfl rfl (Val.pickN rfl hk6 rfl) ?_)
  refine TL.cons (TO.val rfl rfl rfl (Val.assign rfl) ?_)
  refine TL.nil ?_
  refine TQ.then_ ?_
  refine TC.ret ?_
  obtain rfl := Option.some.inj h
  exact TQ.fin (.inl rfl) rfl Tryd.results55 (.tmp rfl .nil) rfl (FRel.mk (Ls := []) [] 0 (Gd.le.refl _) rfl rfl rfl ⟨rfl, rfl, rfl⟩)
end Go.Proofs.YtdklnjmdaecboaaDoor.Sy
set_option linter.unusedVariables false
set_option linter.unusedSimpArgs false
set_option maxRecDepth 100000
set_option maxHeartbeats 4000000
namespace Go.Proofs.YtdklnjmdaecboaaDoor.Sy
open Go Go.RowKit Go.Proofs.YtdklnjmdaecboaaDoorW.PrintWords 
def token_Number.l0 (a0 : ByteArray) : Nat → Int → Int → Option (Sum (Int × Bool) (Int))
 | 0, _, _ => none
 | n133 + 1, x91, x92 => (if x92 < (a0.size : Int) then (byte? a0 x92).bind fun (y192 : Int) => jn (γ := (Sum (Int × Bool) (Int))) (fun (x200 : Bool) => (if x200 = true then some (.inl (0, false)) else token_Number.l0 a0 n133 (IntKind.i64.wrap ((IntKind.i64.wrap (10 * x91)) + (IntKind.i64.wrap ((IntKind.i64.wrap y192) - 48)))) (IntKind.i64.wrap (x92 + 1)))) (fun (j201 : (Bool → Option (Sum (Int × Bool) (Int)))) => (token_digit.f y192).bind fun (y204 : Bool) => (if (!y204) = true then j201 true else (if ¬ (10 : Int) = 0 then j201 (decide ((IntKind.i64.wrap ((IntKind.i64.wrap (9223372036854775807 - (IntKind.i64.wrap ((IntKind.i64.wrap y192) - 48)))).tdiv 10)) < x91)) else none))) else some (.inr x91))
def token_Number.f (a0 : ByteArray) : Option (Int × Bool) := jn (γ := (Int × Bool)) (fun (x9 : Bool) => (if x9 = true then some (0, false) else (token_Number.l0 a0 (a0.size + 1) 0 0).bind fun | .inl q_ => some q_ | .inr x131 => (some (x131, true)))) (fun (j10 : (Bool → Option (Int × Bool))) => (if (a0.data.toList == (⟨#[]⟩ : ByteArray).data.toList) = true then j10 true else (if 1 < (a0.size : Int) then (byte? a0 0).bind fun (y215 : Int) => j10 (decide (y215 = 48)) else j10 false)))
def token_Number.post (G : Gd) (r : (Int × Bool)) (v : Value) (G' : Gd) (Lr : List Ch) : Prop := G = G' ∧ v = .tuple #[.int .i64 r.1, .bool r.2] ∧ Lr = []
theorem token_Number.calls {G : Gd} {r : (Int × Bool)} {a0 : ByteArray} (h : token_Number.f a0 = some r) : Fn Tryd.prog 48 G [] [.string a0] (token_Number.post G r) := by
 refine Fn.intro (e := [(0, .string a0)]) 47 Tryd.func48 rfl Tryd.ntmps48 rfl rfl (Nat.le_of_ble_eq_true rfl) (fun L => ?_)
 unfold token_Number.f at h
 refine TC.seq ?_
 refine TC.region ?_
 refine TL.cons (TO.val rfl rfl rfl (Val.assign rfl) ?_)
 refine TL.cons (TO.val rfl rfl rfl (Val.assign rfl) ?_)
 refine TL.nil ?_
 refine TQ.then_ ?_
 refine TC.seq ?_
 refine TC.seq ?_
 obtain ⟨j10, hj10, h⟩ := jn_no h
 refine TC.tail (fun a W => ∃ (x9 : Bool), j10 x9 = some r ∧ Fr 47 a [(0, .string a0), (18, .bool x9)] ∧ Own G (L) W) ?_ ?_
 ·
  rintro a W ⟨x9, h, hF, hO⟩
  rw [hj10] at h
  refine TQ.use ?_ hF hO
  clear hF hO
  refine TQ.then_ ?_
  refine TC.cond_b rfl h (fun hc12 h => ?_) (fun hc12 h => ?_)
  ·
   refine TC.seq ?_
   refine TC.region ?_
   refine TL.cons (TO.val rfl rfl rfl (Val.assign rfl) ?_)
   refine TL.cons (TO.val rfl rfl rfl (Val.assign rfl) ?_)
   refine TL.nil ?_
   refine TQ.then_ ?_
   refine TC.ret ?_
   refine TQ.thenR ?_
   obtain rfl := Option.some.inj h
   exact TQ.fin (.inl rfl) rfl Tryd.results48 (.tmp rfl (.tmp rfl .nil)) rfl (FRel.mk (Ls := []) [] 0 (Gd.le.refl _) rfl rfl rfl ⟨rfl, rfl, rfl⟩)
  ·
   refine TC.skip ?_
   refine TQ.then_ ?_
   refine TC.seq ?_
   refine TC.region ?_
   refine TL.cons (TO.val rfl rfl rfl (Val.assign rfl) ?_)
   refine TL.nil ?_
   refine TQ.then_ ?_
   refine TC.seq ?_
   refine TC.seq ?_
   refine TC.region ?_
   refine TL.cons (TO.val rfl rfl rfl (Val.move rfl) ?_)
   refine TL.cons (TO.val rfl rfl rfl (Val.lenS Tryd.underlying9 rfl) ?_)
   refine TL.cons (TO.val rfl rfl rfl (Val.move rfl) ?_)
   refine TL.nil ?_
   refine TQ.then_ ?_
   obtain ⟨o132, ho132, ko132⟩ := bind_no h
   clear h
   refine TC.tail (fun a W => ∃ (x131 : Int), (.inr x131) = o132 ∧ Fr 47 a [(4, .int .i64 x131)] ∧ Own G (L) W) ?_ ?_
   ·
    rintro a W ⟨x131, rfl, hF, hO⟩
    have h := ko132
    clear ko132 ho132
    refine TQ.use ?_ hF hO
    clear hF hO
    refine TQ.then_ ?_
    refine TC.seq ?_
    refine TC.region ?_
    refine TL.cons (TO.val rfl rfl rfl (Val.move rfl) ?_)
    refine TL.cons (TO.val rfl rfl rfl (Val.assign rfl) ?_)
    refine TL.cons (TO.val rfl rfl rfl (Val.assign rfl) ?_)
    refine TL.nil ?_
    refine TQ.then_ ?_
    refine TC.ret ?_
    obtain rfl := Option.some.inj h
    exact TQ.fin (.inl rfl) rfl Tryd.results48 (.tmp rfl (.tmp rfl .nil)) rfl (FRel.mk (Ls := []) [] 0 (Gd.le.refl _) rfl rfl rfl ⟨rfl, rfl, rfl⟩)
   ·
    refine TC.block ?_
    intro a W hF hO
    have hS : ∃ (x91 : Int) (x92 : Int), token_Number.l0 a0 (a0.size + 1) x91 x92 = some o132 ∧ Fr 47 a [(0, .string a0), (4, .int .i64 x91), (20, .int .i64 (a0.size : Int)), (21, .int .i64 x92)] ∧ Own G (L) W := by
     exact ⟨0, 0, ho132, hF.sub ⟨rfl, rfl, rfl, rfl, trivial⟩, hO.selT (Ls := []) [] 0 rfl rfl rfl⟩
    clear hF hO ho132
    refine TC.loop (fun n133 a W => ∃ (x91 : Int) (x92 : Int), token_Number.l0 a0 n133 x91 x92 = some o132 ∧ Fr 47 a [(0, .string a0), (4, .int .i64 x91), (20, .int .i64 (a0.size : Int)), (21, .int .i64 x92)] ∧ Own G (L) W) ?_ ?_ hS
    ·
     rintro a W ⟨x91, x92, h, hF, hO⟩
     exact none_no h
    ·
     clear hS
     rintro n133 a W ⟨x91, x92, h, hF, hO⟩
     rw [token_Number.l0] at h
     refine TC.use ?_ hF hO
     clear hF hO
     refine TC.seq ?_
     refine TC.region ?_
     refine TL.cons (TO.val rfl rfl rfl (Val.cmp rfl rfl run_lss) ?_)
     refine TL.nil ?_
     refine TQ.then_ ?_
     refine TC.seq ?_
     refine TC.cond_p rfl h (fun hc173 h => ?_) (fun hc173 h => ?_)
     ·
      refine TC.skip ?_
      refine TQ.then_ ?_
      refine TC.seq ?_
      refine TC.block ?_
      refine TC.seq ?_
      refine TC.region ?_
      refine TL.cons (TO.val rfl rfl rfl (Val.move rfl) ?_)
      refine TL.cons (TO.val rfl rfl rfl (Val.assign rfl) ?_)
      refine TL.nil ?_
      refine TQ.then_ ?_
      refine TC.seq ?_
      refine TC.region ?_
      refine TL.cons (TO.val rfl rfl rfl (Val.move rfl) ?_)
      refine TL.cons (TO.val rfl rfl rfl (Val.move rfl) ?_)
      obtain ⟨y192, hy193, h⟩ := bind_no h
      refine TL.cons (TO.val rfl rfl rfl (Val.indexS Tryd.underlying9 rfl rfl hy193) ?_)
      refine TL.cons (TO.val rfl rfl rfl (Val.convI Tryd.underlying5 Tryd.underlying3 rfl) ?_)
      refine TL.cons (TO.val rfl rfl rfl (Val.cmp rfl rfl run_sub) ?_)
      refine TL.cons (TO.val rfl rfl rfl (Val.assign rfl) ?_)
      refine TL.nil ?_
      refine TQ.then_ ?_
      refine TC.seq ?_
      refine TC.seq ?_
      obtain ⟨j201, hj201, h⟩ := jn_no h
      refine TC.tail (fun a W => ∃ (x200 : Bool), j201 x200 = some o132 ∧ Fr 47 a [(0, .string a0), (4, .int .i64 x91), (6, .int .i64 (IntKind.i64.wrap ((IntKind.i64.wrap y192) - 48))), (20, .int .i64 (a0.size : Int)), (21, .int .i64 x92), (40, .bool x200)] ∧ Own G (L) W) ?_ ?_
      ·
       rintro a W ⟨x200, h, hF, hO⟩
       rw [hj201] at h
       refine TQ.use ?_ hF hO
       clear hF hO
       refine TQ.then_ ?_
       refine TC.cond_b rfl h (fun hc203 h => ?_) (fun hc203 h => ?_)
       ·
        refine TC.seq ?_
        refine TC.region ?_
        refine TL.cons (TO.val rfl rfl rfl (Val.assign rfl) ?_)
        refine TL.cons (TO.val rfl rfl rfl (Val.assign rfl) ?_)
        refine TL.nil ?_
        refine TQ.then_ ?_
        refine TC.ret ?_
        refine TQ.thenR ?_
        refine TQ.inBR ?_
        refine TQ.thenR ?_
        refine TQ.thenR ?_
        refine TQ.inBR ?_
        refine TQ.thenR ?_
        refine TQ.thenR ?_
        obtain rfl := Option.some.inj h
        have h := ko132
        obtain rfl := Option.some.inj h
        exact TQ.fin (.inl rfl) rfl Tryd.results48 (.tmp rfl (.tmp rfl .nil)) rfl (FRel.mk (Ls := []) [] 0 (Gd.le.refl _) rfl rfl rfl ⟨rfl, rfl, rfl⟩)
       ·
        refine TC.skip ?_
        refine TQ.then_ ?_
        refine TC.region ?_
        refine TL.cons (TO.val rfl rfl rfl (Val.move rfl) ?_)
        refine TL.cons (TO.val rfl rfl rfl (Val.cmp rfl rfl run_mul) ?_)
        refine TL.cons (TO.val rfl rfl rfl (Val.move rfl) ?_)
        refine TL.cons (TO.val rfl rfl rfl (Val.cmp rfl rfl run_add) ?_)
        refine TL.cons (TO.val rfl rfl rfl (Val.assign rfl) ?_)
        refine TL.nil ?_
        refine TQ.inB ?_
        refine TQ.then_ ?_
        refine TC.region ?_
        refine TL.cons (TO.val rfl rfl rfl (Val.cmp rfl rfl run_add) ?_)
        refine TL.cons (TO.val rfl rfl rfl (Val.move rfl) ?_)
        refine TL.nil ?_
        exact fun a W hF hO => ⟨IntKind.i64.wrap ((IntKind.i64.wrap (10 * x91)) + (IntKind.i64.wrap ((IntKind.i64.wrap y192) - 48))), IntKind.i64.wrap (x92 + 1), h, hF.sub ⟨rfl, rfl, rfl, rfl, trivial⟩, hO.selT (Ls := []) [] 0 rfl rfl rfl⟩
      ·
       refine TC.region ?_
       refine TL.cons (TO.val rfl rfl rfl (Val.move rfl) ?_)
       refine TL.cons (TO.val rfl rfl rfl (Val.move rfl) ?_)
       refine TL.cons (TO.val rfl rfl rfl (Val.indexS Tryd.underlying9 rfl rfl hy193) ?_)
       obtain ⟨y204, hy205, h⟩ := bind_no h
       refine TL.cons (TL.callV (Lin := []) (args := [.int .u8 y192]) rfl rfl rfl hbd55 rfl rfl (token_digit.calls (a0 := y192) hy205) rfl ?_)
       rintro _ _ _ _ ⟨rfl, rfl, rfl⟩
       refine TL.cons (TO.val rfl rfl rfl (Val.not_ rfl) ?_)
       refine TL.cons (TO.val rfl rfl rfl (Val.move rfl) ?_)
       refine TK.split (p := (!y204) = true) h (fun hg206 h => ?_) (fun hg206 h => ?_)
       ·
        have hk207 : (!y204) = true := hg206
        refine TL.cons (TL.not (Wt.no rfl rfl rfl hk207) rfl ?_)
        refine TL.cons (TL.not (Wt.no rfl rfl rfl hk207) rfl ?_)
        refine TL.cons (TL.not (Wt.no rfl rfl rfl hk207) rfl ?_)
        refine TL.cons (TL.not (Wt.no rfl rfl rfl hk207) rfl ?_)
        refine TL.cons (TL.not (Wt.no rfl rfl rfl hk207) rfl ?_)
        refine TL.cons (TO.val rfl rfl rfl (Val.pickY rfl hk207 rfl) ?_)
        refine TL.nil ?_
        exact fun a W hF hO => ⟨true, h, hF.sub ⟨rfl, rfl, rfl, rfl, rfl, rfl, trivial⟩, hO.selT (Ls := []) [] 0 rfl rfl rfl⟩
       ·
        have hk208 : (!y204) = false := (by simpa using hg206)
        refine TL.cons (TO.val (Wt.yes rfl rfl rfl hk208) rfl rfl (Val.move rfl) ?_)
        refine TL.cons (TO.val (Wt.yes rfl rfl rfl hk208) rfl rfl (Val.move rfl) ?_)
        refine TL.cons (TO.val (Wt.yes rfl rfl rfl hk208) rfl rfl (Val.cmp rfl rfl run_sub) ?_)
        obtain ⟨hz209, h⟩ := ite_no h
        refine TL.cons (TO.val (Wt.yes rfl rfl rfl hk208) rfl rfl (Val.cmp rfl rfl (run_quo hz209)) ?_)
        refine TL.cons (TO.val (Wt.yes rfl rfl rfl hk208) rfl rfl (Val.cmp rfl rfl run_gtr) ?_)
        refine TL.cons (TO.val rfl rfl rfl (Val.pickN rfl hk208 rfl) ?_)
        refine TL.nil ?_
        exact fun a W hF hO => ⟨decide ((IntKind.i64.wrap ((IntKind.i64.wrap (9223372036854775807 - (IntKind.i64.wrap ((IntKind.i64.wrap y192) - 48)))).tdiv 10)) < x91), h, hF.sub ⟨rfl, rfl, rfl, rfl, rfl, rfl, trivial⟩, hO.selT (Ls := []) [] 0 rfl rfl rfl⟩
     ·
      refine TC.exit ?_
      refine TQ.thenX ?_
      refine TQ.thenX ?_
      refine TQ.inBX ?_
      exact fun a W hF hO => ⟨x91, Option.some.inj h, hF.sub ⟨rfl, trivial⟩, hO.selT (Ls := []) [] 0 rfl rfl rfl⟩
 ·
  refine TC.region ?_
  refine TL.cons (TO.val rfl rfl rfl (Val.move rfl) ?_)
  refine TL.cons (TO.val rfl rfl rfl (Val.eqT rfl rfl) ?_)
  refine TL.cons (TO.val rfl rfl rfl (Val.move rfl) ?_)
  refine TK.split (p := (a0.data.toList == (⟨#[]⟩ : ByteArray).data.toList) = true) h (fun hg210 h => ?_) (fun hg210 h => ?_)
  ·
   have hk211 : (a0.data.toList == (⟨#[]⟩ : ByteArray).data.toList) = true := hg210
   refine TL.cons (TL.not (Wt.no rfl rfl rfl hk211) rfl ?_)
   refine TL.cons (TL.not (Wt.no rfl rfl rfl hk211) rfl ?_)
   refine TL.cons (TL.not (Wt.no rfl rfl rfl hk211) rfl ?_)
   refine TL.cons (TL.not (Wt.no rfl rfl rfl hk211) rfl ?_)
   refine TL.cons (TL.not rfl rfl ?_)
   refine TL.cons (TL.not rfl rfl ?_)
   refine TL.cons (TL.not rfl rfl ?_)
   refine TL.cons (TL.not (Wt.no rfl rfl rfl hk211) rfl ?_)
   refine TL.cons (TO.val rfl rfl rfl (Val.pickY rfl hk211 rfl) ?_)
   refine TL.nil ?_
   exact fun a W hF hO => ⟨true, h, hF.sub ⟨rfl, rfl, trivial⟩, hO.selT (Ls := []) [] 0 rfl rfl rfl⟩
  ·
   have hk212 : (a0.data.toList == (⟨#[]⟩ : ByteArray).data.toList) = false := (by simpa using hg210)
   refine TL.cons (TO.val (Wt.yes rfl rfl rfl hk212) rfl rfl (Val.move rfl) ?_)
   refine TL.cons (TO.val (Wt.yes rfl rfl rfl hk212) rfl rfl (Val.lenS Tryd.underlying9 rfl) ?_)
   refine TL.cons (TO.val (Wt.yes rfl rfl rfl hk212) rfl rfl (Val.cmp rfl rfl run_gtr) ?_)
   refine TL.cons (TO.val (Wt.yes rfl rfl rfl hk212) rfl rfl (Val.move rfl) ?_)
   refine TK.split (p := 1 < (a0.size : Int)) h (fun hg213 h => ?_) (fun hg213 h => ?_)
   ·
    have hk214 : decide (1 < (a0.size : Int)) = true := decide_eq_true hg213
    refine TL.cons (TO.val (Wt.yes rfl rfl rfl hk214) rfl rfl (Val.move rfl) ?_)
    obtain ⟨y215, hy216, h⟩ := bind_no h
    refine TL.cons (TO.val (Wt.yes rfl rfl rfl hk214) rfl rfl (Val.indexS Tryd.underlying9 rfl rfl hy216) ?_)
    refine TL.cons (TO.val (Wt.yes rfl rfl rfl hk214) rfl rfl (Val.cmp rfl rfl run_eql) ?_)
    refine TL.cons (TO.val (Wt.yes rfl rfl rfl hk212) rfl rfl (Val.pickY rfl hk214 rfl) ?_)
    refine TL.cons (TO.val rfl rfl rfl (Val.pickN rfl hk212 rfl) ?_)
    refine TL.nil ?_
    exact fun a W hF hO => ⟨decide (y215 = 48), h, hF.sub ⟨rfl, rfl, trivial⟩, hO.selT (Ls := []) [] 0 rfl rfl rfl⟩
   ·
    have hk217 : decide (1 < (a0.size : Int)) = false := decide_eq_false hg213
    refine TL.cons (TL.not (Wt.no rfl rfl rfl hk217) rfl ?_)
    refine TL.cons (TL.not (Wt.no rfl rfl rfl hk217) rfl ?_)
    refine TL.cons (TL.not (Wt.no rfl rfl rfl hk217) rfl ?_)
    refine TL.cons (TO.val (Wt.yes rfl rfl rfl hk212) rfl rfl (Val.pickN rfl hk217 rfl) ?_)
    refine TL.cons (TO.val rfl rfl rfl (Val.pickN rfl hk212 rfl) ?_)
    refine TL.nil ?_
    exact fun a W hF hO => ⟨false, h, hF.sub ⟨rfl, rfl, trivial⟩, hO.selT (Ls := []) [] 0 rfl rfl rfl⟩
end Go.Proofs.YtdklnjmdaecboaaDoor.Sy
set_option linter.unusedVariables false
set_option linter.unusedSimpArgs false
set_option maxRecDepth 100000
set_option maxHeartbeats 4000000
namespace Go.Proofs.YtdklnjmdaecboaaDoor.Sy
open Go Go.RowKit Go.Proofs.YtdklnjmdaecboaaDoorW.PrintWords 
def types_of.post (G : Gd) (r : (S24 × Bool)) (v : Value) (G' : Gd) (Lr : List Ch) : Prop := G = G' ∧ ∃ (A_1 : Option Addr) (c_1 : Nat), v = .tuple #[.agg #[.int .i64 r.1.f0, .int .i64 r.1.f1, .slice A_1 r.1.f2.length c_1], .bool r.2] ∧ Lr = [Row k24 24 (.slice A_1 r.1.f2.length c_1) r.1.f2]
def types_of.l0 (rec39 : (S36 → Option (S24 × Bool))) (a0 : S36) (y7 : Int) (x14 : Int) : Nat → Int → (List S24) → Option (Sum (S24 × Bool) ((List S24)))
 | 0, _, _ => none
 | n199 + 1, x135, l136 => (if x135 < (a0.f3.length : Int) then (at? a0.f3 x135).bind fun y282 => (rec39 y282).bind fun (y296 : (S24 × Bool)) => (if (!y296.2) = true then some (.inl ((⟨y7, x14, l136⟩ : S24), false)) else (if l136.length < 3518437208883 then types_of.l0 rec39 a0 y7 x14 n199 (IntKind.i64.wrap (x135 + 1)) (l136 ++ [y296.1]) else none)) else some (.inr l136))
def types_of.g (rec39 : (S36 → Option (S24 × Bool))) (a0 : S36) : Option (S24 × Bool) := (types_kindOf.f a0).bind fun (y7 : Int) => jn (γ := (S24 × Bool)) (fun (x13 : Bool) (x14 : Int) => (if (!x13) = true then some ((⟨y7, x14, ([] : List S24)⟩ : S24), false) else (types_of.l0 rec39 a0 y7 x14 (a0.f3.length + 1) 0 []).bind fun | .inl q_ => some q_ | .inr l194 => (some ((⟨y7, x14, l194⟩ : S24), true)))) (fun (j15 : (Bool → Int → Option (S24 × Bool))) => (if y7 = 3 then (token_Number.f a0.f1).bind fun (y309 : (Int × Bool)) => j15 y309.2 y309.1 else j15 (!decide (y7 = 0)) 0))
theorem types_of.step (rec39 : (S36 → Option (S24 × Bool))) (ih39 : ∀ {G : Gd} {r : (S24 × Bool)} {a0 : S36} {A1 : Option Addr} {c2 : Nat} (hr3 : Rd G k36 A1 a0.f3) (hl4 : a0.f3.length ≤ c2), rec39 a0 = some r → Fn Tryd.prog 39 G [] [.agg #[.int .i64 a0.f0, .string a0.f1, .int .i64 a0.f2, .slice A1 a0.f3.length c2]] (types_of.post G r)) {G : Gd} {r : (S24 × Bool)} {a0 : S36} {A1 : Option Addr} {c2 : Nat} (hr3 : Rd G k36 A1 a0.f3) (hl4 : a0.f3.length ≤ c2) (h : types_of.g rec39 a0 = some r) : Fn Tryd.prog 39 G [] [.agg #[.int .i64 a0.f0, .string a0.f1, .int .i64 a0.f2, .slice A1 a0.f3.length c2]] (types_of.post G r) := by
 refine Fn.intro (e := [(0, .agg #[.int .i64 a0.f0, .string a0.f1, .int .i64 a0.f2, .slice A1 a0.f3.length c2])]) 52 Tryd.func39 rfl Tryd.ntmps39 rfl rfl (Nat.le_of_ble_eq_true rfl) (fun L => ?_)
 unfold types_of.g at h
 refine TC.seq ?_
 refine TC.region ?_
 refine TL.cons (TL.box (cs := [.int .i64 a0.f0, .string a0.f1, .int .i64 a0.f2, .slice A1 a0.f3.length c2]) rfl rfl rfl rfl (fun b5 => ?_))
 refine TL.cons (TL.alloc (cs := [.int .i64 0, .int .i64 0, .slice none 0 0]) rfl rfl zr24 rfl (fun b6 => ?_))
 refine TL.cons (TO.val rfl rfl rfl (Val.assign rfl) ?_)
 refine TL.nil ?_
 refine TQ.then_ ?_
 refine TC.seq ?_
 refine TC.region ?_
 refine TL.cons (TO.val rfl rfl rfl (Val.loadsB 1 (cs := [.int .i64 a0.f0, .string a0.f1, .int .i64 a0.f2, .slice A1 a0.f3.length c2]) agg36 fsz36 rfl rfl rfl rfl) ?_)
 obtain ⟨y7, hy8, h⟩ := bind_no h
 refine TL.cons (TL.callV (Lin := []) (args := [.agg #[.int .i64 a0.f0, .string a0.f1, .int .i64 a0.f2, .slice A1 a0.f3.length c2]]) rfl rfl rfl hbd47 rfl rfl (types_kindOf.calls (a0 := a0) hr3 hl4 hy8) rfl ?_)
 rintro _ _ _ _ ⟨rfl, rfl, rfl⟩
 refine TL.cons (TO.val rfl rfl rfl (Val.build (cs := [.int .i64 y7, .int .i64 0, .slice none 0 0]) (is := [0]) (xs := [.tmp 11]) Tryd.underlying24 zr24 bld24 rfl rfl rfl rfl) ?_)
 refine TL.cons (TL.alloc (cs := [.int .i64 0, .int .i64 0, .slice none 0 0]) rfl rfl zr24 rfl (fun b9 => ?_))
 refine TL.cons (TL.store 0 (ds := [.int .i64 y7, .int .i64 0, .slice none 0 0]) (cs' := [.int .i64 y7, .int .i64 0, .slice none 0 0]) (L' := (Blk b9 [.int .i64 y7, .int .i64 0, .slice none 0 0] 24 :: Blk b6 [.int .i64 0, .int .i64 0, .slice none 0 0] 24 :: Blk b5 [.int .i64 a0.f0, .string a0.f1, .int .i64 a0.f2, .slice A1 a0.f3.length c2] 36 :: L)) rfl fsz24 rfl rfl rfl rfl rfl (Nat.le_of_ble_eq_true rfl) rfl rfl ?_)
 refine TL.nil ?_
 refine TQ.then_ ?_
 refine TC.seq ?_
 refine TC.region ?_
 refine TL.cons (TO.val rfl rfl rfl (Val.fieldAddrB Tryd.underlying24 rfl fsz3 rfl rfl rfl) ?_)
 refine TL.cons (TO.val rfl rfl rfl (Val.loadB 0 agg3 rfl rfl rfl) ?_)
 refine TL.cons (TO.val rfl rfl rfl (Val.cmp rfl rfl run_neq) ?_)
 refine TL.cons (TO.val rfl rfl rfl (Val.assign rfl) ?_)
 refine TL.nil ?_
 refine TQ.then_ ?_
 refine TC.seq ?_
 refine TC.seq ?_
 refine TC.region ?_
 refine TL.cons (TO.val rfl rfl rfl (Val.fieldAddrB Tryd.underlying24 rfl fsz3 rfl rfl rfl) ?_)
 refine TL.cons (TO.val rfl rfl rfl (Val.loadB 0 agg3 rfl rfl rfl) ?_)
 refine TL.cons (TO.val rfl rfl rfl (Val.cmp rfl rfl run_eql) ?_)
 refine TL.nil ?_
 refine TQ.then_ ?_
 obtain ⟨j15, hj15, h⟩ := jn_no h
 refine TC.tail (fun a W => ∃ (x13 : Bool) (x14 : Int), j15 x13 x14 = some r ∧ Fr 52 a [(1, .pointer (some ⟨b5, 0, none⟩)), (2, .pointer (some ⟨b6, 0, none⟩)), (4, .pointer (some ⟨b9, 0, none⟩)), (5, .bool x13)] ∧ Own G (Blk b5 [.int .i64 a0.f0, .string a0.f1, .int .i64 a0.f2, .slice A1 a0.f3.length c2] 36 :: Blk b6 [.int .i64 0, .int .i64 0, .slice none 0 0] 24 :: Blk b9 [.int .i64 y7, .int .i64 x14, .slice none 0 0] 24 :: L) W) ?_ ?_
 ·
  rintro a W ⟨x13, x14, h, hF, hO⟩
  rw [hj15] at h
  refine TQ.use ?_ hF hO
  clear hF hO
  refine TQ.then_ ?_
  refine TC.seq ?_
  refine TC.seq ?_
  refine TC.region ?_
  refine TL.cons (TO.val rfl rfl rfl (Val.move rfl) ?_)
  refine TL.cons (TO.val rfl rfl rfl (Val.not_ rfl) ?_)
  refine TL.nil ?_
  refine TQ.then_ ?_
  refine TC.cond_b rfl h (fun hc17 h => ?_) (fun hc17 h => ?_)
  ·
   refine TC.seq ?_
   refine TC.region ?_
   refine TL.cons (TO.val rfl rfl rfl (Val.loadsB 2 (cs := [.int .i64 y7, .int .i64 x14, .slice none 0 0]) agg24 fsz24 rfl rfl rfl rfl) ?_)
   refine TL.cons (TL.store 1 (ds := [.int .i64 y7, .int .i64 x14, .slice none 0 0]) (cs' := [.int .i64 y7, .int .i64 x14, .slice none 0 0]) (L' := (Blk b5 [.int .i64 a0.f0, .string a0.f1, .int .i64 a0.f2, .slice A1 a0.f3.length c2] 36 :: Blk b6 [.int .i64 y7, .int .i64 x14, .slice none 0 0] 24 :: Blk b9 [.int .i64 y7, .int .i64 x14, .slice none 0 0] 24 :: L)) rfl fsz24 rfl rfl rfl rfl rfl (Nat.le_of_ble_eq_true rfl) rfl rfl ?_)
   refine TL.cons (TO.val rfl rfl rfl (Val.assign rfl) ?_)
   refine TL.nil ?_
   refine TQ.then_ ?_
   refine TC.ret ?_
   refine TQ.thenR ?_
   refine TQ.nilRow k24 24 ?_
   obtain rfl := Option.some.inj h
   exact TQ.fin (.inl rfl) rfl Tryd.results39 (.cells 2 rfl rfl agg24 fsz24 (.tmp rfl .nil)) rfl (FRel.mk (Ls := [Row k24 24 (.slice none 0 0) ([] : List S24)]) [0] 4 (Gd.le.refl _) rfl rfl rfl ⟨rfl, none, 0, rfl, rfl⟩)
  ·
   refine TC.skip ?_
   refine TQ.then_ ?_
   refine TC.seq ?_
   refine TC.seq ?_
   refine TC.region ?_
   refine TL.cons (TO.val rfl rfl rfl (Val.fieldAddrB Tryd.underlying36 rfl fsz34 rfl rfl rfl) ?_)
   refine TL.cons (TO.val rfl rfl rfl (Val.loadB 0 agg34 rfl rfl rfl) ?_)
   refine TL.cons (TO.val rfl rfl rfl (Val.len Tryd.underlying34 rfl) ?_)
   refine TL.cons (TO.val rfl rfl rfl (Val.move rfl) ?_)
   refine TL.nil ?_
   refine TQ.then_ ?_
   obtain ⟨o198, ho198, ko198⟩ := bind_no h
   clear h
   refine TC.tail (fun a W => ∃ (l194 : (List S24)) (A195 : Option Addr) (c196 : Nat), (.inr l194) = o198 ∧ Fr 52 a [(2, .pointer (some ⟨b6, 0, none⟩)), (4, .pointer (some ⟨b9, 0, none⟩))] ∧ Own G (Blk b6 [.int .i64 0, .int .i64 0, .slice none 0 0] 24 :: Blk b9 [.int .i64 y7, .int .i64 x14, .slice A195 l194.length c196] 24 :: Row k24 24 (.slice A195 l194.length c196) l194 :: L) W) ?_ ?_
   ·
    rintro a W ⟨l194, A195, c196, rfl, hF, hO⟩
    have h := ko198
    clear ko198 ho198
    refine TQ.use ?_ hF hO
    clear hF hO
    refine TQ.then_ ?_
    refine TC.seq ?_
    refine TC.region ?_
    refine TL.cons (TO.val rfl rfl rfl (Val.loadsB 1 (cs := [.int .i64 y7, .int .i64 x14, .slice A195 l194.length c196]) agg24 fsz24 rfl rfl rfl rfl) ?_)
    refine TL.cons (TL.store 0 (ds := [.int .i64 y7, .int .i64 x14, .slice A195 l194.length c196]) (cs' := [.int .i64 y7, .int .i64 x14, .slice A195 l194.length c196]) (L' := (Blk b6 [.int .i64 y7, .int .i64 x14, .slice A195 l194.length c196] 24 :: Blk b9 [.int .i64 y7, .int .i64 x14, .slice A195 l194.length c196] 24 :: Row k24 24 (.slice A195 l194.length c196) l194 :: L)) rfl fsz24 rfl rfl rfl rfl rfl (Nat.le_of_ble_eq_true rfl) rfl rfl ?_)
    refine TL.cons (TO.val rfl rfl rfl (Val.assign rfl) ?_)
    refine TL.nil ?_
    refine TQ.then_ ?_
    refine TC.ret ?_
    obtain rfl := Option.some.inj h
    exact TQ.fin (.inl rfl) rfl Tryd.results39 (.cells 0 rfl rfl agg24 fsz24 (.tmp rfl .nil)) rfl (FRel.mk (Ls := [Row k24 24 (.slice A195 l194.length c196) l194]) [2] 3 (Gd.le.refl _) rfl rfl rfl ⟨rfl, A195, c196, rfl, rfl⟩)
   ·
    refine TC.block ?_
    intro a W hF hO
    have hS : ∃ (x135 : Int) (l136 : (List S24)) (A137 : Option Addr) (c138 : Nat), types_of.l0 rec39 a0 y7 x14 (a0.f3.length + 1) x135 l136 = some o198 ∧ Fr 52 a [(2, .pointer (some ⟨b6, 0, none⟩)), (4, .pointer (some ⟨b9, 0, none⟩)), (30, .slice A1 a0.f3.length c2), (31, .int .i64 (a0.f3.length : Int)), (32, .int .i64 x135)] ∧ Own G (Blk b6 [.int .i64 0, .int .i64 0, .slice none 0 0] 24 :: Blk b9 [.int .i64 y7, .int .i64 x14, .slice A137 l136.length c138] 24 :: Row k24 24 (.slice A137 l136.length c138) l136 :: L) W := by
     exact ⟨0, [], none, 0, ho198, hF.sub ⟨rfl, rfl, rfl, rfl, rfl, trivial⟩, (Own.nilRow k24 24 hO).selT (Ls := [Blk b6 [.int .i64 0, .int .i64 0, .slice none 0 0] 24, Blk b9 [.int .i64 y7, .int .i64 x14, .slice none ([] : List S24).length 0] 24, Row k24 24 (.slice none ([] : List S24).length 0) ([] : List S24)]) [2, 3, 0] 4 rfl rfl rfl⟩
    clear hF hO ho198
    refine TC.loop (fun n199 a W => ∃ (x135 : Int) (l136 : (List S24)) (A137 : Option Addr) (c138 : Nat), types_of.l0 rec39 a0 y7 x14 n199 x135 l136 = some o198 ∧ Fr 52 a [(2, .pointer (some ⟨b6, 0, none⟩)), (4, .pointer (some ⟨b9, 0, none⟩)), (30, .slice A1 a0.f3.length c2), (31, .int .i64 (a0.f3.length : Int)), (32, .int .i64 x135)] ∧ Own G (Blk b6 [.int .i64 0, .int .i64 0, .slice none 0 0] 24 :: Blk b9 [.int .i64 y7, .int .i64 x14, .slice A137 l136.length c138] 24 :: Row k24 24 (.slice A137 l136.length c138) l136 :: L) W) ?_ ?_ hS
    ·
     rintro a W ⟨x135, l136, A137, c138, h, hF, hO⟩
     exact none_no h
    ·
     clear hS
     rintro n199 a W ⟨x135, l136, A137, c138, h, hF, hO⟩
     rw [types_of.l0] at h
     refine TC.use ?_ hF hO
     clear hF hO
     refine TC.seq ?_
     refine TC.region ?_
     refine TL.cons (TO.val rfl rfl rfl (Val.cmp rfl rfl run_lss) ?_)
     refine TL.nil ?_
     refine TQ.then_ ?_
     refine TC.seq ?_
     refine TC.cond_p rfl h (fun hc255 h => ?_) (fun hc255 h => ?_)
     ·
      refine TC.skip ?_
      refine TQ.then_ ?_
      refine TC.seq ?_
      refine TC.block ?_
      refine TC.seq ?_
      refine TC.region ?_
      obtain ⟨y282, hx283, h⟩ := bind_no h
      obtain ⟨ad284, cs290, hA285, hi286, hj287, hcl288, hK289⟩ := Rd.at hr3 hx283
      obtain ⟨A291, c292, rfl, hr293, hl294⟩ := k36_openR hK289
      refine TL.cons (TO.val rfl rfl rfl (Val.indexAddr Tryd.underlying34 fsz36 rfl hA285 rfl hi286 hj287) ?_)
      refine TL.cons (TO.val rfl rfl rfl (Val.loadsS (cs := [.int .i64 y282.f0, .string y282.f1, .int .i64 y282.f2, .slice A291 y282.f3.length c292]) agg36 fsz36 rfl rfl (Cl.sub (off := 0) (n := 4) hcl288 rfl)) ?_)
      refine TL.cons (TL.alloc (cs := [.int .i64 0, .string (⟨#[]⟩ : ByteArray), .int .i64 0, .slice none 0 0]) rfl rfl zr36 rfl (fun b295 => ?_))
      refine TL.cons (TL.store 0 (ds := [.int .i64 y282.f0, .string y282.f1, .int .i64 y282.f2, .slice A291 y282.f3.length c292]) (cs' := [.int .i64 y282.f0, .string y282.f1, .int .i64 y282.f2, .slice A291 y282.f3.length c292]) (L' := (Blk b295 [.int .i64 y282.f0, .string y282.f1, .int .i64 y282.f2, .slice A291 y282.f3.length c292] 36 :: Blk b6 [.int .i64 0, .int .i64 0, .slice none 0 0] 24 :: Blk b9 [.int .i64 y7, .int .i64 x14, .slice A137 l136.length c138] 24 :: Row k24 24 (.slice A137 l136.length c138) l136 :: L)) rfl fsz36 rfl rfl rfl rfl rfl (Nat.le_of_ble_eq_true rfl) rfl rfl ?_)
      refine TL.nil ?_
      refine TQ.then_ ?_
      refine TC.seq ?_
      refine TC.region ?_
      refine TL.cons (TO.val rfl rfl rfl (Val.loadsB 0 (cs := [.int .i64 y282.f0, .string y282.f1, .int .i64 y282.f2, .slice A291 y282.f3.length c292]) agg36 fsz36 rfl rfl rfl rfl) ?_)
      obtain ⟨y296, hy297, h⟩ := bind_no h
      refine TL.cons (TL.callV (Lin := []) (args := [.agg #[.int .i64 y282.f0, .string y282.f1, .int .i64 y282.f2, .slice A291 y282.f3.length c292]]) rfl rfl rfl hbd39 rfl rfl (ih39 (a0 := y282) hr293 hl294 hy297) rfl ?_)
      rintro _ _ _ _ ⟨rfl, A298, c299, rfl, rfl⟩
      refine TL.cons (TO.val rfl rfl rfl (Val.move rfl) ?_)
      refine TL.cons (TO.val rfl rfl rfl (Val.extract rfl rfl) ?_)
      refine TL.cons (TO.val rfl rfl rfl (Val.extract rfl rfl) ?_)
      refine TL.cons (TL.alloc (cs := [.int .i64 0, .int .i64 0, .slice none 0 0]) rfl rfl zr24 rfl (fun b301 => ?_))
      refine TL.cons (TL.store 0 (ds := [.int .i64 y296.1.f0, .int .i64 y296.1.f1, .slice A298 y296.1.f2.length c299]) (cs' := [.int .i64 y296.1.f0, .int .i64 y296.1.f1, .slice A298 y296.1.f2.length c299]) (L' := (Blk b301 [.int .i64 y296.1.f0, .int .i64 y296.1.f1, .slice A298 y296.1.f2.length c299] 24 :: Row k24 24 (.slice A298 y296.1.f2.length c299) y296.1.f2 :: Blk b295 [.int .i64 y282.f0, .string y282.f1, .int .i64 y282.f2, .slice A291 y282.f3.length c292] 36 :: Blk b6 [.int .i64 0, .int .i64 0, .slice none 0 0] 24 :: Blk b9 [.int .i64 y7, .int .i64 x14, .slice A137 l136.length c138] 24 :: Row k24 24 (.slice A137 l136.length c138) l136 :: L)) rfl fsz24 rfl rfl rfl rfl rfl (Nat.le_of_ble_eq_true rfl) rfl rfl ?_)
      refine TL.cons (TO.val rfl rfl rfl (Val.assign rfl) ?_)
      refine TL.nil ?_
      refine TQ.then_ ?_
      refine TC.seq ?_
      refine TC.seq ?_
      refine TC.region ?_
      refine TL.cons (TO.val rfl rfl rfl (Val.move rfl) ?_)
      refine TL.cons (TO.val rfl rfl rfl (Val.not_ rfl) ?_)
      refine TL.nil ?_
      refine TQ.then_ ?_
      refine TC.cond_b rfl h (fun hc303 h => ?_) (fun hc303 h => ?_)
      ·
       refine TC.seq ?_
       refine TC.region ?_
       refine TL.cons (TO.val rfl rfl rfl (Val.loadsB 4 (cs := [.int .i64 y7, .int .i64 x14, .slice A137 l136.length c138]) agg24 fsz24 rfl rfl rfl rfl) ?_)
       refine TL.cons (TL.store 3 (ds := [.int .i64 y7, .int .i64 x14, .slice A137 l136.length c138]) (cs' := [.int .i64 y7, .int .i64 x14, .slice A137 l136.length c138]) (L' := (Blk b301 [.int .i64 y296.1.f0, .int .i64 y296.1.f1, .slice A298 y296.1.f2.length c299] 24 :: Row k24 24 (.slice A298 y296.1.f2.length c299) y296.1.f2 :: Blk b295 [.int .i64 y282.f0, .string y282.f1, .int .i64 y282.f2, .slice A291 y282.f3.length c292] 36 :: Blk b6 [.int .i64 y7, .int .i64 x14, .slice A137 l136.length c138] 24 :: Blk b9 [.int .i64 y7, .int .i64 x14, .slice A137 l136.length c138] 24 :: Row k24 24 (.slice A137 l136.length c138) l136 :: L)) rfl fsz24 rfl rfl rfl rfl rfl (Nat.le_of_ble_eq_true rfl) rfl rfl ?_)
       refine TL.cons (TO.val rfl rfl rfl (Val.assign rfl) ?_)
       refine TL.nil ?_
       refine TQ.then_ ?_
       refine TC.ret ?_
       refine TQ.thenR ?_
       refine TQ.inBR ?_
       refine TQ.thenR ?_
       refine TQ.thenR ?_
       refine TQ.inBR ?_
       refine TQ.thenR ?_
       refine TQ.thenR ?_
       obtain rfl := Option.some.inj h
       have h := ko198
       obtain rfl := Option.some.inj h
       exact TQ.fin (.inl rfl) rfl Tryd.results39 (.cells 3 rfl rfl agg24 fsz24 (.tmp rfl .nil)) rfl (FRel.mk (Ls := [Row k24 24 (.slice A137 l136.length c138) l136]) [5] 6 (Gd.le.refl _) rfl rfl rfl ⟨rfl, A137, c138, rfl, rfl⟩)
      ·
       refine TC.skip ?_
       refine TQ.then_ ?_
       refine TC.region ?_
       refine TL.cons (TO.val rfl rfl rfl (Val.fieldAddrB Tryd.underlying24 rfl fsz22 rfl rfl rfl) ?_)
       refine TL.cons (TO.val rfl rfl rfl (Val.loadB 4 agg22 rfl rfl rfl) ?_)
       refine TL.cons (TO.val rfl rfl rfl (Val.loadsB 0 (cs := [.int .i64 y296.1.f0, .int .i64 y296.1.f1, .slice A298 y296.1.f2.length c299]) agg24 fsz24 rfl rfl rfl rfl) ?_)
       refine TL.cons (TL.buildSlice (xs := [.tmp 46]) (vs := [.agg #[.int .i64 y296.1.f0, .int .i64 y296.1.f1, .slice A298 y296.1.f2.length c299]]) (cs := [.int .i64 y296.1.f0, .int .i64 y296.1.f1, .slice A298 y296.1.f2.length c299]) rfl rfl Tryd.underlying22 zs24 rfl rfl rfl rfl rfl rfl rfl rfl (fun b304 => ?_))
       refine TK.sel (Ls := [Row k24 24 (.slice A298 y296.1.f2.length c299) y296.1.f2, Blk b304 [.int .i64 y296.1.f0, .int .i64 y296.1.f1, .slice A298 y296.1.f2.length c299] 24, Blk b301 [.int .i64 y296.1.f0, .int .i64 y296.1.f1, .slice A298 y296.1.f2.length c299] 24, Blk b295 [.int .i64 y282.f0, .string y282.f1, .int .i64 y282.f2, .slice A291 y282.f3.length c292] 36, Blk b6 [.int .i64 0, .int .i64 0, .slice none 0 0] 24, Blk b9 [.int .i64 y7, .int .i64 x14, .slice A137 l136.length c138] 24, Row k24 24 (.slice A137 l136.length c138) l136]) [2, 0, 1, 3, 4, 5, 6] 7 rfl rfl rfl ?_
       refine TK.conv (ch' := El k24 y296.1 [.int .i64 y296.1.f0, .int .i64 y296.1.f1, .slice A298 y296.1.f2.length c299]) (fun B W F hh => k24_mkM W B F y296.1 hh) ?_
       refine TK.sel (Ls := [Row k24 24 (.slice A137 l136.length c138) l136, El k24 y296.1 [.int .i64 y296.1.f0, .int .i64 y296.1.f1, .slice A298 y296.1.f2.length c299], Blk b304 [.int .i64 y296.1.f0, .int .i64 y296.1.f1, .slice A298 y296.1.f2.length c299] 24, Blk b301 [.int .i64 y296.1.f0, .int .i64 y296.1.f1, .slice A298 y296.1.f2.length c299] 24, Blk b295 [.int .i64 y282.f0, .string y282.f1, .int .i64 y282.f2, .slice A291 y282.f3.length c292] 36, Blk b6 [.int .i64 0, .int .i64 0, .slice none 0 0] 24, Blk b9 [.int .i64 y7, .int .i64 x14, .slice A137 l136.length c138] 24]) [6, 0, 1, 2, 3, 4, 5] 7 rfl rfl rfl ?_
       obtain ⟨ha305, h⟩ := ite_no h
       refine TL.cons (TL.append (xs := l136) k24 rfl rfl Tryd.underlying22 inf24 rfl (Nat.le_of_ble_eq_true rfl) (Nat.le_of_ble_eq_true rfl) rfl rfl (by omega) (fun A306 c307 => ?_))
       refine TL.cons (TO.val rfl rfl rfl (Val.fieldAddrB Tryd.underlying24 rfl fsz22 rfl rfl rfl) ?_)
       refine TL.cons (TL.store 4 (ds := [.slice A306 (l136 ++ [y296.1]).length c307]) (cs' := [.int .i64 y7, .int .i64 x14, .slice A306 (l136 ++ [y296.1]).length c307]) (L' := (Row k24 24 (.slice A306 (l136 ++ [y296.1]).length c307) (l136 ++ [y296.1]) :: Blk b301 [.int .i64 y296.1.f0, .int .i64 y296.1.f1, .slice A298 y296.1.f2.length c299] 24 :: Blk b295 [.int .i64 y282.f0, .string y282.f1, .int .i64 y282.f2, .slice A291 y282.f3.length c292] 36 :: Blk b6 [.int .i64 0, .int .i64 0, .slice none 0 0] 24 :: Blk b9 [.int .i64 y7, .int .i64 x14, .slice A306 (l136 ++ [y296.1]).length c307] 24 :: L)) rfl fsz22 rfl rfl rfl rfl rfl (Nat.le_of_ble_eq_true rfl) rfl rfl ?_)
       refine TL.nil ?_
       refine TQ.inB ?_
       refine TQ.then_ ?_
       refine TC.region ?_
       refine TL.cons (TO.val rfl rfl rfl (Val.cmp rfl rfl run_add) ?_)
       refine TL.cons (TO.val rfl rfl rfl (Val.move rfl) ?_)
       refine TL.nil ?_
       exact fun a W hF hO => ⟨IntKind.i64.wrap (x135 + 1), (l136 ++ [y296.1]), A306, c307, h, hF.sub ⟨rfl, rfl, rfl, rfl, rfl, trivial⟩, hO.selT (Ls := [Blk b6 [.int .i64 0, .int .i64 0, .slice none 0 0] 24, Blk b9 [.int .i64 y7, .int .i64 x14, .slice A306 (l136 ++ [y296.1]).length c307] 24, Row k24 24 (.slice A306 (l136 ++ [y296.1]).length c307) (l136 ++ [y296.1])]) [3, 4, 0] 5 rfl rfl rfl⟩
     ·
      refine TC.exit ?_
      refine TQ.thenX ?_
      refine TQ.thenX ?_
      refine TQ.inBX ?_
      exact fun a W hF hO => ⟨l136, A137, c138, Option.some.inj h, hF.sub ⟨rfl, rfl, trivial⟩, hO.selT (Ls := [Blk b6 [.int .i64 0, .int .i64 0, .slice none 0 0] 24, Blk b9 [.int .i64 y7, .int .i64 x14, .slice A137 l136.length c138] 24, Row k24 24 (.slice A137 l136.length c138) l136]) [0, 1, 2] 3 rfl rfl rfl⟩
 ·
  refine TC.cond_p rfl h (fun hc308 h => ?_) (fun hc308 h => ?_)
  ·
   refine TC.region ?_
   refine TL.cons (TO.val rfl rfl rfl (Val.fieldAddrB Tryd.underlying36 rfl fsz9 rfl rfl rfl) ?_)
   refine TL.cons (TO.val rfl rfl rfl (Val.loadB 2 agg9 rfl rfl rfl) ?_)
   obtain ⟨y309, hy310, h⟩ := bind_no h
   refine TL.cons (TL.callV (Lin := []) (args := [.string a0.f1]) rfl rfl rfl hbd48 rfl rfl (token_Number.calls (a0 := a0.f1) hy310) rfl ?_)
   rintro _ _ _ _ ⟨rfl, rfl, rfl⟩
   refine TL.cons (TO.val rfl rfl rfl (Val.move rfl) ?_)
   refine TL.cons (TO.val rfl rfl rfl (Val.extract rfl rfl) ?_)
   refine TL.cons (TO.val rfl rfl rfl (Val.extract rfl rfl) ?_)
   refine TL.cons (TO.val rfl rfl rfl (Val.fieldAddrB Tryd.underlying24 rfl fsz3 rfl rfl rfl) ?_)
   refine TL.cons (TL.store 0 (ds := [.int .i64 y309.1]) (cs' := [.int .i64 y7, .int .i64 y309.1, .slice none 0 0]) (L' := (Blk b9 [.int .i64 y7, .int .i64 y309.1, .slice none 0 0] 24 :: Blk b6 [.int .i64 0, .int .i64 0, .slice none 0 0] 24 :: Blk b5 [.int .i64 a0.f0, .string a0.f1, .int .i64 a0.f2, .slice A1 a0.f3.length c2] 36 :: L)) rfl fsz3 rfl rfl rfl rfl rfl (Nat.le_of_ble_eq_true rfl) rfl rfl ?_)
   refine TL.cons (TO.val rfl rfl rfl (Val.assign rfl) ?_)
   refine TL.nil ?_
   exact fun a W hF hO => ⟨y309.2, y309.1, h, hF.sub ⟨rfl, rfl, rfl, rfl, trivial⟩, hO.selT (Ls := [Blk b5 [.int .i64 a0.f0, .string a0.f1, .int .i64 a0.f2, .slice A1 a0.f3.length c2] 36, Blk b6 [.int .i64 0, .int .i64 0, .slice none 0 0] 24, Blk b9 [.int .i64 y7, .int .i64 y309.1, .slice none 0 0] 24]) [2, 1, 0] 3 rfl rfl rfl⟩
  ·
   refine TC.skip ?_
   exact fun a W hF hO => ⟨(!decide (y7 = 0)), 0, h, hF.sub ⟨rfl, rfl, rfl, rfl, trivial⟩, hO.selT (Ls := [Blk b5 [.int .i64 a0.f0, .string a0.f1, .int .i64 a0.f2, .slice A1 a0.f3.length c2] 36, Blk b6 [.int .i64 0, .int .i64 0, .slice none 0 0] 24, Blk b9 [.int .i64 y7, .int .i64 0, .slice none 0 0] 24]) [2, 1, 0] 3 rfl rfl rfl⟩
def types_of.fix : Nat → (S36 → Option (S24 × Bool))
 | 0 => (fun _ => none)
 | n + 1 => types_of.g (types_of.fix n)
theorem types_of.fixc : ∀ k, (∀ {G : Gd} {r : (S24 × Bool)} {a0 : S36} {A1 : Option Addr} {c2 : Nat} (hr3 : Rd G k36 A1 a0.f3) (hl4 : a0.f3.length ≤ c2), (types_of.fix k) a0 = some r → Fn Tryd.prog 39 G [] [.agg #[.int .i64 a0.f0, .string a0.f1, .int .i64 a0.f2, .slice A1 a0.f3.length c2]] (types_of.post G r)) ∧ True
 | 0 => ⟨(by intros; contradiction), trivial⟩
 | k + 1 => by
  have ih := types_of.fixc k
  exact ⟨(by
   intro G r a0 A1 c2 hr3 hl4 h
   exact types_of.step _ ih.1 hr3 hl4 h), trivial⟩
def types_of.f (a0 : S36) : Option (S24 × Bool) := (types_of.fix 1000) a0
theorem types_of.calls {G : Gd} {r : (S24 × Bool)} {a0 : S36} {A1 : Option Addr} {c2 : Nat} (hr3 : Rd G k36 A1 a0.f3) (hl4 : a0.f3.length ≤ c2) (h : types_of.f a0 = some r) : Fn Tryd.prog 39 G [] [.agg #[.int .i64 a0.f0, .string a0.f1, .int .i64 a0.f2, .slice A1 a0.f3.length c2]] (types_of.post G r) := (types_of.fixc 1000).1 hr3 hl4 h
end Go.Proofs.YtdklnjmdaecboaaDoor.Sy
set_option linter.unusedVariables false
set_option linter.unusedSimpArgs false
set_option maxRecDepth 100000
set_option maxHeartbeats 4000000
namespace Go.Proofs.YtdklnjmdaecboaaDoor.Sy
open Go Go.RowKit Go.Proofs.YtdklnjmdaecboaaDoorW.PrintWords 
def types_Of.f (a0 : S36) : Option (S24 × Int) := (types_of.f a0).bind fun (y7 : (S24 × Bool)) => (if (!y7.2) = true then some ((⟨0, 0, ([] : List S24)⟩ : S24), 1) else (types_Right.f y7.1).bind fun (y52 : Bool) => (if (!y52) = true then some ((⟨0, 0, ([] : List S24)⟩ : S24), 5) else some (y7.1, 0)))
def types_Of.post (G : Gd) (r : (S24 × Int)) (v : Value) (G' : Gd) (Lr : List Ch) : Prop := G = G' ∧ ∃ (A_1 : Option Addr) (c_1 : Nat), v = .tuple #[.agg #[.int .i64 r.1.f0, .int .i64 r.1.f1, .slice A_1 r.1.f2.length c_1], .int .i64 r.2] ∧ Lr = [Row k24 24 (.slice A_1 r.1.f2.length c_1) r.1.f2]
theorem types_Of.calls {G : Gd} {r : (S24 × Int)} {a0 : S36} {A1 : Option Addr} {c2 : Nat} (hr3 : Rd G k36 A1 a0.f3) (hl4 : a0.f3.length ≤ c2) (h : types_Of.f a0 = some r) : Fn Tryd.prog 25 G [] [.agg #[.int .i64 a0.f0, .string a0.f1, .int .i64 a0.f2, .slice A1 a0.f3.length c2]] (types_Of.post G r) := by
 refine Fn.intro (e := [(0, .agg #[.int .i64 a0.f0, .string a0.f1, .int .i64 a0.f2, .slice A1 a0.f3.length c2])]) 21 Tryd.func25 rfl Tryd.ntmps25 rfl rfl (Nat.le_of_ble_eq_true rfl) (fun L => ?_)
 unfold types_Of.f at h
 refine TC.seq ?_
 refine TC.region ?_
 refine TL.cons (TL.box (cs := [.int .i64 a0.f0, .string a0.f1, .int .i64 a0.f2, .slice A1 a0.f3.length c2]) rfl rfl rfl rfl (fun b5 => ?_))
 refine TL.cons (TL.alloc (cs := [.int .i64 0, .int .i64 0, .slice none 0 0]) rfl rfl zr24 rfl (fun b6 => ?_))
 refine TL.cons (TO.val rfl rfl rfl (Val.assign rfl) ?_)
 refine TL.nil ?_
 refine TQ.then_ ?_
 refine TC.seq ?_
 refine TC.region ?_
 refine TL.cons (TO.val rfl rfl rfl (Val.loadsB 1 (cs := [.int .i64 a0.f0, .string a0.f1, .int .i64 a0.f2, .slice A1 a0.f3.length c2]) agg36 fsz36 rfl rfl rfl rfl) ?_)
 obtain ⟨y7, hy8, h⟩ := bind_no h
 refine TL.cons (TL.callV (Lin := []) (args := [.agg #[.int .i64 a0.f0, .string a0.f1, .int .i64 a0.f2, .slice A1 a0.f3.length c2]]) rfl rfl rfl hbd39 rfl rfl (types_of.calls (a0 := a0) hr3 hl4 hy8) rfl ?_)
 rintro _ _ _ _ ⟨rfl, A9, c10, rfl, rfl⟩
 refine TL.cons (TO.val rfl rfl rfl (Val.move rfl) ?_)
 refine TL.cons (TO.val rfl rfl rfl (Val.extract rfl rfl) ?_)
 refine TL.cons (TO.val rfl rfl rfl (Val.extract rfl rfl) ?_)
 refine TL.cons (TL.alloc (cs := [.int .i64 0, .int .i64 0, .slice none 0 0]) rfl rfl zr24 rfl (fun b12 => ?_))
 refine TL.cons (TL.store 0 (ds := [.int .i64 y7.1.f0, .int .i64 y7.1.f1, .slice A9 y7.1.f2.length c10]) (cs' := [.int .i64 y7.1.f0, .int .i64 y7.1.f1, .slice A9 y7.1.f2.length c10]) (L' := (Blk b12 [.int .i64 y7.1.f0, .int .i64 y7.1.f1, .slice A9 y7.1.f2.length c10] 24 :: Row k24 24 (.slice A9 y7.1.f2.length c10) y7.1.f2 :: Blk b6 [.int .i64 0, .int .i64 0, .slice none 0 0] 24 :: Blk b5 [.int .i64 a0.f0, .string a0.f1, .int .i64 a0.f2, .slice A1 a0.f3.length c2] 36 :: L)) rfl fsz24 rfl rfl rfl rfl rfl (Nat.le_of_ble_eq_true rfl) rfl rfl ?_)
 refine TL.cons (TO.val rfl rfl rfl (Val.assign rfl) ?_)
 refine TL.nil ?_
 refine TQ.then_ ?_
 refine TC.seq ?_
 refine TC.block ?_
 refine TC.seq ?_
 refine TC.region ?_
 refine TL.cons (TO.val rfl rfl rfl (Val.move rfl) ?_)
 refine TL.cons (TO.val rfl rfl rfl (Val.not_ rfl) ?_)
 refine TL.cons (TO.val rfl rfl rfl (Val.assign rfl) ?_)
 refine TL.nil ?_
 refine TQ.then_ ?_
 refine TC.cond_b rfl h (fun hc44 h => ?_) (fun hc44 h => ?_)
 ·
  refine TC.seq ?_
  refine TC.region ?_
  refine TL.cons (TO.val rfl rfl rfl (Val.build (cs := [.int .i64 0, .int .i64 0, .slice none 0 0]) (is := []) (xs := []) Tryd.underlying24 zr24 bld24 rfl rfl rfl rfl) ?_)
  refine TL.cons (TL.store 2 (ds := [.int .i64 0, .int .i64 0, .slice none 0 0]) (cs' := [.int .i64 0, .int .i64 0, .slice none 0 0]) (L' := (Blk b12 [.int .i64 y7.1.f0, .int .i64 y7.1.f1, .slice A9 y7.1.f2.length c10] 24 :: Row k24 24 (.slice A9 y7.1.f2.length c10) y7.1.f2 :: Blk b6 [.int .i64 0, .int .i64 0, .slice none 0 0] 24 :: Blk b5 [.int .i64 a0.f0, .string a0.f1, .int .i64 a0.f2, .slice A1 a0.f3.length c2] 36 :: L)) rfl fsz24 rfl rfl rfl rfl rfl (Nat.le_of_ble_eq_true rfl) rfl rfl ?_)
  refine TL.cons (TO.val rfl rfl rfl (Val.assign rfl) ?_)
  refine TL.nil ?_
  refine TQ.then_ ?_
  refine TC.ret ?_
  refine TQ.inBR ?_
  refine TQ.thenR ?_
  refine TQ.nilRow k24 24 ?_
  obtain rfl := Option.some.inj h
  exact TQ.fin (.inl rfl) rfl Tryd.results25 (.cells 3 rfl rfl agg24 fsz24 (.tmp rfl .nil)) rfl (FRel.mk (Ls := [Row k24 24 (.slice none 0 0) ([] : List S24)]) [0] 5 (Gd.le.refl _) rfl rfl rfl ⟨rfl, none, 0, rfl, rfl⟩)
 ·
  refine TC.seq ?_
  refine TC.region ?_
  refine TL.cons (TO.val rfl rfl rfl (Val.loadsB 0 (cs := [.int .i64 y7.1.f0, .int .i64 y7.1.f1, .slice A9 y7.1.f2.length c10]) agg24 fsz24 rfl rfl rfl rfl) ?_)
  refine TK.sel (Ls := [Row k24 24 (.slice A9 y7.1.f2.length c10) y7.1.f2, Blk b12 [.int .i64 y7.1.f0, .int .i64 y7.1.f1, .slice A9 y7.1.f2.length c10] 24, Blk b6 [.int .i64 0, .int .i64 0, .slice none 0 0] 24, Blk b5 [.int .i64 a0.f0, .string a0.f1, .int .i64 a0.f2, .slice A1 a0.f3.length c2] 36]) [1, 0, 2, 3] 4 rfl rfl rfl ?_
  refine TK.share (fun G46 e47 hs48 hb49 => ?_)
  have rd50 : Rd G46 k24 A9 y7.1.f2 := Rd.row hs48
  have le51 : y7.1.f2.length ≤ c10 := Row.le hs48
  obtain ⟨y52, hy53, h⟩ := bind_no h
  refine TL.cons (TL.callV (Lin := []) (args := [.agg #[.int .i64 y7.1.f0, .int .i64 y7.1.f1, .slice A9 y7.1.f2.length c10]]) rfl rfl rfl hbd15 rfl rfl (types_Right.calls (a0 := y7.1) rd50 le51 hy53) rfl ?_)
  rintro _ _ _ _ ⟨rfl, rfl, rfl⟩
  refine TL.cons (TO.val rfl rfl rfl (Val.not_ rfl) ?_)
  refine TL.cons (TO.val rfl rfl rfl (Val.assign rfl) ?_)
  refine TL.nil ?_
  refine TQ.then_ ?_
  refine TC.back hb49 ?_
  refine TC.cond_b rfl h (fun hc55 h => ?_) (fun hc55 h => ?_)
  ·
   refine TC.seq ?_
   refine TC.region ?_
   refine TL.cons (TO.val rfl rfl rfl (Val.build (cs := [.int .i64 0, .int .i64 0, .slice none 0 0]) (is := []) (xs := []) Tryd.underlying24 zr24 bld24 rfl rfl rfl rfl) ?_)
   refine TL.cons (TL.store 2 (ds := [.int .i64 0, .int .i64 0, .slice none 0 0]) (cs' := [.int .i64 0, .int .i64 0, .slice none 0 0]) (L' := (Row k24 24 (.slice A9 y7.1.f2.length c10) y7.1.f2 :: Blk b12 [.int .i64 y7.1.f0, .int .i64 y7.1.f1, .slice A9 y7.1.f2.length c10] 24 :: Blk b6 [.int .i64 0, .int .i64 0, .slice none 0 0] 24 :: Blk b5 [.int .i64 a0.f0, .string a0.f1, .int .i64 a0.f2, .slice A1 a0.f3.length c2] 36 :: L)) rfl fsz24 rfl rfl rfl rfl rfl (Nat.le_of_ble_eq_true rfl) rfl rfl ?_)
   refine TL.cons (TO.val rfl rfl rfl (Val.assign rfl) ?_)
   refine TL.nil ?_
   refine TQ.then_ ?_
   refine TC.ret ?_
   refine TQ.inBR ?_
   refine TQ.thenR ?_
   refine TQ.nilRow k24 24 ?_
   obtain rfl := Option.some.inj h
   exact TQ.fin (.inl rfl) rfl Tryd.results25 (.cells 3 rfl rfl agg24 fsz24 (.tmp rfl .nil)) rfl (FRel.mk (Ls := [Row k24 24 (.slice none 0 0) ([] : List S24)]) [0] 5 (Gd.le.refl _) rfl rfl rfl ⟨rfl, none, 0, rfl, rfl⟩)
  ·
   refine TC.skip ?_
   refine TQ.inB ?_
   refine TQ.then_ ?_
   refine TC.seq ?_
   refine TC.region ?_
   refine TL.cons (TO.val rfl rfl rfl (Val.loadsB 1 (cs := [.int .i64 y7.1.f0, .int .i64 y7.1.f1, .slice A9 y7.1.f2.length c10]) agg24 fsz24 rfl rfl rfl rfl) ?_)
   refine TL.cons (TL.store 2 (ds := [.int .i64 y7.1.f0, .int .i64 y7.1.f1, .slice A9 y7.1.f2.length c10]) (cs' := [.int .i64 y7.1.f0, .int .i64 y7.1.f1, .slice A9 y7.1.f2.length c10]) (L' := (Row k24 24 (.slice A9 y7.1.f2.length c10) y7.1.f2 :: Blk b12 [.int .i64 y7.1.f0, .int .i64 y7.1.f1, .slice A9 y7.1.f2.length c10] 24 :: Blk b6 [.int .i64 y7.1.f0, .int .i64 y7.1.f1, .slice A9 y7.1.f2.length c10] 24 :: Blk b5 [.int .i64 a0.f0, .string a0.f1, .int .i64 a0.f2, .slice A1 a0.f3.length c2] 36 :: L)) rfl fsz24 rfl rfl rfl rfl rfl (Nat.le_of_ble_eq_true rfl) rfl rfl ?_)
   refine TL.cons (TO.val rfl rfl rfl (Val.assign rfl) ?_)
   refine TL.nil ?_
   refine TQ.then_ ?_
   refine TC.ret ?_
   obtain rfl := Option.some.inj h
   exact TQ.fin (.inl rfl) rfl Tryd.results25 (.cells 2 rfl rfl agg24 fsz24 (.tmp rfl .nil)) rfl (FRel.mk (Ls := [Row k24 24 (.slice A9 y7.1.f2.length c10) y7.1.f2]) [0] 4 (Gd.le.refl _) rfl rfl rfl ⟨rfl, A9, c10, rfl, rfl⟩)
end Go.Proofs.YtdklnjmdaecboaaDoor.Sy
set_option linter.unusedVariables false
set_option linter.unusedSimpArgs false
set_option maxRecDepth 100000
set_option maxHeartbeats 4000000
namespace Go.Proofs.YtdklnjmdaecboaaDoor.Sy
open Go Go.RowKit Go.Proofs.YtdklnjmdaecboaaDoorW.PrintWords 
def swagelaw11_some.f : Option S24 := some (⟨4, 0, ([(⟨1, 0, ([] : List S24)⟩ : S24), (⟨3, 3, ([(⟨2, 0, ([(⟨1, 0, ([] : List S24)⟩ : S24)] : List S24)⟩ : S24)] : List S24)⟩ : S24), (⟨1, 0, ([] : List S24)⟩ : S24)] : List S24)⟩ : S24)
def swagelaw11_some.post (G : Gd) (r : S24) (v : Value) (G' : Gd) (Lr : List Ch) : Prop := G = G' ∧ ∃ (A_1 : Option Addr) (c_1 : Nat), v = .agg #[.int .i64 r.f0, .int .i64 r.f1, .slice A_1 r.f2.length c_1] ∧ Lr = [Row k24 24 (.slice A_1 r.f2.length c_1) r.f2]
theorem swagelaw11_some.calls {G : Gd} {r : S24} (h : swagelaw11_some.f = some r) : Fn Tryd.prog 27 G [] [] (swagelaw11_some.post G r) := by
 refine Fn.intro (e := []) 14 Tryd.func27 rfl Tryd.ntmps27 rfl rfl (Nat.le_of_ble_eq_true rfl) (fun L => ?_)
 unfold swagelaw11_some.f at h
 refine TC.seq ?_
 refine TC.region ?_
 refine TL.cons (TL.alloc (cs := [.int .i64 0, .int .i64 0, .slice none 0 0]) rfl rfl zr24 rfl (fun b1 => ?_))
 refine TL.nil ?_
 refine TQ.then_ ?_
 refine TC.seq ?_
 refine TC.region ?_
 refine TL.cons (TO.val rfl rfl rfl (Val.build (cs := [.int .i64 1, .int .i64 0, .slice none 0 0]) (is := [0]) (xs := [.const (.int .i64 1)]) Tryd.underlying24 zr24 bld24 rfl rfl rfl rfl) ?_)
 refine TL.cons (TL.alloc (cs := [.int .i64 0, .int .i64 0, .slice none 0 0]) rfl rfl zr24 rfl (fun b2 => ?_))
 refine TL.cons (TL.store 0 (ds := [.int .i64 1, .int .i64 0, .slice none 0 0]) (cs' := [.int .i64 1, .int .i64 0, .slice none 0 0]) (L' := (Blk b2 [.int .i64 1, .int .i64 0, .slice none 0 0] 24 :: Blk b1 [.int .i64 0, .int .i64 0, .slice none 0 0] 24 :: L)) rfl fsz24 rfl rfl rfl rfl rfl (Nat.le_of_ble_eq_true rfl) rfl rfl ?_)
 refine TL.nil ?_
 refine TQ.then_ ?_
 refine TC.seq ?_
 refine TC.region ?_
 refine TL.cons (TO.val rfl rfl rfl (Val.loadsB 0 (cs := [.int .i64 1, .int .i64 0, .slice none 0 0]) agg24 fsz24 rfl rfl rfl rfl) ?_)
 refine TL.cons (TL.buildSlice (xs := [.tmp 4]) (vs := [.agg #[.int .i64 1, .int .i64 0, .slice none 0 0]]) (cs := [.int .i64 1, .int .i64 0, .slice none 0 0]) rfl rfl Tryd.underlying22 zs24 rfl rfl rfl rfl rfl rfl rfl rfl (fun b3 => ?_))
 refine TL.cons (TO.val rfl rfl rfl (Val.build (cs := [.int .i64 2, .int .i64 0, .slice (some ⟨b3, 0, none⟩) 1 1]) (is := [0, 2]) (xs := [.const (.int .i64 2), .tmp 5]) Tryd.underlying24 zr24 bld24 rfl rfl rfl rfl) ?_)
 refine TL.cons (TL.alloc (cs := [.int .i64 0, .int .i64 0, .slice none 0 0]) rfl rfl zr24 rfl (fun b4 => ?_))
 refine TL.cons (TL.store 0 (ds := [.int .i64 2, .int .i64 0, .slice (some ⟨b3, 0, none⟩) 1 1]) (cs' := [.int .i64 2, .int .i64 0, .slice (some ⟨b3, 0, none⟩) 1 1]) (L' := (Blk b4 [.int .i64 2, .int .i64 0, .slice (some ⟨b3, 0, none⟩) 1 1] 24 :: Blk b3 [.int .i64 1, .int .i64 0, .slice none 0 0] 24 :: Blk b2 [.int .i64 1, .int .i64 0, .slice none 0 0] 24 :: Blk b1 [.int .i64 0, .int .i64 0, .slice none 0 0] 24 :: L)) rfl fsz24 rfl rfl rfl rfl rfl (Nat.le_of_ble_eq_true rfl) rfl rfl ?_)
 refine TL.nil ?_
 refine TQ.then_ ?_
 refine TC.seq ?_
 refine TC.region ?_
 refine TL.cons (TO.val rfl rfl rfl (Val.loadsB 2 (cs := [.int .i64 1, .int .i64 0, .slice none 0 0]) agg24 fsz24 rfl rfl rfl rfl) ?_)
 refine TL.cons (TO.val rfl rfl rfl (Val.loadsB 0 (cs := [.int .i64 2, .int .i64 0, .slice (some ⟨b3, 0, none⟩) 1 1]) agg24 fsz24 rfl rfl rfl rfl) ?_)
 refine TL.cons (TL.buildSlice (xs := [.tmp 8]) (vs := [.agg #[.int .i64 2, .int .i64 0, .slice (some ⟨b3, 0, none⟩) 1 1]]) (cs := [.int .i64 2, .int .i64 0, .slice (some ⟨b3, 0, none⟩) 1 1]) rfl rfl Tryd.underlying22 zs24 rfl rfl rfl rfl rfl rfl rfl rfl (fun b5 => ?_))
 refine TL.cons (TO.val rfl rfl rfl (Val.build (cs := [.int .i64 3, .int .i64 3, .slice (some ⟨b5, 0, none⟩) 1 1]) (is := [0, 1, 2]) (xs := [.const (.int .i64 3), .const (.int .i64 3), .tmp 9]) Tryd.underlying24 zr24 bld24 rfl rfl rfl rfl) ?_)
 refine TL.cons (TO.val rfl rfl rfl (Val.loadsB 3 (cs := [.int .i64 1, .int .i64 0, .slice none 0 0]) agg24 fsz24 rfl rfl rfl rfl) ?_)
 refine TL.cons (TL.buildSlice (xs := [.tmp 7, .tmp 10, .tmp 11]) (vs := [.agg #[.int .i64 1, .int .i64 0, .slice none 0 0], .agg #[.int .i64 3, .int .i64 3, .slice (some ⟨b5, 0, none⟩) 1 1], .agg #[.int .i64 1, .int .i64 0, .slice none 0 0]]) (cs := [.int .i64 1, .int .i64 0, .slice none 0 0, .int .i64 3, .int .i64 3, .slice (some ⟨b5, 0, none⟩) 1 1, .int .i64 1, .int .i64 0, .slice none 0 0]) rfl rfl Tryd.underlying22 zs24 rfl rfl rfl rfl rfl rfl rfl rfl (fun b6 => ?_))
 refine TL.cons (TO.val rfl rfl rfl (Val.build (cs := [.int .i64 4, .int .i64 0, .slice (some ⟨b6, 0, none⟩) 3 3]) (is := [0, 2]) (xs := [.const (.int .i64 4), .tmp 12]) Tryd.underlying24 zr24 bld24 rfl rfl rfl rfl) ?_)
 refine TL.cons (TL.store 5 (ds := [.int .i64 4, .int .i64 0, .slice (some ⟨b6, 0, none⟩) 3 3]) (cs' := [.int .i64 4, .int .i64 0, .slice (some ⟨b6, 0, none⟩) 3 3]) (L' := (Blk b6 [.int .i64 1, .int .i64 0, .slice none 0 0, .int .i64 3, .int .i64 3, .slice (some ⟨b5, 0, none⟩) 1 1, .int .i64 1, .int .i64 0, .slice none 0 0] 24 :: Blk b5 [.int .i64 2, .int .i64 0, .slice (some ⟨b3, 0, none⟩) 1 1] 24 :: Blk b4 [.int .i64 2, .int .i64 0, .slice (some ⟨b3, 0, none⟩) 1 1] 24 :: Blk b3 [.int .i64 1, .int .i64 0, .slice none 0 0] 24 :: Blk b2 [.int .i64 1, .int .i64 0, .slice none 0 0] 24 :: Blk b1 [.int .i64 4, .int .i64 0, .slice (some ⟨b6, 0, none⟩) 3 3] 24 :: L)) rfl fsz24 rfl rfl rfl rfl rfl (Nat.le_of_ble_eq_true rfl) rfl rfl ?_)
 refine TL.nil ?_
 refine TQ.then_ ?_
 refine TC.ret ?_
 refine TQ.new (Els.nil k24) ?_
 refine TQ.new (Row.nil k24 24) ?_
 refine TQ.conv (ch' := El k24 (⟨1, 0, ([] : List S24)⟩ : S24) [.int .i64 1, .int .i64 0, .slice none 0 0]) (fun B W F hh => k24_mkM W B F (⟨1, 0, ([] : List S24)⟩ : S24) hh) ?_
 refine TQ.sel (Ls := [Els k24 [] [], El k24 (⟨1, 0, ([] : List S24)⟩ : S24) [.int .i64 1, .int .i64 0, .slice none 0 0], Blk b6 [.int .i64 1, .int .i64 0, .slice none 0 0, .int .i64 3, .int .i64 3, .slice (some ⟨b5, 0, none⟩) 1 1, .int .i64 1, .int .i64 0, .slice none 0 0] 24, Blk b5 [.int .i64 2, .int .i64 0, .slice (some ⟨b3, 0, none⟩) 1 1] 24, Blk b4 [.int .i64 2, .int .i64 0, .slice (some ⟨b3, 0, none⟩) 1 1] 24, Blk b3 [.int .i64 1, .int .i64 0, .slice none 0 0] 24, Blk b2 [.int .i64 1, .int .i64 0, .slice none 0 0] 24, Blk b1 [.int .i64 4, .int .i64 0, .slice (some ⟨b6, 0, none⟩) 3 3] 24]) [1, 0, 2, 3, 4, 5, 6, 7] 8 rfl rfl rfl ?_
 refine TQ.two (ch := Els k24 [(⟨1, 0, ([] : List S24)⟩ : S24)] [.int .i64 1, .int .i64 0, .slice none 0 0]) (Els.snoc k24) ?_
 refine TQ.sel (Ls := [Blk b3 [.int .i64 1, .int .i64 0, .slice none 0 0] 24, Els k24 [(⟨1, 0, ([] : List S24)⟩ : S24)] [.int .i64 1, .int .i64 0, .slice none 0 0], Blk b6 [.int .i64 1, .int .i64 0, .slice none 0 0, .int .i64 3, .int .i64 3, .slice (some ⟨b5, 0, none⟩) 1 1, .int .i64 1, .int .i64 0, .slice none 0 0] 24, Blk b5 [.int .i64 2, .int .i64 0, .slice (some ⟨b3, 0, none⟩) 1 1] 24, Blk b4 [.int .i64 2, .int .i64 0, .slice (some ⟨b3, 0, none⟩) 1 1] 24, Blk b2 [.int .i64 1, .int .i64 0, .slice none 0 0] 24, Blk b1 [.int .i64 4, .int .i64 0, .slice (some ⟨b6, 0, none⟩) 3 3] 24]) [4, 0, 1, 2, 3, 5, 6] 7 rfl rfl rfl ?_
 refine TQ.two (ch := Row k24 24 (.slice (some ⟨b3, 0, none⟩) 1 1) ([(⟨1, 0, ([] : List S24)⟩ : S24)] : List S24)) (Row.lit k24 rfl rfl) ?_
 refine TQ.new (Els.nil k24) ?_
 refine TQ.sel (Ls := [Row k24 24 (.slice (some ⟨b3, 0, none⟩) 1 1) ([(⟨1, 0, ([] : List S24)⟩ : S24)] : List S24), Els k24 [] [], Blk b6 [.int .i64 1, .int .i64 0, .slice none 0 0, .int .i64 3, .int .i64 3, .slice (some ⟨b5, 0, none⟩) 1 1, .int .i64 1, .int .i64 0, .slice none 0 0] 24, Blk b5 [.int .i64 2, .int .i64 0, .slice (some ⟨b3, 0, none⟩) 1 1] 24, Blk b4 [.int .i64 2, .int .i64 0, .slice (some ⟨b3, 0, none⟩) 1 1] 24, Blk b2 [.int .i64 1, .int .i64 0, .slice none 0 0] 24, Blk b1 [.int .i64 4, .int .i64 0, .slice (some ⟨b6, 0, none⟩) 3 3] 24]) [1, 0, 2, 3, 4, 5, 6] 7 rfl rfl rfl ?_
 refine TQ.conv (ch' := El k24 (⟨2, 0, ([(⟨1, 0, ([] : List S24)⟩ : S24)] : List S24)⟩ : S24) [.int .i64 2, .int .i64 0, .slice (some ⟨b3, 0, none⟩) 1 1]) (fun B W F hh => k24_mkM W B F (⟨2, 0, ([(⟨1, 0, ([] : List S24)⟩ : S24)] : List S24)⟩ : S24) hh) ?_
 refine TQ.sel (Ls := [Els k24 [] [], El k24 (⟨2, 0, ([(⟨1, 0, ([] : List S24)⟩ : S24)] : List S24)⟩ : S24) [.int .i64 2, .int .i64 0, .slice (some ⟨b3, 0, none⟩) 1 1], Blk b6 [.int .i64 1, .int .i64 0, .slice none 0 0, .int .i64 3, .int .i64 3, .slice (some ⟨b5, 0, none⟩) 1 1, .int .i64 1, .int .i64 0, .slice none 0 0] 24, Blk b5 [.int .i64 2, .int .i64 0, .slice (some ⟨b3, 0, none⟩) 1 1] 24, Blk b4 [.int .i64 2, .int .i64 0, .slice (some ⟨b3, 0, none⟩) 1 1] 24, Blk b2 [.int .i64 1, .int .i64 0, .slice none 0 0] 24, Blk b1 [.int .i64 4, .int .i64 0, .slice (some ⟨b6, 0, none⟩) 3 3] 24]) [1, 0, 2, 3, 4, 5, 6] 7 rfl rfl rfl ?_
 refine TQ.two (ch := Els k24 [(⟨2, 0, ([(⟨1, 0, ([] : List S24)⟩ : S24)] : List S24)⟩ : S24)] [.int .i64 2, .int .i64 0, .slice (some ⟨b3, 0, none⟩) 1 1]) (Els.snoc k24) ?_
 refine TQ.sel (Ls := [Blk b5 [.int .i64 2, .int .i64 0, .slice (some ⟨b3, 0, none⟩) 1 1] 24, Els k24 [(⟨2, 0, ([(⟨1, 0, ([] : List S24)⟩ : S24)] : List S24)⟩ : S24)] [.int .i64 2, .int .i64 0, .slice (some ⟨b3, 0, none⟩) 1 1], Blk b6 [.int .i64 1, .int .i64 0, .slice none 0 0, .int .i64 3, .int .i64 3, .slice (some ⟨b5, 0, none⟩) 1 1, .int .i64 1, .int .i64 0, .slice none 0 0] 24, Blk b4 [.int .i64 2, .int .i64 0, .slice (some ⟨b3, 0, none⟩) 1 1] 24, Blk b2 [.int .i64 1, .int .i64 0, .slice none 0 0] 24, Blk b1 [.int .i64 4, .int .i64 0, .slice (some ⟨b6, 0, none⟩) 3 3] 24]) [2, 0, 1, 3, 4, 5] 6 rfl rfl rfl ?_
 refine TQ.two (ch := Row k24 24 (.slice (some ⟨b5, 0, none⟩) 1 1) ([(⟨2, 0, ([(⟨1, 0, ([] : List S24)⟩ : S24)] : List S24)⟩ : S24)] : List S24)) (Row.lit k24 rfl rfl) ?_
 refine TQ.new (Els.nil k24) ?_
 refine TQ.new (Row.nil k24 24) ?_
 refine TQ.conv (ch' := El k24 (⟨1, 0, ([] : List S24)⟩ : S24) [.int .i64 1, .int .i64 0, .slice none 0 0]) (fun B W F hh => k24_mkM W B F (⟨1, 0, ([] : List S24)⟩ : S24) hh) ?_
 refine TQ.sel (Ls := [Els k24 [] [], El k24 (⟨1, 0, ([] : List S24)⟩ : S24) [.int .i64 1, .int .i64 0, .slice none 0 0], Row k24 24 (.slice (some ⟨b5, 0, none⟩) 1 1) ([(⟨2, 0, ([(⟨1, 0, ([] : List S24)⟩ : S24)] : List S24)⟩ : S24)] : List S24), Blk b6 [.int .i64 1, .int .i64 0, .slice none 0 0, .int .i64 3, .int .i64 3, .slice (some ⟨b5, 0, none⟩) 1 1, .int .i64 1, .int .i64 0, .slice none 0 0] 24, Blk b4 [.int .i64 2, .int .i64 0, .slice (some ⟨b3, 0, none⟩) 1 1] 24, Blk b2 [.int .i64 1, .int .i64 0, .slice none 0 0] 24, Blk b1 [.int .i64 4, .int .i64 0, .slice (some ⟨b6, 0, none⟩) 3 3] 24]) [1, 0, 2, 3, 4, 5, 6] 7 rfl rfl rfl ?_
 refine TQ.two (ch := Els k24 [(⟨1, 0, ([] : List S24)⟩ : S24)] [.int .i64 1, .int .i64 0, .slice none 0 0]) (Els.snoc k24) ?_
 refine TQ.sel (Ls := [Row k24 24 (.slice (some ⟨b5, 0, none⟩) 1 1) ([(⟨2, 0, ([(⟨1, 0, ([] : List S24)⟩ : S24)] : List S24)⟩ : S24)] : List S24), Els k24 [(⟨1, 0, ([] : List S24)⟩ : S24)] [.int .i64 1, .int .i64 0, .slice none 0 0], Blk b6 [.int .i64 1, .int .i64 0, .slice none 0 0, .int .i64 3, .int .i64 3, .slice (some ⟨b5, 0, none⟩) 1 1, .int .i64 1, .int .i64 0, .slice none 0 0] 24, Blk b4 [.int .i64 2, .int .i64 0, .slice (some ⟨b3, 0, none⟩) 1 1] 24, Blk b2 [.int .i64 1, .int .i64 0, .slice none 0 0] 24, Blk b1 [.int .i64 4, .int .i64 0, .slice (some ⟨b6, 0, none⟩) 3 3] 24]) [1, 0, 2, 3, 4, 5] 6 rfl rfl rfl ?_
 refine TQ.conv (ch' := El k24 (⟨3, 3, ([(⟨2, 0, ([(⟨1, 0, ([] : List S24)⟩ : S24)] : List S24)⟩ : S24)] : List S24)⟩ : S24) [.int .i64 3, .int .i64 3, .slice (some ⟨b5, 0, none⟩) 1 1]) (fun B W F hh => k24_mkM W B F (⟨3, 3, ([(⟨2, 0, ([(⟨1, 0, ([] : List S24)⟩ : S24)] : List S24)⟩ : S24)] : List S24)⟩ : S24) hh) ?_
 refine TQ.sel (Ls := [Els k24 [(⟨1, 0, ([] : List S24)⟩ : S24)] [.int .i64 1, .int .i64 0, .slice none 0 0], El k24 (⟨3, 3, ([(⟨2, 0, ([(⟨1, 0, ([] : List S24)⟩ : S24)] : List S24)⟩ : S24)] : List S24)⟩ : S24) [.int .i64 3, .int .i64 3, .slice (some ⟨b5, 0, none⟩) 1 1], Blk b6 [.int .i64 1, .int .i64 0, .slice none 0 0, .int .i64 3, .int .i64 3, .slice (some ⟨b5, 0, none⟩) 1 1, .int .i64 1, .int .i64 0, .slice none 0 0] 24, Blk b4 [.int .i64 2, .int .i64 0, .slice (some ⟨b3, 0, none⟩) 1 1] 24, Blk b2 [.int .i64 1, .int .i64 0, .slice none 0 0] 24, Blk b1 [.int .i64 4, .int .i64 0, .slice (some ⟨b6, 0, none⟩) 3 3] 24]) [1, 0, 2, 3, 4, 5] 6 rfl rfl rfl ?_
 refine TQ.two (ch := Els k24 [(⟨1, 0, ([] : List S24)⟩ : S24), (⟨3, 3, ([(⟨2, 0, ([(⟨1, 0, ([] : List S24)⟩ : S24)] : List S24)⟩ : S24)] : List S24)⟩ : S24)] [.int .i64 1, .int .i64 0, .slice none 0 0, .int .i64 3, .int .i64 3, .slice (some ⟨b5, 0, none⟩) 1 1]) (Els.snoc k24) ?_
 refine TQ.new (Row.nil k24 24) ?_
 refine TQ.conv (ch' := El k24 (⟨1, 0, ([] : List S24)⟩ : S24) [.int .i64 1, .int .i64 0, .slice none 0 0]) (fun B W F hh => k24_mkM W B F (⟨1, 0, ([] : List S24)⟩ : S24) hh) ?_
 refine TQ.sel (Ls := [Els k24 [(⟨1, 0, ([] : List S24)⟩ : S24), (⟨3, 3, ([(⟨2, 0, ([(⟨1, 0, ([] : List S24)⟩ : S24)] : List S24)⟩ : S24)] : List S24)⟩ : S24)] [.int .i64 1, .int .i64 0, .slice none 0 0, .int .i64 3, .int .i64 3, .slice (some ⟨b5, 0, none⟩) 1 1], El k24 (⟨1, 0, ([] : List S24)⟩ : S24) [.int .i64 1, .int .i64 0, .slice none 0 0], Blk b6 [.int .i64 1, .int .i64 0, .slice none 0 0, .int .i64 3, .int .i64 3, .slice (some ⟨b5, 0, none⟩) 1 1, .int .i64 1, .int .i64 0, .slice none 0 0] 24, Blk b4 [.int .i64 2, .int .i64 0, .slice (some ⟨b3, 0, none⟩) 1 1] 24, Blk b2 [.int .i64 1, .int .i64 0, .slice none 0 0] 24, Blk b1 [.int .i64 4, .int .i64 0, .slice (some ⟨b6, 0, none⟩) 3 3] 24]) [1, 0, 2, 3, 4, 5] 6 rfl rfl rfl ?_
 refine TQ.two (ch := Els k24 [(⟨1, 0, ([] : List S24)⟩ : S24), (⟨3, 3, ([(⟨2, 0, ([(⟨1, 0, ([] : List S24)⟩ : S24)] : List S24)⟩ : S24)] : List S24)⟩ : S24), (⟨1, 0, ([] : List S24)⟩ : S24)] [.int .i64 1, .int .i64 0, .slice none 0 0, .int .i64 3, .int .i64 3, .slice (some ⟨b5, 0, none⟩) 1 1, .int .i64 1, .int .i64 0, .slice none 0 0]) (Els.snoc k24) ?_
 refine TQ.sel (Ls := [Blk b6 [.int .i64 1, .int .i64 0, .slice none 0 0, .int .i64 3, .int .i64 3, .slice (some ⟨b5, 0, none⟩) 1 1, .int .i64 1, .int .i64 0, .slice none 0 0] 24, Els k24 [(⟨1, 0, ([] : List S24)⟩ : S24), (⟨3, 3, ([(⟨2, 0, ([(⟨1, 0, ([] : List S24)⟩ : S24)] : List S24)⟩ : S24)] : List S24)⟩ : S24), (⟨1, 0, ([] : List S24)⟩ : S24)] [.int .i64 1, .int .i64 0, .slice none 0 0, .int .i64 3, .int .i64 3, .slice (some ⟨b5, 0, none⟩) 1 1, .int .i64 1, .int .i64 0, .slice none 0 0], Blk b4 [.int .i64 2, .int .i64 0, .slice (some ⟨b3, 0, none⟩) 1 1] 24, Blk b2 [.int .i64 1, .int .i64 0, .slice none 0 0] 24, Blk b1 [.int .i64 4, .int .i64 0, .slice (some ⟨b6, 0, none⟩) 3 3] 24]) [1, 0, 2, 3, 4] 5 rfl rfl rfl ?_
 refine TQ.two (ch := Row k24 24 (.slice (some ⟨b6, 0, none⟩) 3 3) ([(⟨1, 0, ([] : List S24)⟩ : S24), (⟨3, 3, ([(⟨2, 0, ([(⟨1, 0, ([] : List S24)⟩ : S24)] : List S24)⟩ : S24)] : List S24)⟩ : S24), (⟨1, 0, ([] : List S24)⟩ : S24)] : List S24)) (Row.lit k24 rfl rfl) ?_
 obtain rfl := Option.some.inj h
 exact TQ.fin (.inl rfl) rfl Tryd.results27 (.cells 3 rfl rfl agg24 fsz24 .nil) rfl (FRel.mk (Ls := [Row k24 24 (.slice (some ⟨b6, 0, none⟩) 3 3) ([(⟨1, 0, ([] : List S24)⟩ : S24), (⟨3, 3, ([(⟨2, 0, ([(⟨1, 0, ([] : List S24)⟩ : S24)] : List S24)⟩ : S24)] : List S24)⟩ : S24), (⟨1, 0, ([] : List S24)⟩ : S24)] : List S24)]) [0] 4 (Gd.le.refl _) rfl rfl rfl ⟨rfl, (some ⟨b6, 0, none⟩), 3, rfl, rfl⟩)
end Go.Proofs.YtdklnjmdaecboaaDoor.Sy
