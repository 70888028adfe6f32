/- Texts of this work, joined: PaA, SyF48, SyF47, PaB, SyF72, PaC, SyF73. -/
import Derived.Test.YthlhmoocgjddpaaSyNParseJoinsUptoa
set_option linter.unusedVariables false
set_option linter.unusedSimpArgs false
namespace Go.Proofs.Ythlhmoocgjddpaa.Sy
open Go Go.RowKit Go.Proofs.YthlhmoocgjddpaaW.PrintWords
theorem w64 {n : Int} (h0 : -9223372036854775808 ≤ n) (h1 : n ≤ 9223372036854775807) : IntKind.i64.wrap n = n := by
  rw [IntKind.wrap_i64]; omega
theorem at_some {α : Type} {l : List α} {p : Int} (h0 : 0 ≤ p) (h1 : p < l.length) : ∃ x, at? l p = some x := by
  unfold at?
  rw [if_pos h0]
  have : p.toNat < l.length := by omega
  exact ⟨_, List.getElem?_eq_getElem this⟩
structure Ag (l l' : List S41) (o : Int) (T : Prop) : Prop where
  o0 : 0 ≤ o
  len : (l.length : Int) + o ≤ l'.length
  mx : (l'.length : Int) ≤ 50000
  at_ : ∀ p : Int, 0 ≤ p → p < l.length → at? l' (p + o) = at? l p
  all : T → (l'.length : Int) = l.length + o ∧ 0 < l.length
def nil41 : S41 := ⟨0, ⟨#[]⟩, 0⟩
def tk (l : List S41) (p e : Int) : S41 := if e = 0 ∧ p < l.length then (at? l p).getD nil41 else nil41
def wd (s : ByteArray) : Bool := (parse_Word.f s).getD false
theorem ex_ite {α : Type} {c : Prop} [Decidable c] {x y : Option α} (hx : ∃ b, x = some b) (hy : ∃ b, y = some b) : ∃ b, (if c then x else y) = some b := by
  split
  · exact hx
  · exact hy
theorem word_f (s : ByteArray) : parse_Word.f s = some (wd s) := by
  have : ∃ b, parse_Word.f s = some b := by
    unfold parse_Word.f
    simp only [jn]
    repeat' (first | apply ex_ite | exact ⟨_, rfl⟩)
  obtain ⟨b, hb⟩ := this
  unfold wd; rw [hb]; rfl
theorem token_f {l : List S41} {p e : Int} (h0 : 0 ≤ p) : parse_parser_token.f l p e = some (tk l p e) := by
  unfold parse_parser_token.f tk
  simp only [jn]
  by_cases he : e = 0
  · by_cases hl : p < l.length
    · obtain ⟨x, hx⟩ := at_some h0 hl
      have h2 : ¬ ((l.length : Int) ≤ p) := by omega
      simp [he, hl, hx, h2]
    · have h2 : ((l.length : Int) ≤ p) := by omega
      simp [he, hl, h2, nil41]
  · simp [he, nil41]
theorem tk_ag {l l' : List S41} {o p e : Int} {T : Prop} (A : Ag l l' o T) (h0 : 0 ≤ p) (h : p < l.length ∨ T) : tk l' (p + o) e = tk l p e := by
  have := A.len
  have := A.o0
  unfold tk
  by_cases hl : p < l.length
  · rw [A.at_ p h0 hl]
    have : p + o < l'.length := by omega
    simp [hl, this]
  · have := A.all (h.resolve_left hl)
    have h2 : ¬ (p + o < l'.length) := by omega
    simp [hl, h2]
def fx (l : List S41) (p e : Int) : ByteArray := if (tk l p e).f0 = 3 ∨ ((tk l p e).f0 = 1 ∧ wd (tk l p e).f1 = true) then (tk l p e).f1 else ⟨#[]⟩
theorem fixed_f {l : List S41} {p e : Int} (h0 : 0 ≤ p) : parse_parser_fixed.f l p e = some (fx l p e) := by
  unfold parse_parser_fixed.f fx
  rw [token_f h0]
  simp only [jn, Option.bind_some, word_f]
  by_cases h3 : (tk l p e).f0 = 3
  · simp [h3]
  · by_cases h1 : (tk l p e).f0 = 1
    · cases hw : wd (tk l p e).f1 <;> simp [h1, hw]
    · simp [h3, h1]
theorem fx_ag {l l' : List S41} {o p e : Int} {T : Prop} (A : Ag l l' o T) (h0 : 0 ≤ p) (h : p < l.length ∨ T) : fx l' (p + o) e = fx l p e := by
  unfold fx; rw [tk_ag A h0 h]
theorem fx_pos {l : List S41} {p e : Int} (h : (fx l p e).data.toList ≠ []) : e = 0 ∧ p < l.length := by
  by_cases hc : e = 0 ∧ p < l.length
  · exact hc
  · refine absurd ?_ h
    unfold fx tk
    rw [if_neg hc]
    simp [nil41]
def fr (l : List S41) (p e k : Int) : Bool := decide ((tk l p e).f0 = k) && (decide (k ≠ 1) || ! wd (tk l p e).f1)
theorem free_f {l : List S41} {p e k : Int} (h0 : 0 ≤ p) : parse_parser_free.f l p e k = some (fr l p e k) := by
  unfold parse_parser_free.f fr
  rw [token_f h0]
  simp only [Option.bind_some, word_f]
  by_cases h3 : (tk l p e).f0 = k
  · by_cases h1 : k = 1
    · simp [h3, h1]
    · simp [h3, h1]
  · simp [h3]
theorem fr_ag {l l' : List S41} {o p e k : Int} {T : Prop} (A : Ag l l' o T) (h0 : 0 ≤ p) (h : p < l.length ∨ T) : fr l' (p + o) e k = fr l p e k := by
  unfold fr; rw [tk_ag A h0 h]
theorem fr_pos {l : List S41} {p e k : Int} (hk : k ≠ 0) (h : fr l p e k = true) : e = 0 ∧ p < l.length := by
  by_cases hc : e = 0 ∧ p < l.length
  · exact hc
  · exfalso
    unfold fr tk at h
    rw [if_neg hc] at h
    simp [nil41] at h
    exact hk (of_decide_eq_true (h.1 : decide (0 = k) = true)).symm
/-! #### Side by side -/
def Gv (Z : Prop) (n : Int) (T : Prop) (o p e : Int) {α : Type} (x x' : Option (α × Int × Int)) (R : α → Int → Int → Prop) : Prop :=
  ∃ r p1 e1, x = some (r, p1, e1) ∧ p ≤ p1 ∧ p1 ≤ n ∧ (e ≠ 0 → p1 = p ∧ e1 = e) ∧ (Z → e1 = 0 → p < p1) ∧ R r p1 e1 ∧ ((p1 < n ∨ T ∨ (Z ∧ e1 = 0)) → x' = some (r, p1 + o, e1))
section
variable {α β : Type} {l l' : List S41} {o p e : Int} {T Z : Prop} {R : α → Int → Int → Prop}
theorem Gv.pure {n : Int} {r : α} (hn : p ≤ n) (hZ : ¬ Z) (hR : R r p e) : Gv Z n T o p e (some (r, p, e)) (some (r, p + o, e)) R :=
  ⟨r, p, e, rfl, by omega, hn, fun _ => ⟨rfl, rfl⟩, fun h => absurd h hZ, hR, fun _ => rfl⟩
theorem Gv.bind {n : Int} {x x' : Option (β × Int × Int)} {R1 : β → Int → Int → Prop} {f f' : β × Int × Int → Option (α × Int × Int)} (hx : Gv False n T o p e x x' R1)
    (hk : ∀ r p1 e1, p ≤ p1 → p1 ≤ n → (e ≠ 0 → p1 = p ∧ e1 = e) → R1 r p1 e1 → Gv Z n T o p1 e1 (f (r, p1, e1)) (f' (r, p1 + o, e1)) R) : Gv Z n T o p e (x.bind f) (x'.bind f') R := by
  obtain ⟨r, p1, e1, h1, h2, h3, h4, h5, h6, h7⟩ := hx
  obtain ⟨s, p2, e2, g1, g2, g3, g4, g5, g6, g7⟩ := hk r p1 e1 h2 h3 h4 h6
  refine ⟨s, p2, e2, by rw [h1, Option.bind_some, g1], by omega, g3, fun h => ?_, fun hz h => ?_, g6, fun h => ?_⟩
  · obtain ⟨a, b⟩ := h4 h
    obtain ⟨c, d⟩ := g4 (by rw [b]; exact h)
    exact ⟨by omega, by omega⟩
  · have := g5 hz h; omega
  · have : p1 < n ∨ T := by
      rcases h with h | h | ⟨h, h'⟩
      · exact .inl (by omega)
      · exact .inr h
      · have := g5 h h'; exact .inl (by omega)
    rw [h7 (by rcases this with h | h; exact .inl h; exact .inr (.inl h)), Option.bind_some]
    exact g7 h
/-- Something that both do alike, without a step. -/
theorem Gv.same {γ : Type} {n : Int} {v v' : γ} {x x' : Option γ} {f f' : γ → Option (α × Int × Int)} (hx : x = some v) (hx' : p < n ∨ T → x' = some v') (hn : p ≤ n)
    (hk : Gv Z n T o p e (f v) (f' v') R) : Gv Z n T o p e (x.bind f) (x'.bind f') R := by
  obtain ⟨s, p2, e2, g1, g2, g3, g4, g5, g6, g7⟩ := hk
  refine ⟨s, p2, e2, by rw [hx, Option.bind_some, g1], g2, g3, g4, g5, g6, fun h => ?_⟩
  have : p < n ∨ T := by
    rcases h with h | h | ⟨h, h'⟩
    · exact .inl (by omega)
    · exact .inr h
    · have := g5 h h'; exact .inl (by omega)
  rw [hx' this, Option.bind_some]
  exact g7 h
/-- A step of one token: what is read is there. -/
theorem Gv.step {γ : Type} {n : Int} {v v' : γ} {x x' : Option γ} {f f' : γ → Option (α × Int × Int)} {q : Int} (hx : x = some v) (hx' : x' = some v') (he : e = 0) (hpq : p ≤ q)
    (hk : Gv Z n T o q e (f v) (f' v') R) : Gv Z n T o p e (x.bind f) (x'.bind f') R := by
  obtain ⟨s, p2, e2, g1, g2, g3, g4, g5, g6, g7⟩ := hk
  exact ⟨s, p2, e2, by rw [hx, Option.bind_some, g1], by omega, g3, fun h => absurd he h, fun hz h => by have := g5 hz h; omega, g6, fun h => by rw [hx', Option.bind_some]; exact g7 h⟩
/-- Something goes wrong. -/
theorem Gv.err {γ : Type} {n : Int} {v v' : γ} {x x' : Option γ} {f f' : γ → Option (α × Int × Int)} {e' : Int} (hx : x = some v) (hx' : p < n ∨ T → x' = some v') (he : e' ≠ 0) (hee : e ≠ 0 → e' = e)
    (hk : Gv Z n T o p e' (f v) (f' v') R) : Gv Z n T o p e (x.bind f) (x'.bind f') R := by
  obtain ⟨s, p2, e2, g1, g2, g3, g4, g5, g6, g7⟩ := hk
  obtain ⟨a, b⟩ := g4 he
  refine ⟨s, p2, e2, by rw [hx, Option.bind_some, g1], by omega, g3, fun h => ⟨a, by rw [b]; exact hee h⟩, fun hz h => by have := g5 hz h; omega, g6, fun h => ?_⟩
  have : p < n ∨ T := by
    rcases h with h | h | ⟨h, h'⟩
    · exact .inl (by omega)
    · exact .inr h
    · exact absurd (b ▸ h') he
  rw [hx' this, Option.bind_some]
  exact g7 h
theorem Gv.fixed {f f' : ByteArray → Option (α × Int × Int)} (A : Ag l l' o T) (h0 : 0 ≤ p) (hn : p ≤ l.length)
    (hk : ∀ s : ByteArray, s = fx l p e → (s.data.toList ≠ [] → e = 0 ∧ p < l.length) → Gv Z l.length T o p e (f s) (f' s) R) :
    Gv Z l.length T o p e ((parse_parser_fixed.f l p e).bind f) ((parse_parser_fixed.f l' (p + o) e).bind f') R :=
  Gv.same (fixed_f h0) (fun h => by rw [fixed_f (by have := A.o0; omega), fx_ag A h0 h]) hn (hk _ rfl fx_pos)
def stt (l : List S41) (p : Int) : Int := (parse_parser_start.f l p 0).getD 0
theorem start_f (hl : (l.length : Int) ≤ 50000) (h0 : 0 ≤ p) : parse_parser_start.f l p e = some (stt l p) := by
  have : ∃ v, parse_parser_start.f l p e = some v := by
    unfold parse_parser_start.f
    split
    · rename_i h
      obtain ⟨x, hx⟩ := at_some h0 h
      rw [hx]; exact ⟨_, rfl⟩
    · split
      · obtain ⟨x, hx⟩ := at_some (l := l) (p := IntKind.i64.wrap ((l.length : Int) - 1)) (by rw [w64 (by omega) (by omega)]; omega) (by rw [w64 (by omega) (by omega)]; omega)
        rw [hx]; exact ⟨_, rfl⟩
      · exact ⟨_, rfl⟩
  obtain ⟨v, hv⟩ := this
  have h2 : parse_parser_start.f l p 0 = parse_parser_start.f l p e := rfl
  unfold stt; rw [h2, hv]; rfl
theorem stt_ag (A : Ag l l' o T) (h0 : 0 ≤ p) (hn : p ≤ l.length) (h : p < l.length ∨ T) : stt l' (p + o) = stt l p := by
  have h1 := A.len
  have h2 := A.o0
  have h3 := A.mx
  unfold stt parse_parser_start.f
  by_cases hl : p < l.length
  · rw [A.at_ p h0 hl, if_pos (by omega), if_pos hl]
  · obtain ⟨h4, h5⟩ := A.all (h.resolve_left hl)
    rw [if_neg (by omega), if_pos (by omega), if_neg hl, if_pos (by omega), w64 (by omega) (by omega), w64 (by omega) (by omega), ← A.at_ ((l.length : Int) - 1) (by omega) (by omega)]
    have : (l'.length : Int) - 1 = (l.length : Int) - 1 + o := by omega
    rw [this]
theorem Gv.start {f f' : Int → Option (α × Int × Int)} {e0 : Int} (A : Ag l l' o T) (h0 : 0 ≤ p) (hn : p ≤ l.length)
    (hk : ∀ v : Int, Gv Z l.length T o p e (f v) (f' v) R) :
    Gv Z l.length T o p e ((parse_parser_start.f l p e0).bind f) ((parse_parser_start.f l' (p + o) e0).bind f') R :=
  have h1 := A.len
  have h2 := A.o0
  have h3 := A.mx
  Gv.same (start_f (by omega) h0) (fun h => by rw [start_f h3 (by omega), stt_ag A h0 hn h]) hn (hk _)
theorem take_f {s : ByteArray} (hl : (l.length : Int) ≤ 50000) (h0 : 0 ≤ p) (hn : p ≤ l.length) : parse_parser_take.f l p e s = some (if (fx l p e).data.toList = s.data.toList then (true, p + 1) else (false, p)) := by
  unfold parse_parser_take.f
  rw [fixed_f h0, Option.bind_some]
  by_cases h : (fx l p e).data.toList = s.data.toList
  · simp [h, w64 (n := p + 1) (by omega) (by omega)]
  · rw [if_neg h, beq_eq_false_iff_ne.2 h]; rfl
theorem Gv.take {s : ByteArray} {f f' : Bool × Int → Option (α × Int × Int)} (hs : s.data.toList ≠ []) (A : Ag l l' o T) (h0 : 0 ≤ p) (hn : p ≤ l.length)
    (hit : e = 0 → p < l.length → ∀ q, q = p + 1 → Gv Z l.length T o q e (f (true, q)) (f' (true, q + o)) R)
    (miss : Gv Z l.length T o p e (f (false, p)) (f' (false, p + o)) R) :
    Gv Z l.length T o p e ((parse_parser_take.f l p e s).bind f) ((parse_parser_take.f l' (p + o) e s).bind f') R := by
  have h1 := A.len
  have h2 := A.o0
  have h3 := A.mx
  by_cases h : (fx l p e).data.toList = s.data.toList
  · obtain ⟨he, hp⟩ := fx_pos (by rw [h]; exact hs)
    refine Gv.step (q := p + 1) (v := (true, p + 1)) (v' := (true, p + 1 + o)) (by rw [take_f (by omega) h0 hn, if_pos h]) ?_ he (by omega) (hit he hp _ rfl)
    rw [take_f h3 (by omega) (by omega), fx_ag A h0 (.inl hp), if_pos h]
    congr 2; omega
  · refine Gv.same (v := (false, p)) (v' := (false, p + o)) (by rw [take_f (by omega) h0 hn, if_neg h]) (fun hc => ?_) hn miss
    rw [take_f h3 (by omega) (by omega), fx_ag A h0 hc, if_neg h]
theorem wrong_f {k : Int} : parse_parser_wrong.f l p e k = some (if e = 0 then k else e) := by
  unfold parse_parser_wrong.f
  by_cases h : e = 0 <;> simp [h]
theorem must_f {s : ByteArray} (hl : (l.length : Int) ≤ 50000) (h0 : 0 ≤ p) (hn : p ≤ l.length) : parse_parser_must.f l p e s = some (if (fx l p e).data.toList = s.data.toList then (p + 1, e) else (p, if e = 0 then 2 else e)) := by
  unfold parse_parser_must.f
  rw [take_f hl h0 hn, Option.bind_some, wrong_f]
  by_cases h : (fx l p e).data.toList = s.data.toList
  · rw [if_pos h, if_pos h]; rfl
  · rw [if_neg h, if_neg h]; rfl
theorem Gv.must {s : ByteArray} {f f' : Int × Int → Option (α × Int × Int)} (hs : s.data.toList ≠ []) (A : Ag l l' o T) (h0 : 0 ≤ p) (hn : p ≤ l.length)
    (hit : e = 0 → p < l.length → ∀ q, q = p + 1 → Gv Z l.length T o q e (f (q, e)) (f' (q + o, e)) R)
    (miss : ∀ e', e' ≠ 0 → (e ≠ 0 → e' = e) → Gv Z l.length T o p e' (f (p, e')) (f' (p + o, e')) R) :
    Gv Z l.length T o p e ((parse_parser_must.f l p e s).bind f) ((parse_parser_must.f l' (p + o) e s).bind f') R := by
  have h1 := A.len
  have h2 := A.o0
  have h3 := A.mx
  by_cases h : (fx l p e).data.toList = s.data.toList
  · obtain ⟨he, hp⟩ := fx_pos (by rw [h]; exact hs)
    refine Gv.step (q := p + 1) (v := (p + 1, e)) (v' := (p + 1 + o, e)) (by rw [must_f (by omega) h0 hn, if_pos h]) ?_ he (by omega) (hit he hp _ rfl)
    rw [must_f h3 (by omega) (by omega), fx_ag A h0 (.inl hp), if_pos h]
    congr 2; omega
  · have he : (if e = 0 then 2 else e) ≠ 0 := by split <;> omega
    have hee : e ≠ 0 → (if e = 0 then 2 else e) = e := fun h => if_neg h
    refine Gv.err (e' := if e = 0 then 2 else e) (v := (p, if e = 0 then 2 else e)) (v' := (p + o, if e = 0 then 2 else e)) (by rw [must_f (by omega) h0 hn, if_neg h]) (fun hc => ?_) he hee (miss _ he hee)
    rw [must_f h3 (by omega) (by omega), fx_ag A h0 hc, if_neg h]
/-- The last step of something that is closed. -/
theorem Gv.last {s : ByteArray} {f f' : Int × Int → Option (α × Int × Int)} {r : α} (hf : ∀ q e1, f (q, e1) = some (r, q, e1)) (hf' : ∀ q e1, f' (q, e1) = some (r, q, e1)) (hs : s.data.toList ≠ []) (A : Ag l l' o T) (h0 : 0 ≤ p) (hn : p ≤ l.length)
    (hR : e = 0 → R r (p + 1) 0) (hR' : ∀ e1, e1 ≠ 0 → R r p e1) :
    Gv Z l.length T o p e ((parse_parser_must.f l p e s).bind f) ((parse_parser_must.f l' (p + o) e s).bind f') R := by
  have h1 := A.len
  have h2 := A.o0
  have h3 := A.mx
  by_cases h : (fx l p e).data.toList = s.data.toList
  · obtain ⟨he, hp⟩ := fx_pos (by rw [h]; exact hs)
    refine ⟨r, p + 1, e, by rw [must_f (by omega) h0 hn, if_pos h, Option.bind_some, hf], by omega, by omega, fun h => absurd he h, fun _ _ => by omega, by rw [he]; exact hR he, fun _ => ?_⟩
    rw [must_f h3 (by omega) (by omega), fx_ag A h0 (.inl hp), if_pos h, Option.bind_some, hf']
    congr 3; omega
  · have he : (if e = 0 then 2 else e) ≠ 0 := by split <;> omega
    refine ⟨r, p, if e = 0 then 2 else e, by rw [must_f (by omega) h0 hn, if_neg h, Option.bind_some, hf], by omega, hn, fun h => ⟨rfl, if_neg h⟩, fun _ h => absurd h he, hR' _ he, fun hc => ?_⟩
    have hc : p < l.length ∨ T := by
      rcases hc with h | h | h
      · exact .inl h
      · exact .inr h
      · exact absurd h.2 he
    rw [must_f h3 (by omega) (by omega), fx_ag A h0 hc, if_neg h, Option.bind_some, hf']
theorem Gv.wrong {f f' : Int → Option (α × Int × Int)} {k : Int} (hk : k ≠ 0)
    (miss : ∀ e', e' ≠ 0 → (e ≠ 0 → e' = e) → Gv Z l.length T o p e' (f e') (f' e') R) :
    Gv Z l.length T o p e ((parse_parser_wrong.f l p e k).bind f) ((parse_parser_wrong.f l' (p + o) e k).bind f') R := by
  have he : (if e = 0 then k else e) ≠ 0 := by split <;> omega
  have hee : e ≠ 0 → (if e = 0 then k else e) = e := fun h => if_neg h
  exact Gv.err (e' := if e = 0 then k else e) wrong_f (fun _ => wrong_f) he hee (miss _ he hee)
theorem text_f {k : Int} (hk : k ≠ 0) (hl : (l.length : Int) ≤ 50000) (h0 : 0 ≤ p) (hn : p ≤ l.length) : parse_parser_text.f l p e k = some (if fr l p e k = true then ((tk l p e).f1, p + 1, e) else (⟨#[]⟩, p, if e = 0 then 2 else e)) := by
  unfold parse_parser_text.f
  rw [free_f h0, Option.bind_some, wrong_f]
  cases h : fr l p e k
  · simp
  · obtain ⟨he, hp⟩ := fr_pos hk h
    obtain ⟨x, hx⟩ := at_some h0 hp
    have h4 : IntKind.i64.wrap (IntKind.i64.wrap (p + 1) - 1) = p := by
      rw [w64 (n := p + 1) (by omega) (by omega), w64 (by omega) (by omega)]; omega
    rw [h4, hx, w64 (n := p + 1) (by omega) (by omega)]
    have h5 : tk l p e = x := by unfold tk; rw [if_pos ⟨he, hp⟩, hx]; rfl
    simp [h5]
theorem Gv.text {k : Int} {f f' : ByteArray × Int × Int → Option (α × Int × Int)} (hk : k ≠ 0) (A : Ag l l' o T) (h0 : 0 ≤ p) (hn : p ≤ l.length)
    (hit : fr l p e k = true → e = 0 → p < l.length → ∀ q t, q = p + 1 → Gv Z l.length T o q e (f (t, q, e)) (f' (t, q + o, e)) R)
    (miss : fr l p e k = false → ∀ e', e' ≠ 0 → (e ≠ 0 → e' = e) → Gv Z l.length T o p e' (f (⟨#[]⟩, p, e')) (f' (⟨#[]⟩, p + o, e')) R) :
    Gv Z l.length T o p e ((parse_parser_text.f l p e k).bind f) ((parse_parser_text.f l' (p + o) e k).bind f') R := by
  have h1 := A.len
  have h2 := A.o0
  have h3 := A.mx
  cases h : fr l p e k
  · have he : (if e = 0 then 2 else e) ≠ 0 := by split <;> omega
    have hee : e ≠ 0 → (if e = 0 then 2 else e) = e := fun h => if_neg h
    refine Gv.err (e' := if e = 0 then 2 else e) (v := (⟨#[]⟩, p, if e = 0 then 2 else e)) (v' := (⟨#[]⟩, p + o, if e = 0 then 2 else e)) (by rw [text_f hk (by omega) h0 hn, h]; rfl) (fun hc => ?_) he hee (miss h _ he hee)
    rw [text_f hk h3 (by omega) (by omega), fr_ag A h0 hc, h]; rfl
  · obtain ⟨he, hp⟩ := fr_pos hk h
    refine Gv.step (q := p + 1) (v := ((tk l p e).f1, p + 1, e)) (v' := ((tk l p e).f1, p + 1 + o, e)) (by rw [text_f hk (by omega) h0 hn, if_pos h]) ?_ he (by omega) (hit h he hp _ _ rfl)
    rw [text_f hk h3 (by omega) (by omega), fr_ag A h0 (.inl hp), if_pos h, tk_ag A h0 (.inl hp)]
    congr 3; omega
theorem Gv.may {d : Int} {n : Int} {f f' : Bool × Int → Option (α × Int × Int)} (hn : p ≤ n)
    (go : d ≤ 100 → e = 0 → Gv Z n T o p e (f (true, e)) (f' (true, e)) R)
    (no : ∀ e', e' ≠ 0 → (e ≠ 0 → e' = e) → Gv Z n T o p e' (f (false, e')) (f' (false, e')) R) :
    Gv Z n T o p e ((parse_parser_may.f l p e d).bind f) ((parse_parser_may.f l' (p + o) e d).bind f') R := by
  by_cases hd : 100 < d
  · have he : (if e = 0 then 5 else e) ≠ 0 := by split <;> omega
    have hee : e ≠ 0 → (if e = 0 then 5 else e) = e := fun h => if_neg h
    have h : ∀ (l : List S41) (p : Int), parse_parser_may.f l p e d = some (false, if e = 0 then 5 else e) := by
      intro l p
      unfold parse_parser_may.f
      rw [wrong_f]
      simp only [jn, Option.bind_some, if_pos hd]
      rw [decide_eq_false he]
    exact Gv.err (e' := if e = 0 then 5 else e) (h l p) (fun _ => h l' (p + o)) he hee (no _ he hee)
  · have h : ∀ (l : List S41) (p : Int), parse_parser_may.f l p e d = some (decide (e = 0), e) := by
      intro l p
      unfold parse_parser_may.f
      simp only [jn, if_neg hd]
    by_cases he : e = 0
    · refine Gv.same (v := (true, e)) (v' := (true, e)) (by rw [h, decide_eq_true he]) (fun _ => by rw [h, decide_eq_true he]) hn (go (by omega) he)
    · refine Gv.same (v := (false, e)) (v' := (false, e)) (by rw [h, decide_eq_false he]) (fun _ => by rw [h, decide_eq_false he]) hn (no e he (fun _ => rfl))
end
/-! #### How deep a tree is -/
def Dp : Nat → S24 → Prop
  | 0, _ => False
  | k + 1, x => x.f3.length ≤ k ∧ ∀ y ∈ x.f3, Dp k y
theorem Dp.mono : ∀ {k k' : Nat} {x : S24}, Dp k x → k ≤ k' → Dp k' x := by
  intro k
  induction k with
  | zero => intro k' x h; exact h.elim
  | succ k ih =>
    intro k' x h hk
    obtain ⟨k', rfl⟩ : ∃ m, k' = m + 1 := ⟨k' - 1, by omega⟩
    have := h.1
    exact ⟨by omega, fun y hy => ih (h.2 y hy) (by omega)⟩
def DL (n : Int) (ks : List S24) : Prop := ks.length ≤ n.toNat ∧ ∀ y ∈ ks, Dp n.toNat y
theorem DL.mono {n n' : Int} {ks : List S24} (h : DL n ks) (hn : n ≤ n') : DL n' ks := ⟨by have := h.1; omega, fun y hy => (h.2 y hy).mono (by omega)⟩
theorem DL.nil {n : Int} : DL n [] := ⟨by simp, fun y hy => by cases hy⟩
theorem Dp.pos {k : Nat} {x : S24} (h : Dp k x) : 0 < k := by
  cases k with
  | zero => exact h.elim
  | succ k => omega
theorem DL.snoc {n n' : Int} {ks : List S24} {x : S24} (h : DL n ks) (hx : Dp n'.toNat x) (hn : 0 ≤ n ∧ n + 1 ≤ n') : DL n' (ks ++ [x]) := ⟨by have := h.1; simp; omega, fun y hy => by
  rcases List.mem_append.1 hy with h' | h'
  · exact (h.2 y h').mono (by omega)
  · rw [List.mem_singleton.1 h']; exact hx⟩
theorem DL.one {n : Int} {x : S24} (hx : Dp n.toNat x) : DL n [x] := ⟨by have := hx.pos; simp; omega, fun y hy => by rw [List.mem_singleton.1 hy]; exact hx⟩
theorem Dp.node {n : Int} {a c : Int} {b : ByteArray} {ks : List S24} (h : DL (n - 1) ks) (hn : 0 < n) : Dp n.toNat ⟨a, b, c, ks⟩ := by
  have : n.toNat = (n - 1).toNat + 1 := by omega
  rw [this]
  exact h
/-- What is made of tokens is no deeper than these are many. -/
def Rp (b : Int) (r : S24) (p1 e1 : Int) : Prop := e1 = 0 → b < p1 ∧ Dp (p1 - b).toNat r
def RL (b : Int) (r : List S24) (p1 e1 : Int) : Prop := e1 = 0 → DL (p1 - b) r
end Go.Proofs.Ythlhmoocgjddpaa.Sy
set_option linter.unusedVariables false
set_option linter.unusedSimpArgs false
set_option maxRecDepth 100000
set_option maxHeartbeats 4000000
namespace Go.Proofs.Ythlhmoocgjddpaa.Sy
open Go Go.RowKit Go.Proofs.YthlhmoocgjddpaaW.PrintWords 
def parse_parser_typ.post (G:Gd) (b1:Nat) (A2:Option Addr) (c3:Nat) (a0_0:(List S41)) (a0_1:Int) (a0_2:Int) (a1:Int) (r:(S24 × Int × Int)) (v:Value) (G':Gd) (Lr:List Ch):Prop:=G=G'∧∃ (A_1:Option Addr) (c_1:Nat),v=.agg #[VI r.1.f0,.string r.1.f1,VI r.1.f2,.slice A_1 r.1.f3.length c_1]∧Lr=[Blk b1 [.slice A2 a0_0.length c3,VI r.2.1,VI r.2.2] 67,Row k24 24 (.slice A_1 r.1.f3.length c_1) r.1.f3]
def parse_parser_typ.l0 (rec48:((List S41) → Int → Int → Int → Option (S24 × Int × Int))) (a0_0:(List S41)) (a1:Int):Nat → (List S24) → Int → Int → Option ((List S24) × Int × Int)
 | 0,_,_,_=>none
 | n3076 + 1,l3023,x3027,x3028=>(parse_parser_take.f a0_0 x3027 x3028 (⟨#[44]⟩:ByteArray)).bind fun (y3120:(Bool × Int))=>(if y3120.1=true then (rec48 a0_0 y3120.2 x3028 (IntKind.i64.wrap (a1 + 1))).bind fun (y3151:(S24 × Int × Int))=>(if l3023.length < 2513169434916 then parse_parser_typ.l0 rec48 a0_0 a1 n3076 (l3023 ++ [y3151.1]) y3151.2.1 y3151.2.2 else none) else some (l3023,y3120.2,x3028))
def parse_parser_typ.g (rec48:((List S41) → Int → Int → Int → Option (S24 × Int × Int))) (a0_0:(List S41)) (a0_1:Int) (a0_2:Int) (a1:Int):Option (S24 × Int × Int):=(parse_parser_start.f a0_0 a0_1 a0_2).bind fun (y9:Int)=>(parse_parser_may.f a0_0 a0_1 a0_2 a1).bind fun (y12:(Bool × Int))=>(if (!y12.1)=true then some ((⟨0,(⟨#[]⟩:ByteArray),y9,([]:List S24)⟩:S24),a0_1,y12.2) else (parse_parser_take.f a0_0 a0_1 y12.2 (⟨#[105,110,116]⟩:ByteArray)).bind fun (y1355:(Bool × Int))=>jn (γ:=(S24 × Int × Int)) (fun (x1701:Int) (x1702:Int) (x1703:Int) (x1704:ByteArray) (l1705:(List S24))=>some ((⟨x1703,x1704,y9,l1705⟩:S24),x1701,x1702)) (fun (j1709:(Int → Int → Int → ByteArray → (List S24) → Option (S24 × Int × Int)))=>(if y1355.1=true then j1709 y1355.2 y12.2 5 (⟨#[]⟩:ByteArray) [] else (parse_parser_take.f a0_0 y1355.2 y12.2 (⟨#[42]⟩:ByteArray)).bind fun (y1711:(Bool × Int))=>(if y1711.1=true then (rec48 a0_0 y1711.2 y12.2 (IntKind.i64.wrap (a1 + 1))).bind fun (y2064:(S24 × Int × Int))=>j1709 y2064.2.1 y2064.2.2 6 (⟨#[]⟩:ByteArray) ([y2064.1]:List S24) else (parse_parser_take.f a0_0 y1711.2 y12.2 (⟨#[91]⟩:ByteArray)).bind fun (y2071:(Bool × Int))=>(if y2071.1=true then (parse_parser_text.f a0_0 y2071.2 y12.2 2).bind fun (y2397:(ByteArray × Int × Int))=>(parse_parser_must.f a0_0 y2397.2.1 y2397.2.2 (⟨#[93]⟩:ByteArray)).bind fun (y2399:(Int × Int))=>(rec48 a0_0 y2399.1 y2399.2 (IntKind.i64.wrap (a1 + 1))).bind fun (y2410:(S24 × Int × Int))=>j1709 y2410.2.1 y2410.2.2 7 y2397.1 ([y2410.1]:List S24) else (parse_parser_take.f a0_0 y2071.2 y12.2 (⟨#[40]⟩:ByteArray)).bind fun (y2417:(Bool × Int))=>(if y2417.1=true then (rec48 a0_0 y2417.2 y12.2 (IntKind.i64.wrap (a1 + 1))).bind fun (y2908:(S24 × Int × Int))=>(parse_parser_typ.l0 rec48 a0_0 a1 100000 ([y2908.1]:List S24) y2908.2.1 y2908.2.2).bind fun (l3069,x3073,x3074)=>(parse_parser_must.f a0_0 x3073 x3074 (⟨#[41]⟩:ByteArray)).bind fun (y3118:(Int × Int))=>j1709 y3118.1 y3118.2 8 (⟨#[]⟩:ByteArray) l3069 else (parse_parser_wrong.f a0_0 y2417.2 y12.2 2).bind fun (y3160:Int)=>j1709 y2417.2 y3160 0 (⟨#[]⟩:ByteArray) []))))))
theorem parse_parser_typ.step (rec48:((List S41) → Int → Int → Int → Option (S24 × Int × Int))) (ih48:∀ {G:Gd} {r:(S24 × Int × Int)} {a0_0:(List S41)} {a0_1:Int} {a0_2:Int} {a1:Int} {b1:Nat} {A2:Option Addr} {c3:Nat} (hr4:Rd G k41 A2 a0_0) (hl5:a0_0.length ≤ c3),rec48 a0_0 a0_1 a0_2 a1=some r → Fn Try.prog 48 G [Blk b1 [.slice A2 a0_0.length c3,VI a0_1,VI a0_2] 67] [VP b1 0,VI a1] (parse_parser_typ.post G b1 A2 c3 a0_0 a0_1 a0_2 a1 r)) {G:Gd} {r:(S24 × Int × Int)} {a0_0:(List S41)} {a0_1:Int} {a0_2:Int} {a1:Int} {b1:Nat} {A2:Option Addr} {c3:Nat} (hr4:Rd G k41 A2 a0_0) (hl5:a0_0.length ≤ c3) (h:parse_parser_typ.g rec48 a0_0 a0_1 a0_2 a1=some r):Fn Try.prog 48 G [Blk b1 [.slice A2 a0_0.length c3,VI a0_1,VI a0_2] 67] [VP b1 0,VI a1] (parse_parser_typ.post G b1 A2 c3 a0_0 a0_1 a0_2 a1 r):=by
 refine Fn.intro (e:=[(0,VP b1 0),(1,VI a1)]) 54 Try.func48 rfl Try.ntmps48 rfl rfl (Nat.le_of_ble_eq_true rfl) (fun L=>?_)
 unfold parse_parser_typ.g at h
 refine TC.seq ?_
 refine TC.region ?_
 refine TL.cons (TL.box (cs:=[VP b1 0]) rfl rfl rfl rfl (fun b6=>?_))
 refine TL.cons (TL.box (cs:=[VI a1]) rfl rfl rfl rfl (fun b7=>?_))
 refine TL.cons (TL.alloc (cs:=[VI 0,.string (⟨#[]⟩:ByteArray),VI 0,.slice none 0 0]) rfl rfl zr24 rfl (fun b8=>?_))
 refine TL.nil ?_
 refine TQ.then_ ?_
 refine TC.seq ?_
 refine TC.region ?_
 refine TV rfl rfl rfl (Val.loadB 2 agg65 rfl rfl rfl) ?_
 refine TK.sel (Ls:=[Blk b1 [.slice A2 a0_0.length c3,VI a0_1,VI a0_2] 67,Blk b8 [VI 0,.string (⟨#[]⟩:ByteArray),VI 0,.slice none 0 0] 24,Blk b7 [VI a1] 3,Blk b6 [VP b1 0] 65]) [3,0,1,2] 4 rfl rfl rfl ?_
 obtain ⟨y9,hy10,h⟩:=bind_no h
 refine TL.cons (TL.callV (Lin:=[Blk b1 [.slice A2 a0_0.length c3,VI a0_1,VI a0_2] 67]) (args:=[VP b1 0]) rfl rfl rfl hbd29 rfl rfl (parse_parser_start.calls (a0_0:=a0_0) (a0_1:=a0_1) (a0_2:=a0_2) hr4 hl5 hy10) rfl ?_)
 rintro _ _ _ _ ⟨rfl,rfl,rfl⟩
 refine TV rfl rfl rfl (Val.build (cs:=[VI 0,.string (⟨#[]⟩:ByteArray),VI y9,.slice none 0 0]) (is:=[2]) (xs:=[.tmp 8]) Try.underlying24 zr24 bld24 rfl rfl rfl rfl) ?_
 refine TL.cons (TL.alloc (cs:=[VI 0,.string (⟨#[]⟩:ByteArray),VI 0,.slice none 0 0]) rfl rfl zr24 rfl (fun b11=>?_))
 refine TL.cons (TL.store 0 (ds:=[VI 0,.string (⟨#[]⟩:ByteArray),VI y9,.slice none 0 0]) (cs':=[VI 0,.string (⟨#[]⟩:ByteArray),VI y9,.slice none 0 0]) (L':=(Blk b11 [VI 0,.string (⟨#[]⟩:ByteArray),VI y9,.slice none 0 0] 24::Blk b1 [.slice A2 a0_0.length c3,VI a0_1,VI a0_2] 67::Blk b8 [VI 0,.string (⟨#[]⟩:ByteArray),VI 0,.slice none 0 0] 24::Blk b7 [VI a1] 3::Blk b6 [VP b1 0] 65::L)) rfl fsz24 rfl rfl rfl rfl rfl (Nat.le_of_ble_eq_true rfl) rfl rfl ?_)
 refine TL.nil ?_
 refine TQ.then_ ?_
 refine TC.seq ?_
 refine TC.seq ?_
 refine TC.region ?_
 refine TV rfl rfl rfl (Val.loadB 4 agg65 rfl rfl rfl) ?_
 refine TV rfl rfl rfl (Val.loadB 3 agg3 rfl rfl rfl) ?_
 refine TK.sel (Ls:=[Blk b1 [.slice A2 a0_0.length c3,VI a0_1,VI a0_2] 67,Blk b11 [VI 0,.string (⟨#[]⟩:ByteArray),VI y9,.slice none 0 0] 24,Blk b8 [VI 0,.string (⟨#[]⟩:ByteArray),VI 0,.slice none 0 0] 24,Blk b7 [VI a1] 3,Blk b6 [VP b1 0] 65]) [1,0,2,3,4] 5 rfl rfl rfl ?_
 obtain ⟨y12,hy13,h⟩:=bind_no h
 refine TL.cons (TL.callV (Lin:=[Blk b1 [.slice A2 a0_0.length c3,VI a0_1,VI a0_2] 67]) (args:=[VP b1 0,VI a1]) rfl rfl rfl hbd66 rfl rfl (parse_parser_may.calls (a0_0:=a0_0) (a0_1:=a0_1) (a0_2:=a0_2) (a1:=a1) hr4 hl5 hy13) rfl ?_)
 rintro _ _ _ _ ⟨rfl,rfl,rfl⟩
 refine TV rfl rfl rfl (Val.not_ rfl) ?_
 refine TL.nil ?_
 refine TQ.then_ ?_
 refine TC.cond_b rfl h (fun hc15 h=>?_) (fun hc15 h=>?_)
 ·
  refine TC.seq ?_
  refine TC.region ?_
  refine TV rfl rfl rfl (Val.loadsB 1 (cs:=[VI 0,.string (⟨#[]⟩:ByteArray),VI y9,.slice none 0 0]) agg24 fsz24 rfl rfl rfl rfl) ?_
  refine TL.cons (TL.store 2 (ds:=[VI 0,.string (⟨#[]⟩:ByteArray),VI y9,.slice none 0 0]) (cs':=[VI 0,.string (⟨#[]⟩:ByteArray),VI y9,.slice none 0 0]) (L':=(Blk b1 [.slice A2 a0_0.length c3,VI a0_1,VI y12.2] 67::Blk b11 [VI 0,.string (⟨#[]⟩:ByteArray),VI y9,.slice none 0 0] 24::Blk b8 [VI 0,.string (⟨#[]⟩:ByteArray),VI y9,.slice none 0 0] 24::Blk b7 [VI a1] 3::Blk b6 [VP b1 0] 65::L)) rfl fsz24 rfl rfl rfl rfl rfl (Nat.le_of_ble_eq_true rfl) rfl rfl ?_)
  refine TL.nil ?_
  refine TQ.then_ ?_
  refine TC.ret ?_
  refine TQ.thenR ?_
  refine TQ.nilRow k24 24 ?_
  obtain rfl:=Option.some.inj h
  exact TQ.fin (.inl rfl) rfl Try.results48 (.cells 3 rfl rfl agg24 fsz24 .nil) rfl (FRel.mk (Ls:=[Blk b1 [.slice A2 a0_0.length c3,VI a0_1,VI y12.2] 67,Row k24 24 (.slice none 0 0) ([]:List S24)]) [1,0] 6 (Gd.le.refl _) rfl rfl rfl ⟨rfl,none,0,rfl,rfl⟩)
 ·
  refine TC.skip ?_
  refine TQ.then_ ?_
  refine TC.seq ?_
  refine TC.region ?_
  refine TV rfl rfl rfl (Val.makeFunc (xs:=[]) (ys:=[VP b6 0,VP b7 0]) rfl rfl) ?_
  refine TV rfl rfl rfl (Val.assign rfl) ?_
  refine TL.nil ?_
  refine TQ.then_ ?_
  refine TC.seq ?_
  refine TC.block ?_
  refine TC.seq ?_
  refine TC.region ?_
  refine TV rfl rfl rfl (Val.loadB 4 agg65 rfl rfl rfl) ?_
  obtain ⟨y1355,hy1356,h⟩:=bind_no h
  refine TL.cons (TL.callV (Lin:=[Blk b1 [.slice A2 a0_0.length c3,VI a0_1,VI y12.2] 67]) (args:=[VP b1 0,.string (⟨#[105,110,116]⟩:ByteArray)]) rfl rfl rfl hbd62 rfl rfl (parse_parser_take.calls (a0_0:=a0_0) (a0_1:=a0_1) (a0_2:=y12.2) (a1:=(⟨#[105,110,116]⟩:ByteArray)) hr4 hl5 hy1356) rfl ?_)
  rintro _ _ _ _ ⟨rfl,rfl,rfl⟩
  refine TV rfl rfl rfl (Val.assign rfl) ?_
  refine TL.nil ?_
  refine TQ.then_ ?_
  obtain ⟨j1709,hj1709,h⟩:=jn_no h
  refine TC.tail (fun a W=>∃ (x1701:Int) (x1702:Int) (x1703:Int) (x1704:ByteArray) (l1705:(List S24)) (A1706:Option Addr) (c1707:Nat),j1709 x1701 x1702 x1703 x1704 l1705=some r∧Fr 54 a [(4,VP b8 0),(5,VP b11 0)]∧Own G (Blk b1 [.slice A2 a0_0.length c3,VI x1701,VI x1702] 67::Blk b11 [VI x1703,.string x1704,VI y9,.slice A1706 l1705.length c1707] 24::Blk b8 [VI 0,.string (⟨#[]⟩:ByteArray),VI 0,.slice none 0 0] 24::Row k24 24 (.slice A1706 l1705.length c1707) l1705::L) W) ?_ ?_
  ·
   rintro a W ⟨x1701,x1702,x1703,x1704,l1705,A1706,c1707,h,hF,hO⟩
   rw [hj1709] at h
   refine TQ.use ?_ hF hO
   clear hF hO
   refine TQ.inB ?_
   refine TQ.then_ ?_
   refine TC.seq ?_
   refine TC.region ?_
   refine TV rfl rfl rfl (Val.loadsB 1 (cs:=[VI x1703,.string x1704,VI y9,.slice A1706 l1705.length c1707]) agg24 fsz24 rfl rfl rfl rfl) ?_
   refine TL.cons (TL.store 2 (ds:=[VI x1703,.string x1704,VI y9,.slice A1706 l1705.length c1707]) (cs':=[VI x1703,.string x1704,VI y9,.slice A1706 l1705.length c1707]) (L':=(Blk b1 [.slice A2 a0_0.length c3,VI x1701,VI x1702] 67::Blk b11 [VI x1703,.string x1704,VI y9,.slice A1706 l1705.length c1707] 24::Blk b8 [VI x1703,.string x1704,VI y9,.slice A1706 l1705.length c1707] 24::Row k24 24 (.slice A1706 l1705.length c1707) l1705::L)) rfl fsz24 rfl rfl rfl rfl rfl (Nat.le_of_ble_eq_true rfl) rfl rfl ?_)
   refine TL.nil ?_
   refine TQ.then_ ?_
   refine TC.ret ?_
   obtain rfl:=Option.some.inj h
   exact TQ.fin (.inl rfl) rfl Try.results48 (.cells 2 rfl rfl agg24 fsz24 .nil) rfl (FRel.mk (Ls:=[Blk b1 [.slice A2 a0_0.length c3,VI x1701,VI x1702] 67,Row k24 24 (.slice A1706 l1705.length c1707) l1705]) [0,3] 4 (Gd.le.refl _) rfl rfl rfl ⟨rfl,A1706,c1707,rfl,rfl⟩)
  ·
   refine TC.cond_b rfl h (fun hc1710 h=>?_) (fun hc1710 h=>?_)
   ·
    refine TC.region ?_
    refine TV rfl rfl rfl (Val.fieldAddrB Try.underlying24 rfl fsz3 rfl rfl rfl) ?_
    refine TL.cons (TL.store 1 (ds:=[VI 5]) (cs':=[VI 5,.string (⟨#[]⟩:ByteArray),VI y9,.slice none 0 0]) (L':=(Blk b1 [.slice A2 a0_0.length c3,VI y1355.2,VI y12.2] 67::Blk b11 [VI 5,.string (⟨#[]⟩:ByteArray),VI y9,.slice none 0 0] 24::Blk b8 [VI 0,.string (⟨#[]⟩:ByteArray),VI 0,.slice none 0 0] 24::Blk b7 [VI a1] 3::Blk b6 [VP b1 0] 65::L)) rfl fsz3 rfl rfl rfl rfl rfl (Nat.le_of_ble_eq_true rfl) rfl rfl ?_)
    refine TL.nil ?_
    exact fun a W hF hO=>⟨y1355.2,y12.2,5,(⟨#[]⟩:ByteArray),[],none,0,h,hF.sub ⟨rfl,rfl,trivial⟩,(Own.nilRow k24 24 hO).selT (Ls:=[Blk b1 [.slice A2 a0_0.length c3,VI y1355.2,VI y12.2] 67,Blk b11 [VI 5,.string (⟨#[]⟩:ByteArray),VI y9,.slice none ([]:List S24).length 0] 24,Blk b8 [VI 0,.string (⟨#[]⟩:ByteArray),VI 0,.slice none 0 0] 24,Row k24 24 (.slice none ([]:List S24).length 0) ([]:List S24)]) [1,2,3,0] 6 rfl rfl rfl⟩
   ·
    refine TC.seq ?_
    refine TC.region ?_
    refine TV rfl rfl rfl (Val.loadB 4 agg65 rfl rfl rfl) ?_
    obtain ⟨y1711,hy1712,h⟩:=bind_no h
    refine TL.cons (TL.callV (Lin:=[Blk b1 [.slice A2 a0_0.length c3,VI y1355.2,VI y12.2] 67]) (args:=[VP b1 0,.string (⟨#[42]⟩:ByteArray)]) rfl rfl rfl hbd62 rfl rfl (parse_parser_take.calls (a0_0:=a0_0) (a0_1:=y1355.2) (a0_2:=y12.2) (a1:=(⟨#[42]⟩:ByteArray)) hr4 hl5 hy1712) rfl ?_)
    rintro _ _ _ _ ⟨rfl,rfl,rfl⟩
    refine TV rfl rfl rfl (Val.assign rfl) ?_
    refine TL.nil ?_
    refine TQ.then_ ?_
    refine TC.cond_b rfl h (fun hc2054 h=>?_) (fun hc2054 h=>?_)
    ·
     refine TC.region ?_
     refine TV rfl rfl rfl (Val.move rfl) ?_
     refine TL.cons (TO.inl (args:=[VP b6 0,VP b7 0]) (e':=[(0,VP b6 0),(1,VP b7 0)]) 7 rfl rfl hbd67 rfl rfl Try.func67 rfl Try.ntmps67 rfl rfl (Nat.le_of_ble_eq_true rfl) (fun a2055 hf2056=>?_))
     refine TC.seq ?_
     refine TC.region ?_
     refine TL.cons (TL.alloc (cs:=[VI 0,.string (⟨#[]⟩:ByteArray),VI 0,.slice none 0 0]) rfl rfl zr24 rfl (fun b2063=>?_))
     refine TL.nil ?_
     refine TQ.then_ ?_
     refine TC.seq ?_
     refine TC.region ?_
     refine TV rfl rfl rfl (Val.loadB 5 agg65 rfl rfl rfl) ?_
     refine TV rfl rfl rfl (Val.loadB 4 agg3 rfl rfl rfl) ?_
     refine TV rfl rfl rfl (Val.cmp rfl rfl run_add) ?_
     refine TK.sel (Ls:=[Blk b1 [.slice A2 a0_0.length c3,VI y1711.2,VI y12.2] 67,Blk b2063 [VI 0,.string (⟨#[]⟩:ByteArray),VI 0,.slice none 0 0] 24,Blk b11 [VI 0,.string (⟨#[]⟩:ByteArray),VI y9,.slice none 0 0] 24,Blk b8 [VI 0,.string (⟨#[]⟩:ByteArray),VI 0,.slice none 0 0] 24,Blk b7 [VI a1] 3,Blk b6 [VP b1 0] 65]) [1,0,2,3,4,5] 6 rfl rfl rfl ?_
     obtain ⟨y2064,hy2065,h⟩:=bind_no h
     refine TL.cons (TL.callV (Lin:=[Blk b1 [.slice A2 a0_0.length c3,VI y1711.2,VI y12.2] 67]) (args:=[VP b1 0,VI (IntKind.i64.wrap (a1 + 1))]) rfl rfl rfl hbd48 rfl rfl (ih48 (a0_0:=a0_0) (a0_1:=y1711.2) (a0_2:=y12.2) (a1:=IntKind.i64.wrap (a1 + 1)) hr4 hl5 hy2065) rfl ?_)
     rintro _ _ _ _ ⟨rfl,A2066,c2067,rfl,rfl⟩
     refine TL.cons (TL.store 2 (ds:=[VI y2064.1.f0,.string y2064.1.f1,VI y2064.1.f2,.slice A2066 y2064.1.f3.length c2067]) (cs':=[VI y2064.1.f0,.string y2064.1.f1,VI y2064.1.f2,.slice A2066 y2064.1.f3.length c2067]) (L':=(Blk b1 [.slice A2 a0_0.length c3,VI y2064.2.1,VI y2064.2.2] 67::Row k24 24 (.slice A2066 y2064.1.f3.length c2067) y2064.1.f3::Blk b2063 [VI y2064.1.f0,.string y2064.1.f1,VI y2064.1.f2,.slice A2066 y2064.1.f3.length c2067] 24::Blk b11 [VI 0,.string (⟨#[]⟩:ByteArray),VI y9,.slice none 0 0] 24::Blk b8 [VI 0,.string (⟨#[]⟩:ByteArray),VI 0,.slice none 0 0] 24::Blk b7 [VI a1] 3::Blk b6 [VP b1 0] 65::L)) rfl fsz24 rfl rfl rfl rfl rfl (Nat.le_of_ble_eq_true rfl) rfl rfl ?_)
     refine TL.nil ?_
     refine TQ.then_ ?_
     refine TC.ret ?_
     refine TQ.fin (v:=.agg #[VI y2064.1.f0,.string y2064.1.f1,VI y2064.1.f2,.slice A2066 y2064.1.f3.length c2067]) (.inl rfl) rfl Try.results67 (.cells 2 rfl rfl agg24 fsz24 .nil) rfl (After.mk hf2056 rfl ?_)
     refine TL.cons (TL.buildSlice (xs:=[.tmp 26]) (vs:=[.agg #[VI y2064.1.f0,.string y2064.1.f1,VI y2064.1.f2,.slice A2066 y2064.1.f3.length c2067]]) (cs:=[VI y2064.1.f0,.string y2064.1.f1,VI y2064.1.f2,.slice A2066 y2064.1.f3.length c2067]) rfl rfl Try.underlying22 zs24 rfl rfl rfl rfl rfl rfl rfl rfl (fun b2069=>?_))
     refine TV rfl rfl rfl (Val.fieldAddrB Try.underlying24 rfl fsz3 rfl rfl rfl) ?_
     refine TL.cons (TL.store 4 (ds:=[VI 6]) (cs':=[VI 6,.string (⟨#[]⟩:ByteArray),VI y9,.slice none 0 0]) (L':=(Blk b2069 [VI y2064.1.f0,.string y2064.1.f1,VI y2064.1.f2,.slice A2066 y2064.1.f3.length c2067] 24::Blk b1 [.slice A2 a0_0.length c3,VI y2064.2.1,VI y2064.2.2] 67::Row k24 24 (.slice A2066 y2064.1.f3.length c2067) y2064.1.f3::Blk b2063 [VI y2064.1.f0,.string y2064.1.f1,VI y2064.1.f2,.slice A2066 y2064.1.f3.length c2067] 24::Blk b11 [VI 6,.string (⟨#[]⟩:ByteArray),VI y9,.slice none 0 0] 24::Blk b8 [VI 0,.string (⟨#[]⟩:ByteArray),VI 0,.slice none 0 0] 24::Blk b7 [VI a1] 3::Blk b6 [VP b1 0] 65::L)) rfl fsz3 rfl rfl rfl rfl rfl (Nat.le_of_ble_eq_true rfl) rfl rfl ?_)
     refine TV rfl rfl rfl (Val.fieldAddrB Try.underlying24 rfl fsz22 rfl rfl rfl) ?_
     refine TL.cons (TL.store 4 (ds:=[.slice (some ⟨b2069,0,none⟩) 1 1]) (cs':=[VI 6,.string (⟨#[]⟩:ByteArray),VI y9,.slice (some ⟨b2069,0,none⟩) 1 1]) (L':=(Blk b2069 [VI y2064.1.f0,.string y2064.1.f1,VI y2064.1.f2,.slice A2066 y2064.1.f3.length c2067] 24::Blk b1 [.slice A2 a0_0.length c3,VI y2064.2.1,VI y2064.2.2] 67::Row k24 24 (.slice A2066 y2064.1.f3.length c2067) y2064.1.f3::Blk b2063 [VI y2064.1.f0,.string y2064.1.f1,VI y2064.1.f2,.slice A2066 y2064.1.f3.length c2067] 24::Blk b11 [VI 6,.string (⟨#[]⟩:ByteArray),VI y9,.slice (some ⟨b2069,0,none⟩) 1 1] 24::Blk b8 [VI 0,.string (⟨#[]⟩:ByteArray),VI 0,.slice none 0 0] 24::Blk b7 [VI a1] 3::Blk b6 [VP b1 0] 65::L)) rfl fsz22 rfl rfl rfl rfl rfl (Nat.le_of_ble_eq_true rfl) rfl rfl ?_)
     refine TL.nil ?_
     refine TQ.new (Els.nil k24) ?_
     refine TQ.sel (Ls:=[Row k24 24 (.slice A2066 y2064.1.f3.length c2067) y2064.1.f3,Els k24 [] [],Blk b2069 [VI y2064.1.f0,.string y2064.1.f1,VI y2064.1.f2,.slice A2066 y2064.1.f3.length c2067] 24,Blk b1 [.slice A2 a0_0.length c3,VI y2064.2.1,VI y2064.2.2] 67,Blk b2063 [VI y2064.1.f0,.string y2064.1.f1,VI y2064.1.f2,.slice A2066 y2064.1.f3.length c2067] 24,Blk b11 [VI 6,.string (⟨#[]⟩:ByteArray),VI y9,.slice (some ⟨b2069,0,none⟩) 1 1] 24,Blk b8 [VI 0,.string (⟨#[]⟩:ByteArray),VI 0,.slice none 0 0] 24,Blk b7 [VI a1] 3,Blk b6 [VP b1 0] 65]) [3,0,1,2,4,5,6,7,8] 9 rfl rfl rfl ?_
     refine TQ.conv (ch':=El k24 y2064.1 [VI y2064.1.f0,.string y2064.1.f1,VI y2064.1.f2,.slice A2066 y2064.1.f3.length c2067]) (fun B W F hh=>k24_mkM W B F y2064.1 hh) ?_
     refine TQ.sel (Ls:=[Els k24 [] [],El k24 y2064.1 [VI y2064.1.f0,.string y2064.1.f1,VI y2064.1.f2,.slice A2066 y2064.1.f3.length c2067],Blk b2069 [VI y2064.1.f0,.string y2064.1.f1,VI y2064.1.f2,.slice A2066 y2064.1.f3.length c2067] 24,Blk b1 [.slice A2 a0_0.length c3,VI y2064.2.1,VI y2064.2.2] 67,Blk b2063 [VI y2064.1.f0,.string y2064.1.f1,VI y2064.1.f2,.slice A2066 y2064.1.f3.length c2067] 24,Blk b11 [VI 6,.string (⟨#[]⟩:ByteArray),VI y9,.slice (some ⟨b2069,0,none⟩) 1 1] 24,Blk b8 [VI 0,.string (⟨#[]⟩:ByteArray),VI 0,.slice none 0 0] 24,Blk b7 [VI a1] 3,Blk b6 [VP b1 0] 65]) [1,0,2,3,4,5,6,7,8] 9 rfl rfl rfl ?_
     refine TQ.two (ch:=Els k24 [y2064.1] [VI y2064.1.f0,.string y2064.1.f1,VI y2064.1.f2,.slice A2066 y2064.1.f3.length c2067]) (Els.snoc k24) ?_
     refine TQ.sel (Ls:=[Blk b2069 [VI y2064.1.f0,.string y2064.1.f1,VI y2064.1.f2,.slice A2066 y2064.1.f3.length c2067] 24,Els k24 [y2064.1] [VI y2064.1.f0,.string y2064.1.f1,VI y2064.1.f2,.slice A2066 y2064.1.f3.length c2067],Blk b1 [.slice A2 a0_0.length c3,VI y2064.2.1,VI y2064.2.2] 67,Blk b2063 [VI y2064.1.f0,.string y2064.1.f1,VI y2064.1.f2,.slice A2066 y2064.1.f3.length c2067] 24,Blk b11 [VI 6,.string (⟨#[]⟩:ByteArray),VI y9,.slice (some ⟨b2069,0,none⟩) 1 1] 24,Blk b8 [VI 0,.string (⟨#[]⟩:ByteArray),VI 0,.slice none 0 0] 24,Blk b7 [VI a1] 3,Blk b6 [VP b1 0] 65]) [1,0,2,3,4,5,6,7] 8 rfl rfl rfl ?_
     refine TQ.two (ch:=Row k24 24 (.slice (some ⟨b2069,0,none⟩) 1 1) ([y2064.1]:List S24)) (Row.lit k24 rfl rfl) ?_
     exact fun a W hF hO=>⟨y2064.2.1,y2064.2.2,6,(⟨#[]⟩:ByteArray),([y2064.1]:List S24),(some ⟨b2069,0,none⟩),1,h,hF.sub ⟨rfl,rfl,trivial⟩,hO.selT (Ls:=[Blk b1 [.slice A2 a0_0.length c3,VI y2064.2.1,VI y2064.2.2] 67,Blk b11 [VI 6,.string (⟨#[]⟩:ByteArray),VI y9,.slice (some ⟨b2069,0,none⟩) ([y2064.1]:List S24).length 1] 24,Blk b8 [VI 0,.string (⟨#[]⟩:ByteArray),VI 0,.slice none 0 0] 24,Row k24 24 (.slice (some ⟨b2069,0,none⟩) ([y2064.1]:List S24).length 1) ([y2064.1]:List S24)]) [1,3,4,0] 7 rfl rfl rfl⟩
    ·
     refine TC.seq ?_
     refine TC.region ?_
     refine TV rfl rfl rfl (Val.loadB 4 agg65 rfl rfl rfl) ?_
     obtain ⟨y2071,hy2072,h⟩:=bind_no h
     refine TL.cons (TL.callV (Lin:=[Blk b1 [.slice A2 a0_0.length c3,VI y1711.2,VI y12.2] 67]) (args:=[VP b1 0,.string (⟨#[91]⟩:ByteArray)]) rfl rfl rfl hbd62 rfl rfl (parse_parser_take.calls (a0_0:=a0_0) (a0_1:=y1711.2) (a0_2:=y12.2) (a1:=(⟨#[91]⟩:ByteArray)) hr4 hl5 hy2072) rfl ?_)
     rintro _ _ _ _ ⟨rfl,rfl,rfl⟩
     refine TV rfl rfl rfl (Val.assign rfl) ?_
     refine TL.nil ?_
     refine TQ.then_ ?_
     refine TC.cond_b rfl h (fun hc2396 h=>?_) (fun hc2396 h=>?_)
     ·
      refine TC.seq ?_
      refine TC.region ?_
      refine TV rfl rfl rfl (Val.loadB 4 agg65 rfl rfl rfl) ?_
      obtain ⟨y2397,hy2398,h⟩:=bind_no h
      refine TL.cons (TL.callV (Lin:=[Blk b1 [.slice A2 a0_0.length c3,VI y2071.2,VI y12.2] 67]) (args:=[VP b1 0,VI 2]) rfl rfl rfl hbd44 rfl rfl (parse_parser_text.calls (a0_0:=a0_0) (a0_1:=y2071.2) (a0_2:=y12.2) (a1:=2) hr4 hl5 hy2398) rfl ?_)
      rintro _ _ _ _ ⟨rfl,rfl,rfl⟩
      refine TV rfl rfl rfl (Val.fieldAddrB Try.underlying24 rfl fsz3 rfl rfl rfl) ?_
      refine TL.cons (TL.store 1 (ds:=[VI 7]) (cs':=[VI 7,.string (⟨#[]⟩:ByteArray),VI y9,.slice none 0 0]) (L':=(Blk b1 [.slice A2 a0_0.length c3,VI y2397.2.1,VI y2397.2.2] 67::Blk b11 [VI 7,.string (⟨#[]⟩:ByteArray),VI y9,.slice none 0 0] 24::Blk b8 [VI 0,.string (⟨#[]⟩:ByteArray),VI 0,.slice none 0 0] 24::Blk b7 [VI a1] 3::Blk b6 [VP b1 0] 65::L)) rfl fsz3 rfl rfl rfl rfl rfl (Nat.le_of_ble_eq_true rfl) rfl rfl ?_)
      refine TV rfl rfl rfl (Val.fieldAddrB Try.underlying24 rfl fsz9 rfl rfl rfl) ?_
      refine TL.cons (TL.store 1 (ds:=[.string y2397.1]) (cs':=[VI 7,.string y2397.1,VI y9,.slice none 0 0]) (L':=(Blk b1 [.slice A2 a0_0.length c3,VI y2397.2.1,VI y2397.2.2] 67::Blk b11 [VI 7,.string y2397.1,VI y9,.slice none 0 0] 24::Blk b8 [VI 0,.string (⟨#[]⟩:ByteArray),VI 0,.slice none 0 0] 24::Blk b7 [VI a1] 3::Blk b6 [VP b1 0] 65::L)) rfl fsz9 rfl rfl rfl rfl rfl (Nat.le_of_ble_eq_true rfl) rfl rfl ?_)
      refine TL.nil ?_
      refine TQ.then_ ?_
      refine TC.seq ?_
      refine TC.region ?_
      refine TV rfl rfl rfl (Val.loadB 4 agg65 rfl rfl rfl) ?_
      obtain ⟨y2399,hy2400,h⟩:=bind_no h
      refine TL.cons (TL.callV (Lin:=[Blk b1 [.slice A2 a0_0.length c3,VI y2397.2.1,VI y2397.2.2] 67]) (args:=[VP b1 0,.string (⟨#[93]⟩:ByteArray)]) rfl rfl rfl hbd43 rfl rfl (parse_parser_must.calls (a0_0:=a0_0) (a0_1:=y2397.2.1) (a0_2:=y2397.2.2) (a1:=(⟨#[93]⟩:ByteArray)) hr4 hl5 hy2400) rfl ?_)
      rintro _ _ _ _ ⟨rfl,rfl,rfl⟩
      refine TL.nil ?_
      refine TQ.then_ ?_
      refine TC.region ?_
      refine TV rfl rfl rfl (Val.move rfl) ?_
      refine TL.cons (TO.inl (args:=[VP b6 0,VP b7 0]) (e':=[(0,VP b6 0),(1,VP b7 0)]) 7 rfl rfl hbd67 rfl rfl Try.func67 rfl Try.ntmps67 rfl rfl (Nat.le_of_ble_eq_true rfl) (fun a2401 hf2402=>?_))
      refine TC.seq ?_
      refine TC.region ?_
      refine TL.cons (TL.alloc (cs:=[VI 0,.string (⟨#[]⟩:ByteArray),VI 0,.slice none 0 0]) rfl rfl zr24 rfl (fun b2409=>?_))
      refine TL.nil ?_
      refine TQ.then_ ?_
      refine TC.seq ?_
      refine TC.region ?_
      refine TV rfl rfl rfl (Val.loadB 5 agg65 rfl rfl rfl) ?_
      refine TV rfl rfl rfl (Val.loadB 4 agg3 rfl rfl rfl) ?_
      refine TV rfl rfl rfl (Val.cmp rfl rfl run_add) ?_
      refine TK.sel (Ls:=[Blk b1 [.slice A2 a0_0.length c3,VI y2399.1,VI y2399.2] 67,Blk b2409 [VI 0,.string (⟨#[]⟩:ByteArray),VI 0,.slice none 0 0] 24,Blk b11 [VI 7,.string y2397.1,VI y9,.slice none 0 0] 24,Blk b8 [VI 0,.string (⟨#[]⟩:ByteArray),VI 0,.slice none 0 0] 24,Blk b7 [VI a1] 3,Blk b6 [VP b1 0] 65]) [1,0,2,3,4,5] 6 rfl rfl rfl ?_
      obtain ⟨y2410,hy2411,h⟩:=bind_no h
      refine TL.cons (TL.callV (Lin:=[Blk b1 [.slice A2 a0_0.length c3,VI y2399.1,VI y2399.2] 67]) (args:=[VP b1 0,VI (IntKind.i64.wrap (a1 + 1))]) rfl rfl rfl hbd48 rfl rfl (ih48 (a0_0:=a0_0) (a0_1:=y2399.1) (a0_2:=y2399.2) (a1:=IntKind.i64.wrap (a1 + 1)) hr4 hl5 hy2411) rfl ?_)
      rintro _ _ _ _ ⟨rfl,A2412,c2413,rfl,rfl⟩
      refine TL.cons (TL.store 2 (ds:=[VI y2410.1.f0,.string y2410.1.f1,VI y2410.1.f2,.slice A2412 y2410.1.f3.length c2413]) (cs':=[VI y2410.1.f0,.string y2410.1.f1,VI y2410.1.f2,.slice A2412 y2410.1.f3.length c2413]) (L':=(Blk b1 [.slice A2 a0_0.length c3,VI y2410.2.1,VI y2410.2.2] 67::Row k24 24 (.slice A2412 y2410.1.f3.length c2413) y2410.1.f3::Blk b2409 [VI y2410.1.f0,.string y2410.1.f1,VI y2410.1.f2,.slice A2412 y2410.1.f3.length c2413] 24::Blk b11 [VI 7,.string y2397.1,VI y9,.slice none 0 0] 24::Blk b8 [VI 0,.string (⟨#[]⟩:ByteArray),VI 0,.slice none 0 0] 24::Blk b7 [VI a1] 3::Blk b6 [VP b1 0] 65::L)) rfl fsz24 rfl rfl rfl rfl rfl (Nat.le_of_ble_eq_true rfl) rfl rfl ?_)
      refine TL.nil ?_
      refine TQ.then_ ?_
      refine TC.ret ?_
      refine TQ.fin (v:=.agg #[VI y2410.1.f0,.string y2410.1.f1,VI y2410.1.f2,.slice A2412 y2410.1.f3.length c2413]) (.inl rfl) rfl Try.results67 (.cells 2 rfl rfl agg24 fsz24 .nil) rfl (After.mk hf2402 rfl ?_)
      refine TL.cons (TL.buildSlice (xs:=[.tmp 40]) (vs:=[.agg #[VI y2410.1.f0,.string y2410.1.f1,VI y2410.1.f2,.slice A2412 y2410.1.f3.length c2413]]) (cs:=[VI y2410.1.f0,.string y2410.1.f1,VI y2410.1.f2,.slice A2412 y2410.1.f3.length c2413]) rfl rfl Try.underlying22 zs24 rfl rfl rfl rfl rfl rfl rfl rfl (fun b2415=>?_))
      refine TV rfl rfl rfl (Val.fieldAddrB Try.underlying24 rfl fsz22 rfl rfl rfl) ?_
      refine TL.cons (TL.store 4 (ds:=[.slice (some ⟨b2415,0,none⟩) 1 1]) (cs':=[VI 7,.string y2397.1,VI y9,.slice (some ⟨b2415,0,none⟩) 1 1]) (L':=(Blk b2415 [VI y2410.1.f0,.string y2410.1.f1,VI y2410.1.f2,.slice A2412 y2410.1.f3.length c2413] 24::Blk b1 [.slice A2 a0_0.length c3,VI y2410.2.1,VI y2410.2.2] 67::Row k24 24 (.slice A2412 y2410.1.f3.length c2413) y2410.1.f3::Blk b2409 [VI y2410.1.f0,.string y2410.1.f1,VI y2410.1.f2,.slice A2412 y2410.1.f3.length c2413] 24::Blk b11 [VI 7,.string y2397.1,VI y9,.slice (some ⟨b2415,0,none⟩) 1 1] 24::Blk b8 [VI 0,.string (⟨#[]⟩:ByteArray),VI 0,.slice none 0 0] 24::Blk b7 [VI a1] 3::Blk b6 [VP b1 0] 65::L)) rfl fsz22 rfl rfl rfl rfl rfl (Nat.le_of_ble_eq_true rfl) rfl rfl ?_)
      refine TL.nil ?_
      refine TQ.new (Els.nil k24) ?_
      refine TQ.sel (Ls:=[Row k24 24 (.slice A2412 y2410.1.f3.length c2413) y2410.1.f3,Els k24 [] [],Blk b2415 [VI y2410.1.f0,.string y2410.1.f1,VI y2410.1.f2,.slice A2412 y2410.1.f3.length c2413] 24,Blk b1 [.slice A2 a0_0.length c3,VI y2410.2.1,VI y2410.2.2] 67,Blk b2409 [VI y2410.1.f0,.string y2410.1.f1,VI y2410.1.f2,.slice A2412 y2410.1.f3.length c2413] 24,Blk b11 [VI 7,.string y2397.1,VI y9,.slice (some ⟨b2415,0,none⟩) 1 1] 24,Blk b8 [VI 0,.string (⟨#[]⟩:ByteArray),VI 0,.slice none 0 0] 24,Blk b7 [VI a1] 3,Blk b6 [VP b1 0] 65]) [3,0,1,2,4,5,6,7,8] 9 rfl rfl rfl ?_
      refine TQ.conv (ch':=El k24 y2410.1 [VI y2410.1.f0,.string y2410.1.f1,VI y2410.1.f2,.slice A2412 y2410.1.f3.length c2413]) (fun B W F hh=>k24_mkM W B F y2410.1 hh) ?_
      refine TQ.sel (Ls:=[Els k24 [] [],El k24 y2410.1 [VI y2410.1.f0,.string y2410.1.f1,VI y2410.1.f2,.slice A2412 y2410.1.f3.length c2413],Blk b2415 [VI y2410.1.f0,.string y2410.1.f1,VI y2410.1.f2,.slice A2412 y2410.1.f3.length c2413] 24,Blk b1 [.slice A2 a0_0.length c3,VI y2410.2.1,VI y2410.2.2] 67,Blk b2409 [VI y2410.1.f0,.string y2410.1.f1,VI y2410.1.f2,.slice A2412 y2410.1.f3.length c2413] 24,Blk b11 [VI 7,.string y2397.1,VI y9,.slice (some ⟨b2415,0,none⟩) 1 1] 24,Blk b8 [VI 0,.string (⟨#[]⟩:ByteArray),VI 0,.slice none 0 0] 24,Blk b7 [VI a1] 3,Blk b6 [VP b1 0] 65]) [1,0,2,3,4,5,6,7,8] 9 rfl rfl rfl ?_
      refine TQ.two (ch:=Els k24 [y2410.1] [VI y2410.1.f0,.string y2410.1.f1,VI y2410.1.f2,.slice A2412 y2410.1.f3.length c2413]) (Els.snoc k24) ?_
      refine TQ.sel (Ls:=[Blk b2415 [VI y2410.1.f0,.string y2410.1.f1,VI y2410.1.f2,.slice A2412 y2410.1.f3.length c2413] 24,Els k24 [y2410.1] [VI y2410.1.f0,.string y2410.1.f1,VI y2410.1.f2,.slice A2412 y2410.1.f3.length c2413],Blk b1 [.slice A2 a0_0.length c3,VI y2410.2.1,VI y2410.2.2] 67,Blk b2409 [VI y2410.1.f0,.string y2410.1.f1,VI y2410.1.f2,.slice A2412 y2410.1.f3.length c2413] 24,Blk b11 [VI 7,.string y2397.1,VI y9,.slice (some ⟨b2415,0,none⟩) 1 1] 24,Blk b8 [VI 0,.string (⟨#[]⟩:ByteArray),VI 0,.slice none 0 0] 24,Blk b7 [VI a1] 3,Blk b6 [VP b1 0] 65]) [1,0,2,3,4,5,6,7] 8 rfl rfl rfl ?_
      refine TQ.two (ch:=Row k24 24 (.slice (some ⟨b2415,0,none⟩) 1 1) ([y2410.1]:List S24)) (Row.lit k24 rfl rfl) ?_
      exact fun a W hF hO=>⟨y2410.2.1,y2410.2.2,7,y2397.1,([y2410.1]:List S24),(some ⟨b2415,0,none⟩),1,h,hF.sub ⟨rfl,rfl,trivial⟩,hO.selT (Ls:=[Blk b1 [.slice A2 a0_0.length c3,VI y2410.2.1,VI y2410.2.2] 67,Blk b11 [VI 7,.string y2397.1,VI y9,.slice (some ⟨b2415,0,none⟩) ([y2410.1]:List S24).length 1] 24,Blk b8 [VI 0,.string (⟨#[]⟩:ByteArray),VI 0,.slice none 0 0] 24,Row k24 24 (.slice (some ⟨b2415,0,none⟩) ([y2410.1]:List S24).length 1) ([y2410.1]:List S24)]) [1,3,4,0] 7 rfl rfl rfl⟩
     ·
      refine TC.seq ?_
      refine TC.region ?_
      refine TV rfl rfl rfl (Val.loadB 4 agg65 rfl rfl rfl) ?_
      obtain ⟨y2417,hy2418,h⟩:=bind_no h
      refine TL.cons (TL.callV (Lin:=[Blk b1 [.slice A2 a0_0.length c3,VI y2071.2,VI y12.2] 67]) (args:=[VP b1 0,.string (⟨#[40]⟩:ByteArray)]) rfl rfl rfl hbd62 rfl rfl (parse_parser_take.calls (a0_0:=a0_0) (a0_1:=y2071.2) (a0_2:=y12.2) (a1:=(⟨#[40]⟩:ByteArray)) hr4 hl5 hy2418) rfl ?_)
      rintro _ _ _ _ ⟨rfl,rfl,rfl⟩
      refine TV rfl rfl rfl (Val.assign rfl) ?_
      refine TL.nil ?_
      refine TQ.then_ ?_
      refine TC.cond_b rfl h (fun hc2720 h=>?_) (fun hc2720 h=>?_)
      ·
       refine TC.seq ?_
       refine TC.region ?_
       refine TV rfl rfl rfl (Val.loadB 4 agg65 rfl rfl rfl) ?_
       refine TV rfl rfl rfl (Val.move rfl) ?_
       refine TL.cons (TO.inl (args:=[VP b1 0,.func (.func 67) #[] #[VP b6 0,VP b7 0]]) (e':=[(0,VP b1 0),(1,.func (.func 67) #[] #[VP b6 0,VP b7 0])]) 17 rfl rfl hbd46 rfl rfl Try.func46 rfl Try.ntmps46 rfl rfl (Nat.le_of_ble_eq_true rfl) (fun a2721 hf2722=>?_))
       refine TC.seq ?_
       refine TC.region ?_
       refine TV rfl rfl rfl (Val.assign rfl) ?_
       refine TL.nil ?_
       refine TQ.then_ ?_
       refine TC.seq ?_
       refine TC.region ?_
       refine TV rfl rfl rfl (Val.move rfl) ?_
       refine TL.cons (TO.inl (args:=[VP b6 0,VP b7 0]) (e':=[(0,VP b6 0),(1,VP b7 0)]) 7 rfl rfl hbd67 rfl rfl Try.func67 rfl Try.ntmps67 rfl rfl (Nat.le_of_ble_eq_true rfl) (fun a2899 hf2900=>?_))
       refine TC.seq ?_
       refine TC.region ?_
       refine TL.cons (TL.alloc (cs:=[VI 0,.string (⟨#[]⟩:ByteArray),VI 0,.slice none 0 0]) rfl rfl zr24 rfl (fun b2907=>?_))
       refine TL.nil ?_
       refine TQ.then_ ?_
       refine TC.seq ?_
       refine TC.region ?_
       refine TV rfl rfl rfl (Val.loadB 5 agg65 rfl rfl rfl) ?_
       refine TV rfl rfl rfl (Val.loadB 4 agg3 rfl rfl rfl) ?_
       refine TV rfl rfl rfl (Val.cmp rfl rfl run_add) ?_
       refine TK.sel (Ls:=[Blk b1 [.slice A2 a0_0.length c3,VI y2417.2,VI y12.2] 67,Blk b2907 [VI 0,.string (⟨#[]⟩:ByteArray),VI 0,.slice none 0 0] 24,Blk b11 [VI 0,.string (⟨#[]⟩:ByteArray),VI y9,.slice none 0 0] 24,Blk b8 [VI 0,.string (⟨#[]⟩:ByteArray),VI 0,.slice none 0 0] 24,Blk b7 [VI a1] 3,Blk b6 [VP b1 0] 65]) [1,0,2,3,4,5] 6 rfl rfl rfl ?_
       obtain ⟨y2908,hy2909,h⟩:=bind_no h
       refine TL.cons (TL.callV (Lin:=[Blk b1 [.slice A2 a0_0.length c3,VI y2417.2,VI y12.2] 67]) (args:=[VP b1 0,VI (IntKind.i64.wrap (a1 + 1))]) rfl rfl rfl hbd48 rfl rfl (ih48 (a0_0:=a0_0) (a0_1:=y2417.2) (a0_2:=y12.2) (a1:=IntKind.i64.wrap (a1 + 1)) hr4 hl5 hy2909) rfl ?_)
       rintro _ _ _ _ ⟨rfl,A2910,c2911,rfl,rfl⟩
       refine TL.cons (TL.store 2 (ds:=[VI y2908.1.f0,.string y2908.1.f1,VI y2908.1.f2,.slice A2910 y2908.1.f3.length c2911]) (cs':=[VI y2908.1.f0,.string y2908.1.f1,VI y2908.1.f2,.slice A2910 y2908.1.f3.length c2911]) (L':=(Blk b1 [.slice A2 a0_0.length c3,VI y2908.2.1,VI y2908.2.2] 67::Row k24 24 (.slice A2910 y2908.1.f3.length c2911) y2908.1.f3::Blk b2907 [VI y2908.1.f0,.string y2908.1.f1,VI y2908.1.f2,.slice A2910 y2908.1.f3.length c2911] 24::Blk b11 [VI 0,.string (⟨#[]⟩:ByteArray),VI y9,.slice none 0 0] 24::Blk b8 [VI 0,.string (⟨#[]⟩:ByteArray),VI 0,.slice none 0 0] 24::Blk b7 [VI a1] 3::Blk b6 [VP b1 0] 65::L)) rfl fsz24 rfl rfl rfl rfl rfl (Nat.le_of_ble_eq_true rfl) rfl rfl ?_)
       refine TL.nil ?_
       refine TQ.then_ ?_
       refine TC.ret ?_
       refine TQ.fin (v:=.agg #[VI y2908.1.f0,.string y2908.1.f1,VI y2908.1.f2,.slice A2910 y2908.1.f3.length c2911]) (.inl rfl) rfl Try.results67 (.cells 2 rfl rfl agg24 fsz24 .nil) rfl (After.mk hf2900 rfl ?_)
       refine TL.cons (TL.buildSlice (xs:=[.tmp 7]) (vs:=[.agg #[VI y2908.1.f0,.string y2908.1.f1,VI y2908.1.f2,.slice A2910 y2908.1.f3.length c2911]]) (cs:=[VI y2908.1.f0,.string y2908.1.f1,VI y2908.1.f2,.slice A2910 y2908.1.f3.length c2911]) rfl rfl Try.underlying22 zs24 rfl rfl rfl rfl rfl rfl rfl rfl (fun b2913=>?_))
       refine TV rfl rfl rfl (Val.assign rfl) ?_
       refine TL.nil ?_
       refine TQ.then_ ?_
       refine TC.seq ?_
       refine TC.new (Els.nil k24) ?_
       refine TC.sel (Ls:=[Row k24 24 (.slice A2910 y2908.1.f3.length c2911) y2908.1.f3,Els k24 [] [],Blk b2913 [VI y2908.1.f0,.string y2908.1.f1,VI y2908.1.f2,.slice A2910 y2908.1.f3.length c2911] 24,Blk b1 [.slice A2 a0_0.length c3,VI y2908.2.1,VI y2908.2.2] 67,Blk b2907 [VI y2908.1.f0,.string y2908.1.f1,VI y2908.1.f2,.slice A2910 y2908.1.f3.length c2911] 24,Blk b11 [VI 0,.string (⟨#[]⟩:ByteArray),VI y9,.slice none 0 0] 24,Blk b8 [VI 0,.string (⟨#[]⟩:ByteArray),VI 0,.slice none 0 0] 24,Blk b7 [VI a1] 3,Blk b6 [VP b1 0] 65]) [3,0,1,2,4,5,6,7,8] 9 rfl rfl rfl ?_
       refine TC.conv (ch':=El k24 y2908.1 [VI y2908.1.f0,.string y2908.1.f1,VI y2908.1.f2,.slice A2910 y2908.1.f3.length c2911]) (fun B W F hh=>k24_mkM W B F y2908.1 hh) ?_
       refine TC.sel (Ls:=[Els k24 [] [],El k24 y2908.1 [VI y2908.1.f0,.string y2908.1.f1,VI y2908.1.f2,.slice A2910 y2908.1.f3.length c2911],Blk b2913 [VI y2908.1.f0,.string y2908.1.f1,VI y2908.1.f2,.slice A2910 y2908.1.f3.length c2911] 24,Blk b1 [.slice A2 a0_0.length c3,VI y2908.2.1,VI y2908.2.2] 67,Blk b2907 [VI y2908.1.f0,.string y2908.1.f1,VI y2908.1.f2,.slice A2910 y2908.1.f3.length c2911] 24,Blk b11 [VI 0,.string (⟨#[]⟩:ByteArray),VI y9,.slice none 0 0] 24,Blk b8 [VI 0,.string (⟨#[]⟩:ByteArray),VI 0,.slice none 0 0] 24,Blk b7 [VI a1] 3,Blk b6 [VP b1 0] 65]) [1,0,2,3,4,5,6,7,8] 9 rfl rfl rfl ?_
       refine TC.two (ch:=Els k24 [y2908.1] [VI y2908.1.f0,.string y2908.1.f1,VI y2908.1.f2,.slice A2910 y2908.1.f3.length c2911]) (Els.snoc k24) ?_
       refine TC.sel (Ls:=[Blk b2913 [VI y2908.1.f0,.string y2908.1.f1,VI y2908.1.f2,.slice A2910 y2908.1.f3.length c2911] 24,Els k24 [y2908.1] [VI y2908.1.f0,.string y2908.1.f1,VI y2908.1.f2,.slice A2910 y2908.1.f3.length c2911],Blk b1 [.slice A2 a0_0.length c3,VI y2908.2.1,VI y2908.2.2] 67,Blk b2907 [VI y2908.1.f0,.string y2908.1.f1,VI y2908.1.f2,.slice A2910 y2908.1.f3.length c2911] 24,Blk b11 [VI 0,.string (⟨#[]⟩:ByteArray),VI y9,.slice none 0 0] 24,Blk b8 [VI 0,.string (⟨#[]⟩:ByteArray),VI 0,.slice none 0 0] 24,Blk b7 [VI a1] 3,Blk b6 [VP b1 0] 65]) [1,0,2,3,4,5,6,7] 8 rfl rfl rfl ?_
       refine TC.two (ch:=Row k24 24 (.slice (some ⟨b2913,0,none⟩) 1 1) ([y2908.1]:List S24)) (Row.lit k24 rfl rfl) ?_
       obtain ⟨o3075,ho3075,ko3075⟩:=bind_no h
       clear h
       refine TC.tail (fun a W=>∃ (l3069:(List S24)) (x3073:Int) (x3074:Int) (A3070:Option Addr) (c3071:Nat),(l3069,x3073,x3074)=o3075∧Fr 17 a [(5,.slice A3070 l3069.length c3071)]∧Own G (Blk b1 [.slice A2 a0_0.length c3,VI x3073,VI x3074] 67::Blk b11 [VI 0,.string (⟨#[]⟩:ByteArray),VI y9,.slice none 0 0] 24::Blk b6 [VP b1 0] 65::Blk b7 [VI a1] 3::Blk b8 [VI 0,.string (⟨#[]⟩:ByteArray),VI 0,.slice none 0 0] 24::Row k24 24 (.slice A3070 l3069.length c3071) l3069::L) W) ?_ ?_
       ·
        rintro a W ⟨l3069,x3073,x3074,A3070,c3071,rfl,hF,hO⟩
        have h:=ko3075
        clear ko3075 ho3075
        refine TQ.use ?_ hF hO
        clear hF hO
        refine TQ.then_ ?_
        refine TC.seq ?_
        refine TC.region ?_
        refine TV rfl rfl rfl (Val.move rfl) ?_
        refine TV rfl rfl rfl (Val.assign rfl) ?_
        refine TL.nil ?_
        refine TQ.then_ ?_
        refine TC.ret ?_
        refine TQ.fin (v:=.slice A3070 l3069.length c3071) (.inl rfl) rfl Try.results46 (.tmp rfl .nil) rfl (After.mk hf2722 rfl ?_)
        refine TV rfl rfl rfl (Val.fieldAddrB Try.underlying24 rfl fsz3 rfl rfl rfl) ?_
        refine TL.cons (TL.store 1 (ds:=[VI 8]) (cs':=[VI 8,.string (⟨#[]⟩:ByteArray),VI y9,.slice none 0 0]) (L':=(Blk b1 [.slice A2 a0_0.length c3,VI x3073,VI x3074] 67::Blk b11 [VI 8,.string (⟨#[]⟩:ByteArray),VI y9,.slice none 0 0] 24::Blk b6 [VP b1 0] 65::Blk b7 [VI a1] 3::Blk b8 [VI 0,.string (⟨#[]⟩:ByteArray),VI 0,.slice none 0 0] 24::Row k24 24 (.slice A3070 l3069.length c3071) l3069::L)) rfl fsz3 rfl rfl rfl rfl rfl (Nat.le_of_ble_eq_true rfl) rfl rfl ?_)
        refine TV rfl rfl rfl (Val.fieldAddrB Try.underlying24 rfl fsz22 rfl rfl rfl) ?_
        refine TL.cons (TL.store 1 (ds:=[.slice A3070 l3069.length c3071]) (cs':=[VI 8,.string (⟨#[]⟩:ByteArray),VI y9,.slice A3070 l3069.length c3071]) (L':=(Blk b1 [.slice A2 a0_0.length c3,VI x3073,VI x3074] 67::Blk b11 [VI 8,.string (⟨#[]⟩:ByteArray),VI y9,.slice A3070 l3069.length c3071] 24::Blk b6 [VP b1 0] 65::Blk b7 [VI a1] 3::Blk b8 [VI 0,.string (⟨#[]⟩:ByteArray),VI 0,.slice none 0 0] 24::Row k24 24 (.slice A3070 l3069.length c3071) l3069::L)) rfl fsz22 rfl rfl rfl rfl rfl (Nat.le_of_ble_eq_true rfl) rfl rfl ?_)
        refine TL.nil ?_
        refine TQ.then_ ?_
        refine TC.region ?_
        refine TV rfl rfl rfl (Val.loadB 2 agg65 rfl rfl rfl) ?_
        obtain ⟨y3118,hy3119,h⟩:=bind_no h
        refine TL.cons (TL.callV (Lin:=[Blk b1 [.slice A2 a0_0.length c3,VI x3073,VI x3074] 67]) (args:=[VP b1 0,.string (⟨#[41]⟩:ByteArray)]) rfl rfl rfl hbd43 rfl rfl (parse_parser_must.calls (a0_0:=a0_0) (a0_1:=x3073) (a0_2:=x3074) (a1:=(⟨#[41]⟩:ByteArray)) hr4 hl5 hy3119) rfl ?_)
        rintro _ _ _ _ ⟨rfl,rfl,rfl⟩
        refine TL.nil ?_
        exact fun a W hF hO=>⟨y3118.1,y3118.2,8,(⟨#[]⟩:ByteArray),l3069,A3070,c3071,h,hF.sub ⟨rfl,rfl,trivial⟩,hO.selT (Ls:=[Blk b1 [.slice A2 a0_0.length c3,VI y3118.1,VI y3118.2] 67,Blk b11 [VI 8,.string (⟨#[]⟩:ByteArray),VI y9,.slice A3070 l3069.length c3071] 24,Blk b8 [VI 0,.string (⟨#[]⟩:ByteArray),VI 0,.slice none 0 0] 24,Row k24 24 (.slice A3070 l3069.length c3071) l3069]) [0,1,4,5] 6 rfl rfl rfl⟩
       ·
        refine TC.block ?_
        intro a W hF hO
        have hS:∃ (l3023:(List S24)) (x3027:Int) (x3028:Int) (A3024:Option Addr) (c3025:Nat),parse_parser_typ.l0 rec48 a0_0 a1 100000 l3023 x3027 x3028=some o3075∧Fr 17 a [(0,VP b1 0),(1,.func (.func 67) #[] #[VP b6 0,VP b7 0]),(5,.slice A3024 l3023.length c3025)]∧Own G (Blk b1 [.slice A2 a0_0.length c3,VI x3027,VI x3028] 67::Blk b11 [VI 0,.string (⟨#[]⟩:ByteArray),VI y9,.slice none 0 0] 24::Blk b6 [VP b1 0] 65::Blk b7 [VI a1] 3::Blk b8 [VI 0,.string (⟨#[]⟩:ByteArray),VI 0,.slice none 0 0] 24::Row k24 24 (.slice A3024 l3023.length c3025) l3023::L) W:=by
         exact ⟨([y2908.1]:List S24),y2908.2.1,y2908.2.2,(some ⟨b2913,0,none⟩),1,ho3075,hF.sub ⟨rfl,rfl,rfl,trivial⟩,hO.selT (Ls:=[Blk b1 [.slice A2 a0_0.length c3,VI y2908.2.1,VI y2908.2.2] 67,Blk b11 [VI 0,.string (⟨#[]⟩:ByteArray),VI y9,.slice none 0 0] 24,Blk b6 [VP b1 0] 65,Blk b7 [VI a1] 3,Blk b8 [VI 0,.string (⟨#[]⟩:ByteArray),VI 0,.slice none 0 0] 24,Row k24 24 (.slice (some ⟨b2913,0,none⟩) ([y2908.1]:List S24).length 1) ([y2908.1]:List S24)]) [1,3,6,5,4,0] 7 rfl rfl rfl⟩
        clear hF hO ho3075 ko3075
        refine TC.loop (fun n3076 a W=>∃ (l3023:(List S24)) (x3027:Int) (x3028:Int) (A3024:Option Addr) (c3025:Nat),parse_parser_typ.l0 rec48 a0_0 a1 n3076 l3023 x3027 x3028=some o3075∧Fr 17 a [(0,VP b1 0),(1,.func (.func 67) #[] #[VP b6 0,VP b7 0]),(5,.slice A3024 l3023.length c3025)]∧Own G (Blk b1 [.slice A2 a0_0.length c3,VI x3027,VI x3028] 67::Blk b11 [VI 0,.string (⟨#[]⟩:ByteArray),VI y9,.slice none 0 0] 24::Blk b6 [VP b1 0] 65::Blk b7 [VI a1] 3::Blk b8 [VI 0,.string (⟨#[]⟩:ByteArray),VI 0,.slice none 0 0] 24::Row k24 24 (.slice A3024 l3023.length c3025) l3023::L) W) ?_ ?_ hS
        ·
         rintro a W ⟨l3023,x3027,x3028,A3024,c3025,h,hF,hO⟩
         exact none_no h
        ·
         clear hS
         rintro n3076 a W ⟨l3023,x3027,x3028,A3024,c3025,h,hF,hO⟩
         rw [parse_parser_typ.l0] at h
         refine TC.use ?_ hF hO
         clear hF hO
         refine TC.seq ?_
         refine TC.seq ?_
         refine TC.region ?_
         refine TV rfl rfl rfl (Val.move rfl) ?_
         obtain ⟨y3120,hy3121,h⟩:=bind_no h
         refine TL.cons (TL.callV (Lin:=[Blk b1 [.slice A2 a0_0.length c3,VI x3027,VI x3028] 67]) (args:=[VP b1 0,.string (⟨#[44]⟩:ByteArray)]) rfl rfl rfl hbd62 rfl rfl (parse_parser_take.calls (a0_0:=a0_0) (a0_1:=x3027) (a0_2:=x3028) (a1:=(⟨#[44]⟩:ByteArray)) hr4 hl5 hy3121) rfl ?_)
         rintro _ _ _ _ ⟨rfl,rfl,rfl⟩
         refine TL.nil ?_
         refine TQ.then_ ?_
         refine TC.cond_b rfl h (fun hc3123 h=>?_) (fun hc3123 h=>?_)
         ·
          refine TC.skip ?_
          refine TQ.then_ ?_
          refine TC.block ?_
          refine TC.region ?_
          refine TV rfl rfl rfl (Val.move rfl) ?_
          refine TV rfl rfl rfl (Val.move rfl) ?_
          refine TL.cons (TO.inl (args:=[VP b6 0,VP b7 0]) (e':=[(0,VP b6 0),(1,VP b7 0)]) 7 rfl rfl hbd67 rfl rfl Try.func67 rfl Try.ntmps67 rfl rfl (Nat.le_of_ble_eq_true rfl) (fun a3142 hf3143=>?_))
          refine TC.seq ?_
          refine TC.region ?_
          refine TL.cons (TL.alloc (cs:=[VI 0,.string (⟨#[]⟩:ByteArray),VI 0,.slice none 0 0]) rfl rfl zr24 rfl (fun b3150=>?_))
          refine TL.nil ?_
          refine TQ.then_ ?_
          refine TC.seq ?_
          refine TC.region ?_
          refine TV rfl rfl rfl (Val.loadB 3 agg65 rfl rfl rfl) ?_
          refine TV rfl rfl rfl (Val.loadB 4 agg3 rfl rfl rfl) ?_
          refine TV rfl rfl rfl (Val.cmp rfl rfl run_add) ?_
          refine TK.sel (Ls:=[Blk b1 [.slice A2 a0_0.length c3,VI y3120.2,VI x3028] 67,Blk b3150 [VI 0,.string (⟨#[]⟩:ByteArray),VI 0,.slice none 0 0] 24,Blk b11 [VI 0,.string (⟨#[]⟩:ByteArray),VI y9,.slice none 0 0] 24,Blk b6 [VP b1 0] 65,Blk b7 [VI a1] 3,Blk b8 [VI 0,.string (⟨#[]⟩:ByteArray),VI 0,.slice none 0 0] 24,Row k24 24 (.slice A3024 l3023.length c3025) l3023]) [1,0,2,3,4,5,6] 7 rfl rfl rfl ?_
          obtain ⟨y3151,hy3152,h⟩:=bind_no h
          refine TL.cons (TL.callV (Lin:=[Blk b1 [.slice A2 a0_0.length c3,VI y3120.2,VI x3028] 67]) (args:=[VP b1 0,VI (IntKind.i64.wrap (a1 + 1))]) rfl rfl rfl hbd48 rfl rfl (ih48 (a0_0:=a0_0) (a0_1:=y3120.2) (a0_2:=x3028) (a1:=IntKind.i64.wrap (a1 + 1)) hr4 hl5 hy3152) rfl ?_)
          rintro _ _ _ _ ⟨rfl,A3153,c3154,rfl,rfl⟩
          refine TL.cons (TL.store 2 (ds:=[VI y3151.1.f0,.string y3151.1.f1,VI y3151.1.f2,.slice A3153 y3151.1.f3.length c3154]) (cs':=[VI y3151.1.f0,.string y3151.1.f1,VI y3151.1.f2,.slice A3153 y3151.1.f3.length c3154]) (L':=(Blk b1 [.slice A2 a0_0.length c3,VI y3151.2.1,VI y3151.2.2] 67::Row k24 24 (.slice A3153 y3151.1.f3.length c3154) y3151.1.f3::Blk b3150 [VI y3151.1.f0,.string y3151.1.f1,VI y3151.1.f2,.slice A3153 y3151.1.f3.length c3154] 24::Blk b11 [VI 0,.string (⟨#[]⟩:ByteArray),VI y9,.slice none 0 0] 24::Blk b6 [VP b1 0] 65::Blk b7 [VI a1] 3::Blk b8 [VI 0,.string (⟨#[]⟩:ByteArray),VI 0,.slice none 0 0] 24::Row k24 24 (.slice A3024 l3023.length c3025) l3023::L)) rfl fsz24 rfl rfl rfl rfl rfl (Nat.le_of_ble_eq_true rfl) rfl rfl ?_)
          refine TL.nil ?_
          refine TQ.then_ ?_
          refine TC.ret ?_
          refine TQ.fin (v:=.agg #[VI y3151.1.f0,.string y3151.1.f1,VI y3151.1.f2,.slice A3153 y3151.1.f3.length c3154]) (.inl rfl) rfl Try.results67 (.cells 2 rfl rfl agg24 fsz24 .nil) rfl (After.mk hf3143 rfl ?_)
          refine TL.cons (TL.buildSlice (xs:=[.tmp 13]) (vs:=[.agg #[VI y3151.1.f0,.string y3151.1.f1,VI y3151.1.f2,.slice A3153 y3151.1.f3.length c3154]]) (cs:=[VI y3151.1.f0,.string y3151.1.f1,VI y3151.1.f2,.slice A3153 y3151.1.f3.length c3154]) rfl rfl Try.underlying22 zs24 rfl rfl rfl rfl rfl rfl rfl rfl (fun b3156=>?_))
          refine TK.sel (Ls:=[Row k24 24 (.slice A3153 y3151.1.f3.length c3154) y3151.1.f3,Blk b3156 [VI y3151.1.f0,.string y3151.1.f1,VI y3151.1.f2,.slice A3153 y3151.1.f3.length c3154] 24,Blk b1 [.slice A2 a0_0.length c3,VI y3151.2.1,VI y3151.2.2] 67,Blk b3150 [VI y3151.1.f0,.string y3151.1.f1,VI y3151.1.f2,.slice A3153 y3151.1.f3.length c3154] 24,Blk b11 [VI 0,.string (⟨#[]⟩:ByteArray),VI y9,.slice none 0 0] 24,Blk b6 [VP b1 0] 65,Blk b7 [VI a1] 3,Blk b8 [VI 0,.string (⟨#[]⟩:ByteArray),VI 0,.slice none 0 0] 24,Row k24 24 (.slice A3024 l3023.length c3025) l3023]) [2,0,1,3,4,5,6,7,8] 9 rfl rfl rfl ?_
          refine TK.conv (ch':=El k24 y3151.1 [VI y3151.1.f0,.string y3151.1.f1,VI y3151.1.f2,.slice A3153 y3151.1.f3.length c3154]) (fun B W F hh=>k24_mkM W B F y3151.1 hh) ?_
          refine TK.sel (Ls:=[Row k24 24 (.slice A3024 l3023.length c3025) l3023,El k24 y3151.1 [VI y3151.1.f0,.string y3151.1.f1,VI y3151.1.f2,.slice A3153 y3151.1.f3.length c3154],Blk b3156 [VI y3151.1.f0,.string y3151.1.f1,VI y3151.1.f2,.slice A3153 y3151.1.f3.length c3154] 24,Blk b1 [.slice A2 a0_0.length c3,VI y3151.2.1,VI y3151.2.2] 67,Blk b3150 [VI y3151.1.f0,.string y3151.1.f1,VI y3151.1.f2,.slice A3153 y3151.1.f3.length c3154] 24,Blk b11 [VI 0,.string (⟨#[]⟩:ByteArray),VI y9,.slice none 0 0] 24,Blk b6 [VP b1 0] 65,Blk b7 [VI a1] 3,Blk b8 [VI 0,.string (⟨#[]⟩:ByteArray),VI 0,.slice none 0 0] 24]) [8,0,1,2,3,4,5,6,7] 9 rfl rfl rfl ?_
          obtain ⟨ha3157,h⟩:=ite_no h
          refine TL.cons (TL.append (xs:=l3023) k24 rfl rfl Try.underlying22 inf24 rfl (Nat.le_of_ble_eq_true rfl) (Nat.le_of_ble_eq_true rfl) rfl rfl (by omega) (fun A3158 c3159=>?_))
          refine TV rfl rfl rfl (Val.assign rfl) ?_
          refine TL.nil ?_
          refine TQ.inB ?_
          exact fun a W hF hO=>⟨(l3023 ++ [y3151.1]),y3151.2.1,y3151.2.2,A3158,c3159,h,hF.sub ⟨rfl,rfl,rfl,trivial⟩,hO.selT (Ls:=[Blk b1 [.slice A2 a0_0.length c3,VI y3151.2.1,VI y3151.2.2] 67,Blk b11 [VI 0,.string (⟨#[]⟩:ByteArray),VI y9,.slice none 0 0] 24,Blk b6 [VP b1 0] 65,Blk b7 [VI a1] 3,Blk b8 [VI 0,.string (⟨#[]⟩:ByteArray),VI 0,.slice none 0 0] 24,Row k24 24 (.slice A3158 (l3023 ++ [y3151.1]).length c3159) (l3023 ++ [y3151.1])]) [1,3,4,5,6,0] 7 rfl rfl rfl⟩
         ·
          refine TC.exit ?_
          refine TQ.thenX ?_
          refine TQ.thenX ?_
          refine TQ.inBX ?_
          exact fun a W hF hO=>⟨l3023,y3120.2,x3028,A3024,c3025,Option.some.inj h,hF.sub ⟨rfl,trivial⟩,hO.selT (Ls:=[Blk b1 [.slice A2 a0_0.length c3,VI y3120.2,VI x3028] 67,Blk b11 [VI 0,.string (⟨#[]⟩:ByteArray),VI y9,.slice none 0 0] 24,Blk b6 [VP b1 0] 65,Blk b7 [VI a1] 3,Blk b8 [VI 0,.string (⟨#[]⟩:ByteArray),VI 0,.slice none 0 0] 24,Row k24 24 (.slice A3024 l3023.length c3025) l3023]) [0,1,2,3,4,5] 6 rfl rfl rfl⟩
      ·
       refine TC.region ?_
       refine TV rfl rfl rfl (Val.loadB 4 agg65 rfl rfl rfl) ?_
       obtain ⟨y3160,hy3161,h⟩:=bind_no h
       refine TL.cons (TL.callV (Lin:=[Blk b1 [.slice A2 a0_0.length c3,VI y2417.2,VI y12.2] 67]) (args:=[VP b1 0,VI 2]) rfl rfl rfl hbd63 rfl rfl (parse_parser_wrong.calls (a0_0:=a0_0) (a0_1:=y2417.2) (a0_2:=y12.2) (a1:=2) hr4 hl5 hy3161) rfl ?_)
       rintro _ _ _ _ ⟨rfl,rfl,rfl⟩
       refine TL.nil ?_
       exact fun a W hF hO=>⟨y2417.2,y3160,0,(⟨#[]⟩:ByteArray),[],none,0,h,hF.sub ⟨rfl,rfl,trivial⟩,(Own.nilRow k24 24 hO).selT (Ls:=[Blk b1 [.slice A2 a0_0.length c3,VI y2417.2,VI y3160] 67,Blk b11 [VI 0,.string (⟨#[]⟩:ByteArray),VI y9,.slice none ([]:List S24).length 0] 24,Blk b8 [VI 0,.string (⟨#[]⟩:ByteArray),VI 0,.slice none 0 0] 24,Row k24 24 (.slice none ([]:List S24).length 0) ([]:List S24)]) [1,2,3,0] 6 rfl rfl rfl⟩
def parse_parser_typ.fix:Nat → ((List S41) → Int → Int → Int → Option (S24 × Int × Int))
 | 0=>(fun _ _ _ _=>none)
 | n + 1=>parse_parser_typ.g (parse_parser_typ.fix n)
theorem parse_parser_typ.fixc:∀ k,(∀ {G:Gd} {r:(S24 × Int × Int)} {a0_0:(List S41)} {a0_1:Int} {a0_2:Int} {a1:Int} {b1:Nat} {A2:Option Addr} {c3:Nat} (hr4:Rd G k41 A2 a0_0) (hl5:a0_0.length ≤ c3),(parse_parser_typ.fix k) a0_0 a0_1 a0_2 a1=some r → Fn Try.prog 48 G [Blk b1 [.slice A2 a0_0.length c3,VI a0_1,VI a0_2] 67] [VP b1 0,VI a1] (parse_parser_typ.post G b1 A2 c3 a0_0 a0_1 a0_2 a1 r))∧True
 | 0=>⟨(by intros; contradiction),trivial⟩
 | k + 1=>by
  have ih:=parse_parser_typ.fixc k
  exact ⟨(by
   intro G r a0_0 a0_1 a0_2 a1 b1 A2 c3 hr4 hl5 h
   exact parse_parser_typ.step _ ih.1 hr4 hl5 h),trivial⟩
def parse_parser_typ.f (a0_0:(List S41)) (a0_1:Int) (a0_2:Int) (a1:Int):Option (S24 × Int × Int):=(parse_parser_typ.fix 100000) a0_0 a0_1 a0_2 a1
theorem parse_parser_typ.calls {G:Gd} {r:(S24 × Int × Int)} {a0_0:(List S41)} {a0_1:Int} {a0_2:Int} {a1:Int} {b1:Nat} {A2:Option Addr} {c3:Nat} (hr4:Rd G k41 A2 a0_0) (hl5:a0_0.length ≤ c3) (h:parse_parser_typ.f a0_0 a0_1 a0_2 a1=some r):Fn Try.prog 48 G [Blk b1 [.slice A2 a0_0.length c3,VI a0_1,VI a0_2] 67] [VP b1 0,VI a1] (parse_parser_typ.post G b1 A2 c3 a0_0 a0_1 a0_2 a1 r):=(parse_parser_typ.fixc 100000).1 hr4 hl5 h
def parse_parser_param.f (a0_0:(List S41)) (a0_1:Int) (a0_2:Int):Option (S24 × Int × Int):=(parse_parser_start.f a0_0 a0_1 a0_2).bind fun (y7:Int)=>(parse_parser_text.f a0_0 a0_1 a0_2 1).bind fun (y9:(ByteArray × Int × Int))=>(parse_parser_typ.f a0_0 y9.2.1 y9.2.2 1).bind fun (y12:(S24 × Int × Int))=>some ((⟨3,y9.1,y7,([y12.1]:List S24)⟩:S24),y12.2.1,y12.2.2)
def parse_parser_param.post (G:Gd) (b1:Nat) (A2:Option Addr) (c3:Nat) (a0_0:(List S41)) (a0_1:Int) (a0_2:Int) (r:(S24 × Int × Int)) (v:Value) (G':Gd) (Lr:List Ch):Prop:=G=G'∧∃ (A_1:Option Addr) (c_1:Nat),v=.agg #[VI r.1.f0,.string r.1.f1,VI r.1.f2,.slice A_1 r.1.f3.length c_1]∧Lr=[Blk b1 [.slice A2 a0_0.length c3,VI r.2.1,VI r.2.2] 67,Row k24 24 (.slice A_1 r.1.f3.length c_1) r.1.f3]
theorem parse_parser_param.calls {G:Gd} {r:(S24 × Int × Int)} {a0_0:(List S41)} {a0_1:Int} {a0_2:Int} {b1:Nat} {A2:Option Addr} {c3:Nat} (hr4:Rd G k41 A2 a0_0) (hl5:a0_0.length ≤ c3) (h:parse_parser_param.f a0_0 a0_1 a0_2=some r):Fn Try.prog 47 G [Blk b1 [.slice A2 a0_0.length c3,VI a0_1,VI a0_2] 67] [VP b1 0] (parse_parser_param.post G b1 A2 c3 a0_0 a0_1 a0_2 r):=by
 refine Fn.intro (e:=[(0,VP b1 0)]) 14 Try.func47 rfl Try.ntmps47 rfl rfl (Nat.le_of_ble_eq_true rfl) (fun L=>?_)
 unfold parse_parser_param.f at h
 refine TC.seq ?_
 refine TC.region ?_
 refine TL.cons (TL.alloc (cs:=[VI 0,.string (⟨#[]⟩:ByteArray),VI 0,.slice none 0 0]) rfl rfl zr24 rfl (fun b6=>?_))
 refine TL.nil ?_
 refine TQ.then_ ?_
 refine TC.seq ?_
 refine TC.region ?_
 refine TV rfl rfl rfl (Val.move rfl) ?_
 refine TK.sel (Ls:=[Blk b1 [.slice A2 a0_0.length c3,VI a0_1,VI a0_2] 67,Blk b6 [VI 0,.string (⟨#[]⟩:ByteArray),VI 0,.slice none 0 0] 24]) [1,0] 2 rfl rfl rfl ?_
 obtain ⟨y7,hy8,h⟩:=bind_no h
 refine TL.cons (TL.callV (Lin:=[Blk b1 [.slice A2 a0_0.length c3,VI a0_1,VI a0_2] 67]) (args:=[VP b1 0]) rfl rfl rfl hbd29 rfl rfl (parse_parser_start.calls (a0_0:=a0_0) (a0_1:=a0_1) (a0_2:=a0_2) hr4 hl5 hy8) rfl ?_)
 rintro _ _ _ _ ⟨rfl,rfl,rfl⟩
 refine TV rfl rfl rfl (Val.move rfl) ?_
 obtain ⟨y9,hy10,h⟩:=bind_no h
 refine TL.cons (TL.callV (Lin:=[Blk b1 [.slice A2 a0_0.length c3,VI a0_1,VI a0_2] 67]) (args:=[VP b1 0,VI 1]) rfl rfl rfl hbd44 rfl rfl (parse_parser_text.calls (a0_0:=a0_0) (a0_1:=a0_1) (a0_2:=a0_2) (a1:=1) hr4 hl5 hy10) rfl ?_)
 rintro _ _ _ _ ⟨rfl,rfl,rfl⟩
 refine TV rfl rfl rfl (Val.build (cs:=[VI 3,.string y9.1,VI y7,.slice none 0 0]) (is:=[0,2,1]) (xs:=[.const (VI 3),.tmp 5,.tmp 7]) Try.underlying24 zr24 bld24 rfl rfl rfl rfl) ?_
 refine TL.cons (TL.alloc (cs:=[VI 0,.string (⟨#[]⟩:ByteArray),VI 0,.slice none 0 0]) rfl rfl zr24 rfl (fun b11=>?_))
 refine TL.cons (TL.store 0 (ds:=[VI 3,.string y9.1,VI y7,.slice none 0 0]) (cs':=[VI 3,.string y9.1,VI y7,.slice none 0 0]) (L':=(Blk b11 [VI 3,.string y9.1,VI y7,.slice none 0 0] 24::Blk b1 [.slice A2 a0_0.length c3,VI y9.2.1,VI y9.2.2] 67::Blk b6 [VI 0,.string (⟨#[]⟩:ByteArray),VI 0,.slice none 0 0] 24::L)) rfl fsz24 rfl rfl rfl rfl rfl (Nat.le_of_ble_eq_true rfl) rfl rfl ?_)
 refine TL.nil ?_
 refine TQ.then_ ?_
 refine TC.seq ?_
 refine TC.region ?_
 refine TV rfl rfl rfl (Val.move rfl) ?_
 refine TK.sel (Ls:=[Blk b1 [.slice A2 a0_0.length c3,VI y9.2.1,VI y9.2.2] 67,Blk b11 [VI 3,.string y9.1,VI y7,.slice none 0 0] 24,Blk b6 [VI 0,.string (⟨#[]⟩:ByteArray),VI 0,.slice none 0 0] 24]) [1,0,2] 3 rfl rfl rfl ?_
 obtain ⟨y12,hy13,h⟩:=bind_no h
 refine TL.cons (TL.callV (Lin:=[Blk b1 [.slice A2 a0_0.length c3,VI y9.2.1,VI y9.2.2] 67]) (args:=[VP b1 0,VI 1]) rfl rfl rfl hbd48 rfl rfl (parse_parser_typ.calls (a0_0:=a0_0) (a0_1:=y9.2.1) (a0_2:=y9.2.2) (a1:=1) hr4 hl5 hy13) rfl ?_)
 rintro _ _ _ _ ⟨rfl,A14,c15,rfl,rfl⟩
 refine TL.cons (TL.buildSlice (xs:=[.tmp 10]) (vs:=[.agg #[VI y12.1.f0,.string y12.1.f1,VI y12.1.f2,.slice A14 y12.1.f3.length c15]]) (cs:=[VI y12.1.f0,.string y12.1.f1,VI y12.1.f2,.slice A14 y12.1.f3.length c15]) rfl rfl Try.underlying22 zs24 rfl rfl rfl rfl rfl rfl rfl rfl (fun b17=>?_))
 refine TV rfl rfl rfl (Val.fieldAddrB Try.underlying24 rfl fsz22 rfl rfl rfl) ?_
 refine TL.cons (TL.store 3 (ds:=[.slice (some ⟨b17,0,none⟩) 1 1]) (cs':=[VI 3,.string y9.1,VI y7,.slice (some ⟨b17,0,none⟩) 1 1]) (L':=(Blk b17 [VI y12.1.f0,.string y12.1.f1,VI y12.1.f2,.slice A14 y12.1.f3.length c15] 24::Blk b1 [.slice A2 a0_0.length c3,VI y12.2.1,VI y12.2.2] 67::Row k24 24 (.slice A14 y12.1.f3.length c15) y12.1.f3::Blk b11 [VI 3,.string y9.1,VI y7,.slice (some ⟨b17,0,none⟩) 1 1] 24::Blk b6 [VI 0,.string (⟨#[]⟩:ByteArray),VI 0,.slice none 0 0] 24::L)) rfl fsz22 rfl rfl rfl rfl rfl (Nat.le_of_ble_eq_true rfl) rfl rfl ?_)
 refine TL.nil ?_
 refine TQ.then_ ?_
 refine TC.seq ?_
 refine TC.region ?_
 refine TV rfl rfl rfl (Val.loadsB 3 (cs:=[VI 3,.string y9.1,VI y7,.slice (some ⟨b17,0,none⟩) 1 1]) agg24 fsz24 rfl rfl rfl rfl) ?_
 refine TL.cons (TL.store 4 (ds:=[VI 3,.string y9.1,VI y7,.slice (some ⟨b17,0,none⟩) 1 1]) (cs':=[VI 3,.string y9.1,VI y7,.slice (some ⟨b17,0,none⟩) 1 1]) (L':=(Blk b17 [VI y12.1.f0,.string y12.1.f1,VI y12.1.f2,.slice A14 y12.1.f3.length c15] 24::Blk b1 [.slice A2 a0_0.length c3,VI y12.2.1,VI y12.2.2] 67::Row k24 24 (.slice A14 y12.1.f3.length c15) y12.1.f3::Blk b11 [VI 3,.string y9.1,VI y7,.slice (some ⟨b17,0,none⟩) 1 1] 24::Blk b6 [VI 3,.string y9.1,VI y7,.slice (some ⟨b17,0,none⟩) 1 1] 24::L)) rfl fsz24 rfl rfl rfl rfl rfl (Nat.le_of_ble_eq_true rfl) rfl rfl ?_)
 refine TL.nil ?_
 refine TQ.then_ ?_
 refine TC.ret ?_
 refine TQ.new (Els.nil k24) ?_
 refine TQ.sel (Ls:=[Row k24 24 (.slice A14 y12.1.f3.length c15) y12.1.f3,Els k24 [] [],Blk b17 [VI y12.1.f0,.string y12.1.f1,VI y12.1.f2,.slice A14 y12.1.f3.length c15] 24,Blk b1 [.slice A2 a0_0.length c3,VI y12.2.1,VI y12.2.2] 67,Blk b11 [VI 3,.string y9.1,VI y7,.slice (some ⟨b17,0,none⟩) 1 1] 24,Blk b6 [VI 3,.string y9.1,VI y7,.slice (some ⟨b17,0,none⟩) 1 1] 24]) [3,0,1,2,4,5] 6 rfl rfl rfl ?_
 refine TQ.conv (ch':=El k24 y12.1 [VI y12.1.f0,.string y12.1.f1,VI y12.1.f2,.slice A14 y12.1.f3.length c15]) (fun B W F hh=>k24_mkM W B F y12.1 hh) ?_
 refine TQ.sel (Ls:=[Els k24 [] [],El k24 y12.1 [VI y12.1.f0,.string y12.1.f1,VI y12.1.f2,.slice A14 y12.1.f3.length c15],Blk b17 [VI y12.1.f0,.string y12.1.f1,VI y12.1.f2,.slice A14 y12.1.f3.length c15] 24,Blk b1 [.slice A2 a0_0.length c3,VI y12.2.1,VI y12.2.2] 67,Blk b11 [VI 3,.string y9.1,VI y7,.slice (some ⟨b17,0,none⟩) 1 1] 24,Blk b6 [VI 3,.string y9.1,VI y7,.slice (some ⟨b17,0,none⟩) 1 1] 24]) [1,0,2,3,4,5] 6 rfl rfl rfl ?_
 refine TQ.two (ch:=Els k24 [y12.1] [VI y12.1.f0,.string y12.1.f1,VI y12.1.f2,.slice A14 y12.1.f3.length c15]) (Els.snoc k24) ?_
 refine TQ.sel (Ls:=[Blk b17 [VI y12.1.f0,.string y12.1.f1,VI y12.1.f2,.slice A14 y12.1.f3.length c15] 24,Els k24 [y12.1] [VI y12.1.f0,.string y12.1.f1,VI y12.1.f2,.slice A14 y12.1.f3.length c15],Blk b1 [.slice A2 a0_0.length c3,VI y12.2.1,VI y12.2.2] 67,Blk b11 [VI 3,.string y9.1,VI y7,.slice (some ⟨b17,0,none⟩) 1 1] 24,Blk b6 [VI 3,.string y9.1,VI y7,.slice (some ⟨b17,0,none⟩) 1 1] 24]) [1,0,2,3,4] 5 rfl rfl rfl ?_
 refine TQ.two (ch:=Row k24 24 (.slice (some ⟨b17,0,none⟩) 1 1) ([y12.1]:List S24)) (Row.lit k24 rfl rfl) ?_
 obtain rfl:=Option.some.inj h
 exact TQ.fin (.inl rfl) rfl Try.results47 (.cells 3 rfl rfl agg24 fsz24 .nil) rfl (FRel.mk (Ls:=[Blk b1 [.slice A2 a0_0.length c3,VI y12.2.1,VI y12.2.2] 67,Row k24 24 (.slice (some ⟨b17,0,none⟩) 1 1) ([y12.1]:List S24)]) [1,0] 4 (Gd.le.refl _) rfl rfl rfl ⟨rfl,(some ⟨b17,0,none⟩),1,rfl,rfl⟩)
end Go.Proofs.Ythlhmoocgjddpaa.Sy
set_option linter.unusedVariables false
set_option linter.unusedSimpArgs false
namespace Go.Proofs.Ythlhmoocgjddpaa.Sy
open Go Go.RowKit Go.Proofs.YthlhmoocgjddpaaW.PrintWords
set_option hygiene false in macro "gvd" : tactic => `(tactic| dsimp only [Bool.not_true, Bool.not_false])
set_option hygiene false in macro "gvi" : tactic => `(tactic| simp only [Bool.not_true, Bool.not_false, Bool.false_eq_true, reduceCtorEq, if_true, if_false, reduceIte])
set_option hygiene false in macro "gvt" : tactic => `(tactic| refine Gv.take (by decide) ‹Ag _ _ _ _› (by omega) (by omega) (fun hz hpl q hq => ?_) ?_)
set_option hygiene false in macro "gvm" : tactic => `(tactic| refine Gv.must (by decide) ‹Ag _ _ _ _› (by omega) (by omega) (fun hz hpl q hq => ?_) (fun e' he' hee' => ?_))
set_option hygiene false in macro "gvx" : tactic => `(tactic| refine Gv.text (by decide) ‹Ag _ _ _ _› (by omega) (by omega) (fun hfr hz hpl q t hq => ?_) (fun hfr e' he' hee' => ?_))
set_option hygiene false in macro "gvs" : tactic => `(tactic| refine Gv.start ‹Ag _ _ _ _› (by omega) (by omega) (fun v => ?_))
set_option hygiene false in macro "gvy" : tactic => `(tactic| refine Gv.may (by omega) (fun hd1 he => ?_) (fun e' he' hee' => ?_))
set_option hygiene false in macro "gvf" : tactic => `(tactic| refine Gv.fixed ‹Ag _ _ _ _› (by omega) (by omega) (fun s hs hs' => ?_))
set_option hygiene false in macro "gvw" : tactic => `(tactic| refine Gv.wrong (by decide) (fun e' he' hee' => ?_))
section
variable {l l' : List S41} {o : Int} {T : Prop}
abbrev P4 := List S41 → Int → Int → Int → Option (S24 × Int × Int)
end
end Go.Proofs.Ythlhmoocgjddpaa.Sy
set_option linter.unusedVariables false
set_option linter.unusedSimpArgs false
set_option maxRecDepth 100000
set_option maxHeartbeats 4000000
namespace Go.Proofs.Ythlhmoocgjddpaa.Sy
open Go Go.RowKit Go.Proofs.YthlhmoocgjddpaaW.PrintWords 
def parse_parser_expr.post (G:Gd) (b1:Nat) (A2:Option Addr) (c3:Nat) (a0_0:(List S41)) (a0_1:Int) (a0_2:Int) (a1:Int) (r:(S24 × Int × Int)) (v:Value) (G':Gd) (Lr:List Ch):Prop:=G=G'∧∃ (A_1:Option Addr) (c_1:Nat),v=.agg #[VI r.1.f0,.string r.1.f1,VI r.1.f2,.slice A_1 r.1.f3.length c_1]∧Lr=[Blk b1 [.slice A2 a0_0.length c3,VI r.2.1,VI r.2.2] 67,Row k24 24 (.slice A_1 r.1.f3.length c_1) r.1.f3]
def parse_parser_climb.post (G:Gd) (b1:Nat) (A2:Option Addr) (c3:Nat) (a0_0:(List S41)) (a0_1:Int) (a0_2:Int) (a1:Int) (a2:Int) (r:(S24 × Int × Int)) (v:Value) (G':Gd) (Lr:List Ch):Prop:=G=G'∧∃ (A_1:Option Addr) (c_1:Nat),v=.agg #[VI r.1.f0,.string r.1.f1,VI r.1.f2,.slice A_1 r.1.f3.length c_1]∧Lr=[Blk b1 [.slice A2 a0_0.length c3,VI r.2.1,VI r.2.2] 67,Row k24 24 (.slice A_1 r.1.f3.length c_1) r.1.f3]
def parse_parser_operand.post (G:Gd) (b1:Nat) (A2:Option Addr) (c3:Nat) (a0_0:(List S41)) (a0_1:Int) (a0_2:Int) (a1:Int) (r:(S24 × Int × Int)) (v:Value) (G':Gd) (Lr:List Ch):Prop:=G=G'∧∃ (A_1:Option Addr) (c_1:Nat),v=.agg #[VI r.1.f0,.string r.1.f1,VI r.1.f2,.slice A_1 r.1.f3.length c_1]∧Lr=[Blk b1 [.slice A2 a0_0.length c3,VI r.2.1,VI r.2.2] 67,Row k24 24 (.slice A_1 r.1.f3.length c_1) r.1.f3]
def parse_parser_primary.post (G:Gd) (b1:Nat) (A2:Option Addr) (c3:Nat) (a0_0:(List S41)) (a0_1:Int) (a0_2:Int) (a1:Int) (r:(S24 × Int × Int)) (v:Value) (G':Gd) (Lr:List Ch):Prop:=G=G'∧∃ (A_1:Option Addr) (c_1:Nat),v=.agg #[VI r.1.f0,.string r.1.f1,VI r.1.f2,.slice A_1 r.1.f3.length c_1]∧Lr=[Blk b1 [.slice A2 a0_0.length c3,VI r.2.1,VI r.2.2] 67,Row k24 24 (.slice A_1 r.1.f3.length c_1) r.1.f3]
def parse_parser_name.post (G:Gd) (b1:Nat) (A2:Option Addr) (c3:Nat) (a0_0:(List S41)) (a0_1:Int) (a0_2:Int) (a1:Int) (r:(S24 × Int × Int)) (v:Value) (G':Gd) (Lr:List Ch):Prop:=G=G'∧∃ (A_1:Option Addr) (c_1:Nat),v=.agg #[VI r.1.f0,.string r.1.f1,VI r.1.f2,.slice A_1 r.1.f3.length c_1]∧Lr=[Blk b1 [.slice A2 a0_0.length c3,VI r.2.1,VI r.2.2] 67,Row k24 24 (.slice A_1 r.1.f3.length c_1) r.1.f3]
def parse_parser_expr.g (rec72:((List S41) → Int → Int → Int → Option (S24 × Int × Int))) (rec74:((List S41) → Int → Int → Int → Int → Option (S24 × Int × Int))) (rec75:((List S41) → Int → Int → Int → Option (S24 × Int × Int))) (rec78:((List S41) → Int → Int → Int → Option (S24 × Int × Int))) (rec79:((List S41) → Int → Int → Int → Option (S24 × Int × Int))) (a0_0:(List S41)) (a0_1:Int) (a0_2:Int) (a1:Int):Option (S24 × Int × Int):=(parse_parser_may.f a0_0 a0_1 a0_2 a1).bind fun (y7:(Bool × Int))=>(if (!y7.1)=true then some ((⟨0,(⟨#[]⟩:ByteArray),0,([]:List S24)⟩:S24),a0_1,y7.2) else (rec74 a0_0 a0_1 y7.2 1 a1).bind fun (y12:(S24 × Int × Int))=>some (y12.1,y12.2.1,y12.2.2))
theorem parse_parser_expr.step (rec72:((List S41) → Int → Int → Int → Option (S24 × Int × Int))) (rec74:((List S41) → Int → Int → Int → Int → Option (S24 × Int × Int))) (rec75:((List S41) → Int → Int → Int → Option (S24 × Int × Int))) (rec78:((List S41) → Int → Int → Int → Option (S24 × Int × Int))) (rec79:((List S41) → Int → Int → Int → Option (S24 × Int × Int))) (ih72:∀ {G:Gd} {r:(S24 × Int × Int)} {a0_0:(List S41)} {a0_1:Int} {a0_2:Int} {a1:Int} {b1:Nat} {A2:Option Addr} {c3:Nat} (hr4:Rd G k41 A2 a0_0) (hl5:a0_0.length ≤ c3),rec72 a0_0 a0_1 a0_2 a1=some r → Fn Try.prog 72 G [Blk b1 [.slice A2 a0_0.length c3,VI a0_1,VI a0_2] 67] [VP b1 0,VI a1] (parse_parser_expr.post G b1 A2 c3 a0_0 a0_1 a0_2 a1 r)) (ih74:∀ {G:Gd} {r:(S24 × Int × Int)} {a0_0:(List S41)} {a0_1:Int} {a0_2:Int} {a1:Int} {a2:Int} {b1:Nat} {A2:Option Addr} {c3:Nat} (hr4:Rd G k41 A2 a0_0) (hl5:a0_0.length ≤ c3),rec74 a0_0 a0_1 a0_2 a1 a2=some r → Fn Try.prog 74 G [Blk b1 [.slice A2 a0_0.length c3,VI a0_1,VI a0_2] 67] [VP b1 0,VI a1,VI a2] (parse_parser_climb.post G b1 A2 c3 a0_0 a0_1 a0_2 a1 a2 r)) (ih75:∀ {G:Gd} {r:(S24 × Int × Int)} {a0_0:(List S41)} {a0_1:Int} {a0_2:Int} {a1:Int} {b1:Nat} {A2:Option Addr} {c3:Nat} (hr4:Rd G k41 A2 a0_0) (hl5:a0_0.length ≤ c3),rec75 a0_0 a0_1 a0_2 a1=some r → Fn Try.prog 75 G [Blk b1 [.slice A2 a0_0.length c3,VI a0_1,VI a0_2] 67] [VP b1 0,VI a1] (parse_parser_operand.post G b1 A2 c3 a0_0 a0_1 a0_2 a1 r)) (ih78:∀ {G:Gd} {r:(S24 × Int × Int)} {a0_0:(List S41)} {a0_1:Int} {a0_2:Int} {a1:Int} {b1:Nat} {A2:Option Addr} {c3:Nat} (hr4:Rd G k41 A2 a0_0) (hl5:a0_0.length ≤ c3),rec78 a0_0 a0_1 a0_2 a1=some r → Fn Try.prog 78 G [Blk b1 [.slice A2 a0_0.length c3,VI a0_1,VI a0_2] 67] [VP b1 0,VI a1] (parse_parser_primary.post G b1 A2 c3 a0_0 a0_1 a0_2 a1 r)) (ih79:∀ {G:Gd} {r:(S24 × Int × Int)} {a0_0:(List S41)} {a0_1:Int} {a0_2:Int} {a1:Int} {b1:Nat} {A2:Option Addr} {c3:Nat} (hr4:Rd G k41 A2 a0_0) (hl5:a0_0.length ≤ c3),rec79 a0_0 a0_1 a0_2 a1=some r → Fn Try.prog 79 G [Blk b1 [.slice A2 a0_0.length c3,VI a0_1,VI a0_2] 67] [VP b1 0,VI a1] (parse_parser_name.post G b1 A2 c3 a0_0 a0_1 a0_2 a1 r)) {G:Gd} {r:(S24 × Int × Int)} {a0_0:(List S41)} {a0_1:Int} {a0_2:Int} {a1:Int} {b1:Nat} {A2:Option Addr} {c3:Nat} (hr4:Rd G k41 A2 a0_0) (hl5:a0_0.length ≤ c3) (h:parse_parser_expr.g rec72 rec74 rec75 rec78 rec79 a0_0 a0_1 a0_2 a1=some r):Fn Try.prog 72 G [Blk b1 [.slice A2 a0_0.length c3,VI a0_1,VI a0_2] 67] [VP b1 0,VI a1] (parse_parser_expr.post G b1 A2 c3 a0_0 a0_1 a0_2 a1 r):=by
 refine Fn.intro (e:=[(0,VP b1 0),(1,VI a1)]) 13 Try.func72 rfl Try.ntmps72 rfl rfl (Nat.le_of_ble_eq_true rfl) (fun L=>?_)
 unfold parse_parser_expr.g at h
 refine TC.seq ?_
 refine TC.region ?_
 refine TL.cons (TL.alloc (cs:=[VI 0,.string (⟨#[]⟩:ByteArray),VI 0,.slice none 0 0]) rfl rfl zr24 rfl (fun b6=>?_))
 refine TL.nil ?_
 refine TQ.then_ ?_
 refine TC.seq ?_
 refine TC.seq ?_
 refine TC.region ?_
 refine TV rfl rfl rfl (Val.move rfl) ?_
 refine TV rfl rfl rfl (Val.move rfl) ?_
 refine TK.sel (Ls:=[Blk b1 [.slice A2 a0_0.length c3,VI a0_1,VI a0_2] 67,Blk b6 [VI 0,.string (⟨#[]⟩:ByteArray),VI 0,.slice none 0 0] 24]) [1,0] 2 rfl rfl rfl ?_
 obtain ⟨y7,hy8,h⟩:=bind_no h
 refine TL.cons (TL.callV (Lin:=[Blk b1 [.slice A2 a0_0.length c3,VI a0_1,VI a0_2] 67]) (args:=[VP b1 0,VI a1]) rfl rfl rfl hbd66 rfl rfl (parse_parser_may.calls (a0_0:=a0_0) (a0_1:=a0_1) (a0_2:=a0_2) (a1:=a1) hr4 hl5 hy8) rfl ?_)
 rintro _ _ _ _ ⟨rfl,rfl,rfl⟩
 refine TV rfl rfl rfl (Val.not_ rfl) ?_
 refine TL.nil ?_
 refine TQ.then_ ?_
 refine TC.cond_b rfl h (fun hc10 h=>?_) (fun hc10 h=>?_)
 ·
  refine TC.seq ?_
  refine TC.region ?_
  refine TV rfl rfl rfl (Val.build (cs:=[VI 0,.string (⟨#[]⟩:ByteArray),VI 0,.slice none 0 0]) (is:=[]) (xs:=[]) Try.underlying24 zr24 bld24 rfl rfl rfl rfl) ?_
  refine TL.cons (TL.store 1 (ds:=[VI 0,.string (⟨#[]⟩:ByteArray),VI 0,.slice none 0 0]) (cs':=[VI 0,.string (⟨#[]⟩:ByteArray),VI 0,.slice none 0 0]) (L':=(Blk b1 [.slice A2 a0_0.length c3,VI a0_1,VI y7.2] 67::Blk b6 [VI 0,.string (⟨#[]⟩:ByteArray),VI 0,.slice none 0 0] 24::L)) rfl fsz24 rfl rfl rfl rfl rfl (Nat.le_of_ble_eq_true rfl) rfl rfl ?_)
  refine TL.nil ?_
  refine TQ.then_ ?_
  refine TC.ret ?_
  refine TQ.thenR ?_
  refine TQ.nilRow k24 24 ?_
  obtain rfl:=Option.some.inj h
  exact TQ.fin (.inl rfl) rfl Try.results72 (.cells 2 rfl rfl agg24 fsz24 .nil) rfl (FRel.mk (Ls:=[Blk b1 [.slice A2 a0_0.length c3,VI a0_1,VI y7.2] 67,Row k24 24 (.slice none 0 0) ([]:List S24)]) [1,0] 3 (Gd.le.refl _) rfl rfl rfl ⟨rfl,none,0,rfl,rfl⟩)
 ·
  refine TC.skip ?_
  refine TQ.then_ ?_
  refine TC.seq ?_
  refine TC.region ?_
  refine TV rfl rfl rfl (Val.move rfl) ?_
  refine TV rfl rfl rfl (Val.move rfl) ?_
  obtain ⟨y12,hy13,h⟩:=bind_no h
  refine TL.cons (TL.callV (Lin:=[Blk b1 [.slice A2 a0_0.length c3,VI a0_1,VI y7.2] 67]) (args:=[VP b1 0,VI 1,VI a1]) rfl rfl rfl hbd74 rfl rfl (ih74 (a0_0:=a0_0) (a0_1:=a0_1) (a0_2:=y7.2) (a1:=1) (a2:=a1) hr4 hl5 hy13) rfl ?_)
  rintro _ _ _ _ ⟨rfl,A14,c15,rfl,rfl⟩
  refine TL.cons (TL.store 2 (ds:=[VI y12.1.f0,.string y12.1.f1,VI y12.1.f2,.slice A14 y12.1.f3.length c15]) (cs':=[VI y12.1.f0,.string y12.1.f1,VI y12.1.f2,.slice A14 y12.1.f3.length c15]) (L':=(Blk b1 [.slice A2 a0_0.length c3,VI y12.2.1,VI y12.2.2] 67::Row k24 24 (.slice A14 y12.1.f3.length c15) y12.1.f3::Blk b6 [VI y12.1.f0,.string y12.1.f1,VI y12.1.f2,.slice A14 y12.1.f3.length c15] 24::L)) rfl fsz24 rfl rfl rfl rfl rfl (Nat.le_of_ble_eq_true rfl) rfl rfl ?_)
  refine TL.nil ?_
  refine TQ.then_ ?_
  refine TC.ret ?_
  obtain rfl:=Option.some.inj h
  exact TQ.fin (.inl rfl) rfl Try.results72 (.cells 2 rfl rfl agg24 fsz24 .nil) rfl (FRel.mk (Ls:=[Blk b1 [.slice A2 a0_0.length c3,VI y12.2.1,VI y12.2.2] 67,Row k24 24 (.slice A14 y12.1.f3.length c15) y12.1.f3]) [0,1] 3 (Gd.le.refl _) rfl rfl rfl ⟨rfl,A14,c15,rfl,rfl⟩)
def parse_parser_climb.l0 (rec74:((List S41) → Int → Int → Int → Int → Option (S24 × Int × Int))) (a0_0:(List S41)) (a1:Int) (a2:Int) (y7:(S24 × Int × Int)):Nat → Int → Int → Int → ByteArray → (List S24) → Option (S24 × Int × Int)
 | 0,_,_,_,_,_=>none
 | n198 + 1,x147,x148,x149,x150,l151=>(parse_parser_fixed.f a0_0 x147 x148).bind fun (y262:ByteArray)=>(parse_strength.f y262).bind fun (y264:Int)=>jn (γ:=(S24 × Int × Int)) (fun (x269:Bool)=>(if x269=true then some ((⟨x149,x150,y7.1.f2,l151⟩:S24),x147,x148) else (rec74 a0_0 (IntKind.i64.wrap (x147 + 1)) x148 (IntKind.i64.wrap (y264 + 1)) a2).bind fun (y273:(S24 × Int × Int))=>parse_parser_climb.l0 rec74 a0_0 a1 a2 y7 n198 y273.2.1 y273.2.2 19 y262 ([(⟨x149,x150,y7.1.f2,l151⟩:S24),y273.1]:List S24))) (fun (j270:(Bool → Option (S24 × Int × Int)))=>(if y264=0 then j270 true else j270 (decide (y264 < a1))))
def parse_parser_climb.g (rec72:((List S41) → Int → Int → Int → Option (S24 × Int × Int))) (rec74:((List S41) → Int → Int → Int → Int → Option (S24 × Int × Int))) (rec75:((List S41) → Int → Int → Int → Option (S24 × Int × Int))) (rec78:((List S41) → Int → Int → Int → Option (S24 × Int × Int))) (rec79:((List S41) → Int → Int → Int → Option (S24 × Int × Int))) (a0_0:(List S41)) (a0_1:Int) (a0_2:Int) (a1:Int) (a2:Int):Option (S24 × Int × Int):=(rec75 a0_0 a0_1 a0_2 a2).bind fun (y7:(S24 × Int × Int))=>(parse_parser_climb.l0 rec74 a0_0 a1 a2 y7 100000 y7.2.1 y7.2.2 y7.1.f0 y7.1.f1 y7.1.f3).bind fun q_=>some q_
theorem parse_parser_climb.step (rec72:((List S41) → Int → Int → Int → Option (S24 × Int × Int))) (rec74:((List S41) → Int → Int → Int → Int → Option (S24 × Int × Int))) (rec75:((List S41) → Int → Int → Int → Option (S24 × Int × Int))) (rec78:((List S41) → Int → Int → Int → Option (S24 × Int × Int))) (rec79:((List S41) → Int → Int → Int → Option (S24 × Int × Int))) (ih72:∀ {G:Gd} {r:(S24 × Int × Int)} {a0_0:(List S41)} {a0_1:Int} {a0_2:Int} {a1:Int} {b1:Nat} {A2:Option Addr} {c3:Nat} (hr4:Rd G k41 A2 a0_0) (hl5:a0_0.length ≤ c3),rec72 a0_0 a0_1 a0_2 a1=some r → Fn Try.prog 72 G [Blk b1 [.slice A2 a0_0.length c3,VI a0_1,VI a0_2] 67] [VP b1 0,VI a1] (parse_parser_expr.post G b1 A2 c3 a0_0 a0_1 a0_2 a1 r)) (ih74:∀ {G:Gd} {r:(S24 × Int × Int)} {a0_0:(List S41)} {a0_1:Int} {a0_2:Int} {a1:Int} {a2:Int} {b1:Nat} {A2:Option Addr} {c3:Nat} (hr4:Rd G k41 A2 a0_0) (hl5:a0_0.length ≤ c3),rec74 a0_0 a0_1 a0_2 a1 a2=some r → Fn Try.prog 74 G [Blk b1 [.slice A2 a0_0.length c3,VI a0_1,VI a0_2] 67] [VP b1 0,VI a1,VI a2] (parse_parser_climb.post G b1 A2 c3 a0_0 a0_1 a0_2 a1 a2 r)) (ih75:∀ {G:Gd} {r:(S24 × Int × Int)} {a0_0:(List S41)} {a0_1:Int} {a0_2:Int} {a1:Int} {b1:Nat} {A2:Option Addr} {c3:Nat} (hr4:Rd G k41 A2 a0_0) (hl5:a0_0.length ≤ c3),rec75 a0_0 a0_1 a0_2 a1=some r → Fn Try.prog 75 G [Blk b1 [.slice A2 a0_0.length c3,VI a0_1,VI a0_2] 67] [VP b1 0,VI a1] (parse_parser_operand.post G b1 A2 c3 a0_0 a0_1 a0_2 a1 r)) (ih78:∀ {G:Gd} {r:(S24 × Int × Int)} {a0_0:(List S41)} {a0_1:Int} {a0_2:Int} {a1:Int} {b1:Nat} {A2:Option Addr} {c3:Nat} (hr4:Rd G k41 A2 a0_0) (hl5:a0_0.length ≤ c3),rec78 a0_0 a0_1 a0_2 a1=some r → Fn Try.prog 78 G [Blk b1 [.slice A2 a0_0.length c3,VI a0_1,VI a0_2] 67] [VP b1 0,VI a1] (parse_parser_primary.post G b1 A2 c3 a0_0 a0_1 a0_2 a1 r)) (ih79:∀ {G:Gd} {r:(S24 × Int × Int)} {a0_0:(List S41)} {a0_1:Int} {a0_2:Int} {a1:Int} {b1:Nat} {A2:Option Addr} {c3:Nat} (hr4:Rd G k41 A2 a0_0) (hl5:a0_0.length ≤ c3),rec79 a0_0 a0_1 a0_2 a1=some r → Fn Try.prog 79 G [Blk b1 [.slice A2 a0_0.length c3,VI a0_1,VI a0_2] 67] [VP b1 0,VI a1] (parse_parser_name.post G b1 A2 c3 a0_0 a0_1 a0_2 a1 r)) {G:Gd} {r:(S24 × Int × Int)} {a0_0:(List S41)} {a0_1:Int} {a0_2:Int} {a1:Int} {a2:Int} {b1:Nat} {A2:Option Addr} {c3:Nat} (hr4:Rd G k41 A2 a0_0) (hl5:a0_0.length ≤ c3) (h:parse_parser_climb.g rec72 rec74 rec75 rec78 rec79 a0_0 a0_1 a0_2 a1 a2=some r):Fn Try.prog 74 G [Blk b1 [.slice A2 a0_0.length c3,VI a0_1,VI a0_2] 67] [VP b1 0,VI a1,VI a2] (parse_parser_climb.post G b1 A2 c3 a0_0 a0_1 a0_2 a1 a2 r):=by
 refine Fn.intro (e:=[(0,VP b1 0),(1,VI a1),(2,VI a2)]) 45 Try.func74 rfl Try.ntmps74 rfl rfl (Nat.le_of_ble_eq_true rfl) (fun L=>?_)
 unfold parse_parser_climb.g at h
 refine TC.seq ?_
 refine TC.region ?_
 refine TL.cons (TL.alloc (cs:=[VI 0,.string (⟨#[]⟩:ByteArray),VI 0,.slice none 0 0]) rfl rfl zr24 rfl (fun b6=>?_))
 refine TL.nil ?_
 refine TQ.then_ ?_
 refine TC.seq ?_
 refine TC.region ?_
 refine TV rfl rfl rfl (Val.move rfl) ?_
 refine TV rfl rfl rfl (Val.move rfl) ?_
 refine TK.sel (Ls:=[Blk b1 [.slice A2 a0_0.length c3,VI a0_1,VI a0_2] 67,Blk b6 [VI 0,.string (⟨#[]⟩:ByteArray),VI 0,.slice none 0 0] 24]) [1,0] 2 rfl rfl rfl ?_
 obtain ⟨y7,hy8,h⟩:=bind_no h
 refine TL.cons (TL.callV (Lin:=[Blk b1 [.slice A2 a0_0.length c3,VI a0_1,VI a0_2] 67]) (args:=[VP b1 0,VI a2]) rfl rfl rfl hbd75 rfl rfl (ih75 (a0_0:=a0_0) (a0_1:=a0_1) (a0_2:=a0_2) (a1:=a2) hr4 hl5 hy8) rfl ?_)
 rintro _ _ _ _ ⟨rfl,A9,c10,rfl,rfl⟩
 refine TL.cons (TL.alloc (cs:=[VI 0,.string (⟨#[]⟩:ByteArray),VI 0,.slice none 0 0]) rfl rfl zr24 rfl (fun b12=>?_))
 refine TL.cons (TL.store 0 (ds:=[VI y7.1.f0,.string y7.1.f1,VI y7.1.f2,.slice A9 y7.1.f3.length c10]) (cs':=[VI y7.1.f0,.string y7.1.f1,VI y7.1.f2,.slice A9 y7.1.f3.length c10]) (L':=(Blk b12 [VI y7.1.f0,.string y7.1.f1,VI y7.1.f2,.slice A9 y7.1.f3.length c10] 24::Blk b1 [.slice A2 a0_0.length c3,VI y7.2.1,VI y7.2.2] 67::Row k24 24 (.slice A9 y7.1.f3.length c10) y7.1.f3::Blk b6 [VI 0,.string (⟨#[]⟩:ByteArray),VI 0,.slice none 0 0] 24::L)) rfl fsz24 rfl rfl rfl rfl rfl (Nat.le_of_ble_eq_true rfl) rfl rfl ?_)
 refine TL.nil ?_
 refine TQ.then_ ?_
 obtain ⟨o197,ho197,ko197⟩:=bind_no h
 clear h
 refine TC.tail (fun a W=>False) (fun a W h=>h.elim) ?_
 ·
  refine TC.block ?_
  intro a W hF hO
  have hS:∃ (x147:Int) (x148:Int) (x149:Int) (x150:ByteArray) (l151:(List S24)) (A152:Option Addr) (c153:Nat),parse_parser_climb.l0 rec74 a0_0 a1 a2 y7 100000 x147 x148 x149 x150 l151=some o197∧Fr 45 a [(0,VP b1 0),(1,VI a1),(2,VI a2),(6,VP b6 0),(7,VP b12 0)]∧Own G (Blk b1 [.slice A2 a0_0.length c3,VI x147,VI x148] 67::Blk b12 [VI x149,.string x150,VI y7.1.f2,.slice A152 l151.length c153] 24::Blk b6 [VI 0,.string (⟨#[]⟩:ByteArray),VI 0,.slice none 0 0] 24::Row k24 24 (.slice A152 l151.length c153) l151::L) W:=by
   exact ⟨y7.2.1,y7.2.2,y7.1.f0,y7.1.f1,y7.1.f3,A9,c10,ho197,hF.sub ⟨rfl,rfl,rfl,rfl,rfl,trivial⟩,hO.selT (Ls:=[Blk b1 [.slice A2 a0_0.length c3,VI y7.2.1,VI y7.2.2] 67,Blk b12 [VI y7.1.f0,.string y7.1.f1,VI y7.1.f2,.slice A9 y7.1.f3.length c10] 24,Blk b6 [VI 0,.string (⟨#[]⟩:ByteArray),VI 0,.slice none 0 0] 24,Row k24 24 (.slice A9 y7.1.f3.length c10) y7.1.f3]) [1,0,3,2] 4 rfl rfl rfl⟩
  clear hF hO ho197
  refine TC.loop (fun n198 a W=>∃ (x147:Int) (x148:Int) (x149:Int) (x150:ByteArray) (l151:(List S24)) (A152:Option Addr) (c153:Nat),parse_parser_climb.l0 rec74 a0_0 a1 a2 y7 n198 x147 x148 x149 x150 l151=some o197∧Fr 45 a [(0,VP b1 0),(1,VI a1),(2,VI a2),(6,VP b6 0),(7,VP b12 0)]∧Own G (Blk b1 [.slice A2 a0_0.length c3,VI x147,VI x148] 67::Blk b12 [VI x149,.string x150,VI y7.1.f2,.slice A152 l151.length c153] 24::Blk b6 [VI 0,.string (⟨#[]⟩:ByteArray),VI 0,.slice none 0 0] 24::Row k24 24 (.slice A152 l151.length c153) l151::L) W) ?_ ?_ hS
  ·
   rintro a W ⟨x147,x148,x149,x150,l151,A152,c153,h,hF,hO⟩
   exact none_no h
  ·
   clear hS
   rintro n198 a W ⟨x147,x148,x149,x150,l151,A152,c153,h,hF,hO⟩
   rw [parse_parser_climb.l0] at h
   refine TC.use ?_ hF hO
   clear hF hO
   refine TC.block ?_
   refine TC.seq ?_
   refine TC.region ?_
   refine TV rfl rfl rfl (Val.move rfl) ?_
   obtain ⟨y262,hy263,h⟩:=bind_no h
   refine TL.cons (TL.callV (Lin:=[Blk b1 [.slice A2 a0_0.length c3,VI x147,VI x148] 67]) (args:=[VP b1 0]) rfl rfl rfl hbd45 rfl rfl (parse_parser_fixed.calls (a0_0:=a0_0) (a0_1:=x147) (a0_2:=x148) hr4 hl5 hy263) rfl ?_)
   rintro _ _ _ _ ⟨rfl,rfl,rfl⟩
   refine TV rfl rfl rfl (Val.assign rfl) ?_
   refine TL.nil ?_
   refine TQ.then_ ?_
   refine TC.seq ?_
   refine TC.region ?_
   refine TV rfl rfl rfl (Val.move rfl) ?_
   obtain ⟨y264,hy265,h⟩:=bind_no h
   refine TL.cons (TL.callV (Lin:=[]) (args:=[.string y262]) rfl rfl rfl hbd76 rfl rfl (parse_strength.calls (a0:=y262) hy265) rfl ?_)
   rintro _ _ _ _ ⟨rfl,rfl,rfl⟩
   refine TV rfl rfl rfl (Val.assign rfl) ?_
   refine TL.nil ?_
   refine TQ.then_ ?_
   refine TC.seq ?_
   refine TC.seq ?_
   obtain ⟨j270,hj270,h⟩:=jn_no h
   refine TC.tail (fun a W=>∃ (x269:Bool),j270 x269=some o197∧Fr 45 a [(0,VP b1 0),(1,VI a1),(2,VI a2),(6,VP b6 0),(7,VP b12 0),(8,.string y262),(9,VI y264),(24,.bool x269)]∧Own G (Blk b1 [.slice A2 a0_0.length c3,VI x147,VI x148] 67::Blk b12 [VI x149,.string x150,VI y7.1.f2,.slice A152 l151.length c153] 24::Blk b6 [VI 0,.string (⟨#[]⟩:ByteArray),VI 0,.slice none 0 0] 24::Row k24 24 (.slice A152 l151.length c153) l151::L) W) ?_ ?_
   ·
    rintro a W ⟨x269,h,hF,hO⟩
    rw [hj270] at h
    refine TQ.use ?_ hF hO
    clear hF hO
    refine TQ.then_ ?_
    refine TC.cond_b rfl h (fun hc272 h=>?_) (fun hc272 h=>?_)
    ·
     refine TC.seq ?_
     refine TC.region ?_
     refine TV rfl rfl rfl (Val.loadsB 1 (cs:=[VI x149,.string x150,VI y7.1.f2,.slice A152 l151.length c153]) agg24 fsz24 rfl rfl rfl rfl) ?_
     refine TL.cons (TL.store 2 (ds:=[VI x149,.string x150,VI y7.1.f2,.slice A152 l151.length c153]) (cs':=[VI x149,.string x150,VI y7.1.f2,.slice A152 l151.length c153]) (L':=(Blk b1 [.slice A2 a0_0.length c3,VI x147,VI x148] 67::Blk b12 [VI x149,.string x150,VI y7.1.f2,.slice A152 l151.length c153] 24::Blk b6 [VI x149,.string x150,VI y7.1.f2,.slice A152 l151.length c153] 24::Row k24 24 (.slice A152 l151.length c153) l151::L)) rfl fsz24 rfl rfl rfl rfl rfl (Nat.le_of_ble_eq_true rfl) rfl rfl ?_)
     refine TL.nil ?_
     refine TQ.then_ ?_
     refine TC.ret ?_
     refine TQ.thenR ?_
     refine TQ.inBR ?_
     refine TQ.thenR ?_
     refine TQ.inBR ?_
     refine TQ.thenR ?_
     obtain rfl:=Option.some.inj h
     have h:=ko197
     obtain rfl:=Option.some.inj h
     exact TQ.fin (.inl rfl) rfl Try.results74 (.cells 2 rfl rfl agg24 fsz24 .nil) rfl (FRel.mk (Ls:=[Blk b1 [.slice A2 a0_0.length c3,VI x147,VI x148] 67,Row k24 24 (.slice A152 l151.length c153) l151]) [0,3] 4 (Gd.le.refl _) rfl rfl rfl ⟨rfl,A152,c153,rfl,rfl⟩)
    ·
     refine TC.skip ?_
     refine TQ.then_ ?_
     refine TC.seq ?_
     refine TC.region ?_
     refine TV rfl rfl rfl (Val.move rfl) ?_
     refine TV rfl rfl rfl (Val.nilCheck rfl) ?_
     refine TV rfl rfl rfl (Val.fieldAddrB Try.underlying67 rfl fsz3 rfl rfl rfl) ?_
     refine TV rfl rfl rfl (Val.loadB 0 agg3 rfl rfl rfl) ?_
     refine TV rfl rfl rfl (Val.cmp rfl rfl run_add) ?_
     refine TV rfl rfl rfl (Val.nilCheck rfl) ?_
     refine TV rfl rfl rfl (Val.fieldAddrB Try.underlying67 rfl fsz3 rfl rfl rfl) ?_
     refine TL.cons (TL.store 0 (ds:=[VI (IntKind.i64.wrap (x147 + 1))]) (cs':=[.slice A2 a0_0.length c3,VI (IntKind.i64.wrap (x147 + 1)),VI x148]) (L':=(Blk b1 [.slice A2 a0_0.length c3,VI (IntKind.i64.wrap (x147 + 1)),VI x148] 67::Blk b12 [VI x149,.string x150,VI y7.1.f2,.slice A152 l151.length c153] 24::Blk b6 [VI 0,.string (⟨#[]⟩:ByteArray),VI 0,.slice none 0 0] 24::Row k24 24 (.slice A152 l151.length c153) l151::L)) rfl fsz3 rfl rfl rfl rfl rfl (Nat.le_of_ble_eq_true rfl) rfl rfl ?_)
     refine TL.nil ?_
     refine TQ.then_ ?_
     refine TC.seq ?_
     refine TC.region ?_
     refine TV rfl rfl rfl (Val.move rfl) ?_
     refine TV rfl rfl rfl (Val.move rfl) ?_
     refine TV rfl rfl rfl (Val.cmp rfl rfl run_add) ?_
     refine TV rfl rfl rfl (Val.move rfl) ?_
     obtain ⟨y273,hy274,h⟩:=bind_no h
     refine TL.cons (TL.callV (Lin:=[Blk b1 [.slice A2 a0_0.length c3,VI (IntKind.i64.wrap (x147 + 1)),VI x148] 67]) (args:=[VP b1 0,VI (IntKind.i64.wrap (y264 + 1)),VI a2]) rfl rfl rfl hbd74 rfl rfl (ih74 (a0_0:=a0_0) (a0_1:=IntKind.i64.wrap (x147 + 1)) (a0_2:=x148) (a1:=IntKind.i64.wrap (y264 + 1)) (a2:=a2) hr4 hl5 hy274) rfl ?_)
     rintro _ _ _ _ ⟨rfl,A275,c276,rfl,rfl⟩
     refine TL.cons (TL.alloc (cs:=[VI 0,.string (⟨#[]⟩:ByteArray),VI 0,.slice none 0 0]) rfl rfl zr24 rfl (fun b278=>?_))
     refine TL.cons (TL.store 0 (ds:=[VI y273.1.f0,.string y273.1.f1,VI y273.1.f2,.slice A275 y273.1.f3.length c276]) (cs':=[VI y273.1.f0,.string y273.1.f1,VI y273.1.f2,.slice A275 y273.1.f3.length c276]) (L':=(Blk b278 [VI y273.1.f0,.string y273.1.f1,VI y273.1.f2,.slice A275 y273.1.f3.length c276] 24::Blk b1 [.slice A2 a0_0.length c3,VI y273.2.1,VI y273.2.2] 67::Row k24 24 (.slice A275 y273.1.f3.length c276) y273.1.f3::Blk b12 [VI x149,.string x150,VI y7.1.f2,.slice A152 l151.length c153] 24::Blk b6 [VI 0,.string (⟨#[]⟩:ByteArray),VI 0,.slice none 0 0] 24::Row k24 24 (.slice A152 l151.length c153) l151::L)) rfl fsz24 rfl rfl rfl rfl rfl (Nat.le_of_ble_eq_true rfl) rfl rfl ?_)
     refine TL.nil ?_
     refine TQ.then_ ?_
     refine TC.region ?_
     refine TV rfl rfl rfl (Val.move rfl) ?_
     refine TV rfl rfl rfl (Val.fieldAddrB Try.underlying24 rfl fsz3 rfl rfl rfl) ?_
     refine TV rfl rfl rfl (Val.loadB 3 agg3 rfl rfl rfl) ?_
     refine TV rfl rfl rfl (Val.loadsB 3 (cs:=[VI x149,.string x150,VI y7.1.f2,.slice A152 l151.length c153]) agg24 fsz24 rfl rfl rfl rfl) ?_
     refine TV rfl rfl rfl (Val.loadsB 0 (cs:=[VI y273.1.f0,.string y273.1.f1,VI y273.1.f2,.slice A275 y273.1.f3.length c276]) agg24 fsz24 rfl rfl rfl rfl) ?_
     refine TL.cons (TL.buildSlice (xs:=[.tmp 41,.tmp 42]) (vs:=[.agg #[VI x149,.string x150,VI y7.1.f2,.slice A152 l151.length c153],.agg #[VI y273.1.f0,.string y273.1.f1,VI y273.1.f2,.slice A275 y273.1.f3.length c276]]) (cs:=[VI x149,.string x150,VI y7.1.f2,.slice A152 l151.length c153,VI y273.1.f0,.string y273.1.f1,VI y273.1.f2,.slice A275 y273.1.f3.length c276]) rfl rfl Try.underlying22 zs24 rfl rfl rfl rfl rfl rfl rfl rfl (fun b279=>?_))
     refine TV rfl rfl rfl (Val.build (cs:=[VI 19,.string y262,VI y7.1.f2,.slice (some ⟨b279,0,none⟩) 2 2]) (is:=[0,1,2,3]) (xs:=[.const (VI 19),.tmp 38,.tmp 40,.tmp 43]) Try.underlying24 zr24 bld24 rfl rfl rfl rfl) ?_
     refine TL.cons (TL.store 4 (ds:=[VI 19,.string y262,VI y7.1.f2,.slice (some ⟨b279,0,none⟩) 2 2]) (cs':=[VI 19,.string y262,VI y7.1.f2,.slice (some ⟨b279,0,none⟩) 2 2]) (L':=(Blk b279 [VI x149,.string x150,VI y7.1.f2,.slice A152 l151.length c153,VI y273.1.f0,.string y273.1.f1,VI y273.1.f2,.slice A275 y273.1.f3.length c276] 24::Blk b278 [VI y273.1.f0,.string y273.1.f1,VI y273.1.f2,.slice A275 y273.1.f3.length c276] 24::Blk b1 [.slice A2 a0_0.length c3,VI y273.2.1,VI y273.2.2] 67::Row k24 24 (.slice A275 y273.1.f3.length c276) y273.1.f3::Blk b12 [VI 19,.string y262,VI y7.1.f2,.slice (some ⟨b279,0,none⟩) 2 2] 24::Blk b6 [VI 0,.string (⟨#[]⟩:ByteArray),VI 0,.slice none 0 0] 24::Row k24 24 (.slice A152 l151.length c153) l151::L)) rfl fsz24 rfl rfl rfl rfl rfl (Nat.le_of_ble_eq_true rfl) rfl rfl ?_)
     refine TL.nil ?_
     refine TQ.inB ?_
     refine TQ.new (Els.nil k24) ?_
     refine TQ.sel (Ls:=[Row k24 24 (.slice A152 l151.length c153) l151,Els k24 [] [],Blk b279 [VI x149,.string x150,VI y7.1.f2,.slice A152 l151.length c153,VI y273.1.f0,.string y273.1.f1,VI y273.1.f2,.slice A275 y273.1.f3.length c276] 24,Blk b278 [VI y273.1.f0,.string y273.1.f1,VI y273.1.f2,.slice A275 y273.1.f3.length c276] 24,Blk b1 [.slice A2 a0_0.length c3,VI y273.2.1,VI y273.2.2] 67,Row k24 24 (.slice A275 y273.1.f3.length c276) y273.1.f3,Blk b12 [VI 19,.string y262,VI y7.1.f2,.slice (some ⟨b279,0,none⟩) 2 2] 24,Blk b6 [VI 0,.string (⟨#[]⟩:ByteArray),VI 0,.slice none 0 0] 24]) [7,0,1,2,3,4,5,6] 8 rfl rfl rfl ?_
     refine TQ.conv (ch':=El k24 (⟨x149,x150,y7.1.f2,l151⟩:S24) [VI x149,.string x150,VI y7.1.f2,.slice A152 l151.length c153]) (fun B W F hh=>k24_mkM W B F (⟨x149,x150,y7.1.f2,l151⟩:S24) hh) ?_
     refine TQ.sel (Ls:=[Els k24 [] [],El k24 (⟨x149,x150,y7.1.f2,l151⟩:S24) [VI x149,.string x150,VI y7.1.f2,.slice A152 l151.length c153],Blk b279 [VI x149,.string x150,VI y7.1.f2,.slice A152 l151.length c153,VI y273.1.f0,.string y273.1.f1,VI y273.1.f2,.slice A275 y273.1.f3.length c276] 24,Blk b278 [VI y273.1.f0,.string y273.1.f1,VI y273.1.f2,.slice A275 y273.1.f3.length c276] 24,Blk b1 [.slice A2 a0_0.length c3,VI y273.2.1,VI y273.2.2] 67,Row k24 24 (.slice A275 y273.1.f3.length c276) y273.1.f3,Blk b12 [VI 19,.string y262,VI y7.1.f2,.slice (some ⟨b279,0,none⟩) 2 2] 24,Blk b6 [VI 0,.string (⟨#[]⟩:ByteArray),VI 0,.slice none 0 0] 24]) [1,0,2,3,4,5,6,7] 8 rfl rfl rfl ?_
     refine TQ.two (ch:=Els k24 [(⟨x149,x150,y7.1.f2,l151⟩:S24)] [VI x149,.string x150,VI y7.1.f2,.slice A152 l151.length c153]) (Els.snoc k24) ?_
     refine TQ.sel (Ls:=[Row k24 24 (.slice A275 y273.1.f3.length c276) y273.1.f3,Els k24 [(⟨x149,x150,y7.1.f2,l151⟩:S24)] [VI x149,.string x150,VI y7.1.f2,.slice A152 l151.length c153],Blk b279 [VI x149,.string x150,VI y7.1.f2,.slice A152 l151.length c153,VI y273.1.f0,.string y273.1.f1,VI y273.1.f2,.slice A275 y273.1.f3.length c276] 24,Blk b278 [VI y273.1.f0,.string y273.1.f1,VI y273.1.f2,.slice A275 y273.1.f3.length c276] 24,Blk b1 [.slice A2 a0_0.length c3,VI y273.2.1,VI y273.2.2] 67,Blk b12 [VI 19,.string y262,VI y7.1.f2,.slice (some ⟨b279,0,none⟩) 2 2] 24,Blk b6 [VI 0,.string (⟨#[]⟩:ByteArray),VI 0,.slice none 0 0] 24]) [4,0,1,2,3,5,6] 7 rfl rfl rfl ?_
     refine TQ.conv (ch':=El k24 y273.1 [VI y273.1.f0,.string y273.1.f1,VI y273.1.f2,.slice A275 y273.1.f3.length c276]) (fun B W F hh=>k24_mkM W B F y273.1 hh) ?_
     refine TQ.sel (Ls:=[Els k24 [(⟨x149,x150,y7.1.f2,l151⟩:S24)] [VI x149,.string x150,VI y7.1.f2,.slice A152 l151.length c153],El k24 y273.1 [VI y273.1.f0,.string y273.1.f1,VI y273.1.f2,.slice A275 y273.1.f3.length c276],Blk b279 [VI x149,.string x150,VI y7.1.f2,.slice A152 l151.length c153,VI y273.1.f0,.string y273.1.f1,VI y273.1.f2,.slice A275 y273.1.f3.length c276] 24,Blk b278 [VI y273.1.f0,.string y273.1.f1,VI y273.1.f2,.slice A275 y273.1.f3.length c276] 24,Blk b1 [.slice A2 a0_0.length c3,VI y273.2.1,VI y273.2.2] 67,Blk b12 [VI 19,.string y262,VI y7.1.f2,.slice (some ⟨b279,0,none⟩) 2 2] 24,Blk b6 [VI 0,.string (⟨#[]⟩:ByteArray),VI 0,.slice none 0 0] 24]) [1,0,2,3,4,5,6] 7 rfl rfl rfl ?_
     refine TQ.two (ch:=Els k24 [(⟨x149,x150,y7.1.f2,l151⟩:S24),y273.1] [VI x149,.string x150,VI y7.1.f2,.slice A152 l151.length c153,VI y273.1.f0,.string y273.1.f1,VI y273.1.f2,.slice A275 y273.1.f3.length c276]) (Els.snoc k24) ?_
     refine TQ.sel (Ls:=[Blk b279 [VI x149,.string x150,VI y7.1.f2,.slice A152 l151.length c153,VI y273.1.f0,.string y273.1.f1,VI y273.1.f2,.slice A275 y273.1.f3.length c276] 24,Els k24 [(⟨x149,x150,y7.1.f2,l151⟩:S24),y273.1] [VI x149,.string x150,VI y7.1.f2,.slice A152 l151.length c153,VI y273.1.f0,.string y273.1.f1,VI y273.1.f2,.slice A275 y273.1.f3.length c276],Blk b278 [VI y273.1.f0,.string y273.1.f1,VI y273.1.f2,.slice A275 y273.1.f3.length c276] 24,Blk b1 [.slice A2 a0_0.length c3,VI y273.2.1,VI y273.2.2] 67,Blk b12 [VI 19,.string y262,VI y7.1.f2,.slice (some ⟨b279,0,none⟩) 2 2] 24,Blk b6 [VI 0,.string (⟨#[]⟩:ByteArray),VI 0,.slice none 0 0] 24]) [1,0,2,3,4,5] 6 rfl rfl rfl ?_
     refine TQ.two (ch:=Row k24 24 (.slice (some ⟨b279,0,none⟩) 2 2) ([(⟨x149,x150,y7.1.f2,l151⟩:S24),y273.1]:List S24)) (Row.lit k24 rfl rfl) ?_
     exact fun a W hF hO=>⟨y273.2.1,y273.2.2,19,y262,([(⟨x149,x150,y7.1.f2,l151⟩:S24),y273.1]:List S24),(some ⟨b279,0,none⟩),2,h,hF.sub ⟨rfl,rfl,rfl,rfl,rfl,trivial⟩,hO.selT (Ls:=[Blk b1 [.slice A2 a0_0.length c3,VI y273.2.1,VI y273.2.2] 67,Blk b12 [VI 19,.string y262,VI y7.1.f2,.slice (some ⟨b279,0,none⟩) ([(⟨x149,x150,y7.1.f2,l151⟩:S24),y273.1]:List S24).length 2] 24,Blk b6 [VI 0,.string (⟨#[]⟩:ByteArray),VI 0,.slice none 0 0] 24,Row k24 24 (.slice (some ⟨b279,0,none⟩) ([(⟨x149,x150,y7.1.f2,l151⟩:S24),y273.1]:List S24).length 2) ([(⟨x149,x150,y7.1.f2,l151⟩:S24),y273.1]:List S24)]) [2,3,4,0] 5 rfl rfl rfl⟩
   ·
    refine TC.region ?_
    refine TV rfl rfl rfl (Val.move rfl) ?_
    refine TV rfl rfl rfl (Val.cmp rfl rfl run_eql) ?_
    refine TV rfl rfl rfl (Val.move rfl) ?_
    refine TK.split (p:=y264=0) h (fun hg281 h=>?_) (fun hg281 h=>?_)
    ·
     have hk282:decide (y264=0)=true:=decide_eq_true hg281
     refine TL.cons (TL.not (Wt.no rfl rfl rfl hk282) rfl ?_)
     refine TL.cons (TL.not (Wt.no rfl rfl rfl hk282) rfl ?_)
     refine TL.cons (TL.not (Wt.no rfl rfl rfl hk282) rfl ?_)
     refine TV rfl rfl rfl (Val.pickY rfl hk282 rfl) ?_
     refine TL.nil ?_
     exact fun a W hF hO=>⟨true,h,hF.sub ⟨rfl,rfl,rfl,rfl,rfl,rfl,rfl,rfl,trivial⟩,hO.selT (Ls:=[Blk b1 [.slice A2 a0_0.length c3,VI x147,VI x148] 67,Blk b12 [VI x149,.string x150,VI y7.1.f2,.slice A152 l151.length c153] 24,Blk b6 [VI 0,.string (⟨#[]⟩:ByteArray),VI 0,.slice none 0 0] 24,Row k24 24 (.slice A152 l151.length c153) l151]) [0,1,2,3] 4 rfl rfl rfl⟩
    ·
     have hk283:decide (y264=0)=false:=decide_eq_false hg281
     refine TV (Wt.yes rfl rfl rfl hk283) rfl rfl (Val.move rfl) ?_
     refine TV (Wt.yes rfl rfl rfl hk283) rfl rfl (Val.move rfl) ?_
     refine TV (Wt.yes rfl rfl rfl hk283) rfl rfl (Val.cmp rfl rfl run_lss) ?_
     refine TV rfl rfl rfl (Val.pickN rfl hk283 rfl) ?_
     refine TL.nil ?_
     exact fun a W hF hO=>⟨decide (y264 < a1),h,hF.sub ⟨rfl,rfl,rfl,rfl,rfl,rfl,rfl,rfl,trivial⟩,hO.selT (Ls:=[Blk b1 [.slice A2 a0_0.length c3,VI x147,VI x148] 67,Blk b12 [VI x149,.string x150,VI y7.1.f2,.slice A152 l151.length c153] 24,Blk b6 [VI 0,.string (⟨#[]⟩:ByteArray),VI 0,.slice none 0 0] 24,Row k24 24 (.slice A152 l151.length c153) l151]) [0,1,2,3] 4 rfl rfl rfl⟩
def parse_parser_operand.l0 (rec72:((List S41) → Int → Int → Int → Option (S24 × Int × Int))) (a0_0:(List S41)) (a1:Int) (y33:(S24 × Int × Int)):Nat → Int → Int → Int → ByteArray → (List S24) → Option (S24 × Int × Int)
 | 0,_,_,_,_,_=>none
 | n1010 + 1,x758,x759,x760,x761,l762=>(parse_parser_take.f a0_0 x758 x759 (⟨#[91]⟩:ByteArray)).bind fun (y1467:(Bool × Int))=>(if y1467.1=true then (rec72 a0_0 y1467.2 x759 (IntKind.i64.wrap (a1 + 1))).bind fun (y1492:(S24 × Int × Int))=>(parse_parser_must.f a0_0 y1492.2.1 y1492.2.2 (⟨#[93]⟩:ByteArray)).bind fun (y1498:(Int × Int))=>parse_parser_operand.l0 rec72 a0_0 a1 y33 n1010 y1498.1 y1498.2 23 (⟨#[]⟩:ByteArray) ([(⟨x760,x761,y33.1.f2,l762⟩:S24),y1492.1]:List S24) else (parse_parser_take.f a0_0 y1467.2 x759 (⟨#[46]⟩:ByteArray)).bind fun (y1502:(Bool × Int))=>(if y1502.1=true then (parse_parser_text.f a0_0 y1502.2 x759 2).bind fun (y1527:(ByteArray × Int × Int))=>parse_parser_operand.l0 rec72 a0_0 a1 y33 n1010 y1527.2.1 y1527.2.2 24 y1527.1 ([(⟨x760,x761,y33.1.f2,l762⟩:S24)]:List S24) else some ((⟨x760,x761,y33.1.f2,l762⟩:S24),y1502.2,x759)))
def parse_parser_operand.g (rec72:((List S41) → Int → Int → Int → Option (S24 × Int × Int))) (rec74:((List S41) → Int → Int → Int → Int → Option (S24 × Int × Int))) (rec75:((List S41) → Int → Int → Int → Option (S24 × Int × Int))) (rec78:((List S41) → Int → Int → Int → Option (S24 × Int × Int))) (rec79:((List S41) → Int → Int → Int → Option (S24 × Int × Int))) (a0_0:(List S41)) (a0_1:Int) (a0_2:Int) (a1:Int):Option (S24 × Int × Int):=(parse_parser_start.f a0_0 a0_1 a0_2).bind fun (y7:Int)=>(parse_parser_may.f a0_0 a0_1 a0_2 a1).bind fun (y9:(Bool × Int))=>(if (!y9.1)=true then some ((⟨0,(⟨#[]⟩:ByteArray),y7,([]:List S24)⟩:S24),a0_1,y9.2) else (parse_parser_fixed.f a0_0 a0_1 y9.2).bind fun (y14:ByteArray)=>(parse_prefix.f y14).bind fun (y16:Int)=>(if (!decide (y16=0))=true then (rec75 a0_0 (IntKind.i64.wrap (a0_1 + 1)) y9.2 (IntKind.i64.wrap (a1 + 1))).bind fun (y26:(S24 × Int × Int))=>some ((⟨y16,(⟨#[]⟩:ByteArray),y7,([y26.1]:List S24)⟩:S24),y26.2.1,y26.2.2) else (rec78 a0_0 a0_1 y9.2 a1).bind fun (y33:(S24 × Int × Int))=>(parse_parser_operand.l0 rec72 a0_0 a1 y33 100000 y33.2.1 y33.2.2 y33.1.f0 y33.1.f1 y33.1.f3).bind fun q_=>some q_))
theorem parse_parser_operand.step (rec72:((List S41) → Int → Int → Int → Option (S24 × Int × Int))) (rec74:((List S41) → Int → Int → Int → Int → Option (S24 × Int × Int))) (rec75:((List S41) → Int → Int → Int → Option (S24 × Int × Int))) (rec78:((List S41) → Int → Int → Int → Option (S24 × Int × Int))) (rec79:((List S41) → Int → Int → Int → Option (S24 × Int × Int))) (ih72:∀ {G:Gd} {r:(S24 × Int × Int)} {a0_0:(List S41)} {a0_1:Int} {a0_2:Int} {a1:Int} {b1:Nat} {A2:Option Addr} {c3:Nat} (hr4:Rd G k41 A2 a0_0) (hl5:a0_0.length ≤ c3),rec72 a0_0 a0_1 a0_2 a1=some r → Fn Try.prog 72 G [Blk b1 [.slice A2 a0_0.length c3,VI a0_1,VI a0_2] 67] [VP b1 0,VI a1] (parse_parser_expr.post G b1 A2 c3 a0_0 a0_1 a0_2 a1 r)) (ih74:∀ {G:Gd} {r:(S24 × Int × Int)} {a0_0:(List S41)} {a0_1:Int} {a0_2:Int} {a1:Int} {a2:Int} {b1:Nat} {A2:Option Addr} {c3:Nat} (hr4:Rd G k41 A2 a0_0) (hl5:a0_0.length ≤ c3),rec74 a0_0 a0_1 a0_2 a1 a2=some r → Fn Try.prog 74 G [Blk b1 [.slice A2 a0_0.length c3,VI a0_1,VI a0_2] 67] [VP b1 0,VI a1,VI a2] (parse_parser_climb.post G b1 A2 c3 a0_0 a0_1 a0_2 a1 a2 r)) (ih75:∀ {G:Gd} {r:(S24 × Int × Int)} {a0_0:(List S41)} {a0_1:Int} {a0_2:Int} {a1:Int} {b1:Nat} {A2:Option Addr} {c3:Nat} (hr4:Rd G k41 A2 a0_0) (hl5:a0_0.length ≤ c3),rec75 a0_0 a0_1 a0_2 a1=some r → Fn Try.prog 75 G [Blk b1 [.slice A2 a0_0.length c3,VI a0_1,VI a0_2] 67] [VP b1 0,VI a1] (parse_parser_operand.post G b1 A2 c3 a0_0 a0_1 a0_2 a1 r)) (ih78:∀ {G:Gd} {r:(S24 × Int × Int)} {a0_0:(List S41)} {a0_1:Int} {a0_2:Int} {a1:Int} {b1:Nat} {A2:Option Addr} {c3:Nat} (hr4:Rd G k41 A2 a0_0) (hl5:a0_0.length ≤ c3),rec78 a0_0 a0_1 a0_2 a1=some r → Fn Try.prog 78 G [Blk b1 [.slice A2 a0_0.length c3,VI a0_1,VI a0_2] 67] [VP b1 0,VI a1] (parse_parser_primary.post G b1 A2 c3 a0_0 a0_1 a0_2 a1 r)) (ih79:∀ {G:Gd} {r:(S24 × Int × Int)} {a0_0:(List S41)} {a0_1:Int} {a0_2:Int} {a1:Int} {b1:Nat} {A2:Option Addr} {c3:Nat} (hr4:Rd G k41 A2 a0_0) (hl5:a0_0.length ≤ c3),rec79 a0_0 a0_1 a0_2 a1=some r → Fn Try.prog 79 G [Blk b1 [.slice A2 a0_0.length c3,VI a0_1,VI a0_2] 67] [VP b1 0,VI a1] (parse_parser_name.post G b1 A2 c3 a0_0 a0_1 a0_2 a1 r)) {G:Gd} {r:(S24 × Int × Int)} {a0_0:(List S41)} {a0_1:Int} {a0_2:Int} {a1:Int} {b1:Nat} {A2:Option Addr} {c3:Nat} (hr4:Rd G k41 A2 a0_0) (hl5:a0_0.length ≤ c3) (h:parse_parser_operand.g rec72 rec74 rec75 rec78 rec79 a0_0 a0_1 a0_2 a1=some r):Fn Try.prog 75 G [Blk b1 [.slice A2 a0_0.length c3,VI a0_1,VI a0_2] 67] [VP b1 0,VI a1] (parse_parser_operand.post G b1 A2 c3 a0_0 a0_1 a0_2 a1 r):=by
 refine Fn.intro (e:=[(0,VP b1 0),(1,VI a1)]) 66 Try.func75 rfl Try.ntmps75 rfl rfl (Nat.le_of_ble_eq_true rfl) (fun L=>?_)
 unfold parse_parser_operand.g at h
 refine TC.seq ?_
 refine TC.region ?_
 refine TL.cons (TL.alloc (cs:=[VI 0,.string (⟨#[]⟩:ByteArray),VI 0,.slice none 0 0]) rfl rfl zr24 rfl (fun b6=>?_))
 refine TL.nil ?_
 refine TQ.then_ ?_
 refine TC.seq ?_
 refine TC.region ?_
 refine TV rfl rfl rfl (Val.move rfl) ?_
 refine TK.sel (Ls:=[Blk b1 [.slice A2 a0_0.length c3,VI a0_1,VI a0_2] 67,Blk b6 [VI 0,.string (⟨#[]⟩:ByteArray),VI 0,.slice none 0 0] 24]) [1,0] 2 rfl rfl rfl ?_
 obtain ⟨y7,hy8,h⟩:=bind_no h
 refine TL.cons (TL.callV (Lin:=[Blk b1 [.slice A2 a0_0.length c3,VI a0_1,VI a0_2] 67]) (args:=[VP b1 0]) rfl rfl rfl hbd29 rfl rfl (parse_parser_start.calls (a0_0:=a0_0) (a0_1:=a0_1) (a0_2:=a0_2) hr4 hl5 hy8) rfl ?_)
 rintro _ _ _ _ ⟨rfl,rfl,rfl⟩
 refine TV rfl rfl rfl (Val.assign rfl) ?_
 refine TL.nil ?_
 refine TQ.then_ ?_
 refine TC.seq ?_
 refine TC.seq ?_
 refine TC.region ?_
 refine TV rfl rfl rfl (Val.move rfl) ?_
 refine TV rfl rfl rfl (Val.move rfl) ?_
 obtain ⟨y9,hy10,h⟩:=bind_no h
 refine TL.cons (TL.callV (Lin:=[Blk b1 [.slice A2 a0_0.length c3,VI a0_1,VI a0_2] 67]) (args:=[VP b1 0,VI a1]) rfl rfl rfl hbd66 rfl rfl (parse_parser_may.calls (a0_0:=a0_0) (a0_1:=a0_1) (a0_2:=a0_2) (a1:=a1) hr4 hl5 hy10) rfl ?_)
 rintro _ _ _ _ ⟨rfl,rfl,rfl⟩
 refine TV rfl rfl rfl (Val.not_ rfl) ?_
 refine TL.nil ?_
 refine TQ.then_ ?_
 refine TC.cond_b rfl h (fun hc12 h=>?_) (fun hc12 h=>?_)
 ·
  refine TC.seq ?_
  refine TC.region ?_
  refine TV rfl rfl rfl (Val.move rfl) ?_
  refine TV rfl rfl rfl (Val.build (cs:=[VI 0,.string (⟨#[]⟩:ByteArray),VI y7,.slice none 0 0]) (is:=[2]) (xs:=[.tmp 15]) Try.underlying24 zr24 bld24 rfl rfl rfl rfl) ?_
  refine TL.cons (TL.store 1 (ds:=[VI 0,.string (⟨#[]⟩:ByteArray),VI y7,.slice none 0 0]) (cs':=[VI 0,.string (⟨#[]⟩:ByteArray),VI y7,.slice none 0 0]) (L':=(Blk b1 [.slice A2 a0_0.length c3,VI a0_1,VI y9.2] 67::Blk b6 [VI 0,.string (⟨#[]⟩:ByteArray),VI y7,.slice none 0 0] 24::L)) rfl fsz24 rfl rfl rfl rfl rfl (Nat.le_of_ble_eq_true rfl) rfl rfl ?_)
  refine TL.nil ?_
  refine TQ.then_ ?_
  refine TC.ret ?_
  refine TQ.thenR ?_
  refine TQ.nilRow k24 24 ?_
  obtain rfl:=Option.some.inj h
  exact TQ.fin (.inl rfl) rfl Try.results75 (.cells 2 rfl rfl agg24 fsz24 .nil) rfl (FRel.mk (Ls:=[Blk b1 [.slice A2 a0_0.length c3,VI a0_1,VI y9.2] 67,Row k24 24 (.slice none 0 0) ([]:List S24)]) [1,0] 3 (Gd.le.refl _) rfl rfl rfl ⟨rfl,none,0,rfl,rfl⟩)
 ·
  refine TC.skip ?_
  refine TQ.then_ ?_
  refine TC.seq ?_
  refine TC.seq ?_
  refine TC.region ?_
  refine TV rfl rfl rfl (Val.move rfl) ?_
  obtain ⟨y14,hy15,h⟩:=bind_no h
  refine TL.cons (TL.callV (Lin:=[Blk b1 [.slice A2 a0_0.length c3,VI a0_1,VI y9.2] 67]) (args:=[VP b1 0]) rfl rfl rfl hbd45 rfl rfl (parse_parser_fixed.calls (a0_0:=a0_0) (a0_1:=a0_1) (a0_2:=y9.2) hr4 hl5 hy15) rfl ?_)
  rintro _ _ _ _ ⟨rfl,rfl,rfl⟩
  obtain ⟨y16,hy17,h⟩:=bind_no h
  refine TL.cons (TL.callV (Lin:=[]) (args:=[.string y14]) rfl rfl rfl hbd77 rfl rfl (parse_prefix.calls (a0:=y14) hy17) rfl ?_)
  rintro _ _ _ _ ⟨rfl,rfl,rfl⟩
  refine TV rfl rfl rfl (Val.assign rfl) ?_
  refine TL.nil ?_
  refine TQ.then_ ?_
  refine TC.seq ?_
  refine TC.region ?_
  refine TV rfl rfl rfl (Val.move rfl) ?_
  refine TV rfl rfl rfl (Val.cmp rfl rfl run_neq) ?_
  refine TL.nil ?_
  refine TQ.then_ ?_
  refine TC.cond_b rfl h (fun hc25 h=>?_) (fun hc25 h=>?_)
  ·
   refine TC.seq ?_
   refine TC.region ?_
   refine TV rfl rfl rfl (Val.move rfl) ?_
   refine TV rfl rfl rfl (Val.nilCheck rfl) ?_
   refine TV rfl rfl rfl (Val.fieldAddrB Try.underlying67 rfl fsz3 rfl rfl rfl) ?_
   refine TV rfl rfl rfl (Val.loadB 0 agg3 rfl rfl rfl) ?_
   refine TV rfl rfl rfl (Val.cmp rfl rfl run_add) ?_
   refine TV rfl rfl rfl (Val.nilCheck rfl) ?_
   refine TV rfl rfl rfl (Val.fieldAddrB Try.underlying67 rfl fsz3 rfl rfl rfl) ?_
   refine TL.cons (TL.store 0 (ds:=[VI (IntKind.i64.wrap (a0_1 + 1))]) (cs':=[.slice A2 a0_0.length c3,VI (IntKind.i64.wrap (a0_1 + 1)),VI y9.2]) (L':=(Blk b1 [.slice A2 a0_0.length c3,VI (IntKind.i64.wrap (a0_1 + 1)),VI y9.2] 67::Blk b6 [VI 0,.string (⟨#[]⟩:ByteArray),VI 0,.slice none 0 0] 24::L)) rfl fsz3 rfl rfl rfl rfl rfl (Nat.le_of_ble_eq_true rfl) rfl rfl ?_)
   refine TL.nil ?_
   refine TQ.then_ ?_
   refine TC.seq ?_
   refine TC.region ?_
   refine TV rfl rfl rfl (Val.move rfl) ?_
   refine TV rfl rfl rfl (Val.move rfl) ?_
   refine TV rfl rfl rfl (Val.move rfl) ?_
   refine TV rfl rfl rfl (Val.move rfl) ?_
   refine TV rfl rfl rfl (Val.cmp rfl rfl run_add) ?_
   obtain ⟨y26,hy27,h⟩:=bind_no h
   refine TL.cons (TL.callV (Lin:=[Blk b1 [.slice A2 a0_0.length c3,VI (IntKind.i64.wrap (a0_1 + 1)),VI y9.2] 67]) (args:=[VP b1 0,VI (IntKind.i64.wrap (a1 + 1))]) rfl rfl rfl hbd75 rfl rfl (ih75 (a0_0:=a0_0) (a0_1:=IntKind.i64.wrap (a0_1 + 1)) (a0_2:=y9.2) (a1:=IntKind.i64.wrap (a1 + 1)) hr4 hl5 hy27) rfl ?_)
   rintro _ _ _ _ ⟨rfl,A28,c29,rfl,rfl⟩
   refine TL.cons (TL.buildSlice (xs:=[.tmp 34]) (vs:=[.agg #[VI y26.1.f0,.string y26.1.f1,VI y26.1.f2,.slice A28 y26.1.f3.length c29]]) (cs:=[VI y26.1.f0,.string y26.1.f1,VI y26.1.f2,.slice A28 y26.1.f3.length c29]) rfl rfl Try.underlying22 zs24 rfl rfl rfl rfl rfl rfl rfl rfl (fun b31=>?_))
   refine TV rfl rfl rfl (Val.build (cs:=[VI y16,.string (⟨#[]⟩:ByteArray),VI y7,.slice (some ⟨b31,0,none⟩) 1 1]) (is:=[0,2,3]) (xs:=[.tmp 29,.tmp 30,.tmp 35]) Try.underlying24 zr24 bld24 rfl rfl rfl rfl) ?_
   refine TL.cons (TL.store 3 (ds:=[VI y16,.string (⟨#[]⟩:ByteArray),VI y7,.slice (some ⟨b31,0,none⟩) 1 1]) (cs':=[VI y16,.string (⟨#[]⟩:ByteArray),VI y7,.slice (some ⟨b31,0,none⟩) 1 1]) (L':=(Blk b31 [VI y26.1.f0,.string y26.1.f1,VI y26.1.f2,.slice A28 y26.1.f3.length c29] 24::Blk b1 [.slice A2 a0_0.length c3,VI y26.2.1,VI y26.2.2] 67::Row k24 24 (.slice A28 y26.1.f3.length c29) y26.1.f3::Blk b6 [VI y16,.string (⟨#[]⟩:ByteArray),VI y7,.slice (some ⟨b31,0,none⟩) 1 1] 24::L)) rfl fsz24 rfl rfl rfl rfl rfl (Nat.le_of_ble_eq_true rfl) rfl rfl ?_)
   refine TL.nil ?_
   refine TQ.then_ ?_
   refine TC.ret ?_
   refine TQ.thenR ?_
   refine TQ.new (Els.nil k24) ?_
   refine TQ.sel (Ls:=[Row k24 24 (.slice A28 y26.1.f3.length c29) y26.1.f3,Els k24 [] [],Blk b31 [VI y26.1.f0,.string y26.1.f1,VI y26.1.f2,.slice A28 y26.1.f3.length c29] 24,Blk b1 [.slice A2 a0_0.length c3,VI y26.2.1,VI y26.2.2] 67,Blk b6 [VI y16,.string (⟨#[]⟩:ByteArray),VI y7,.slice (some ⟨b31,0,none⟩) 1 1] 24]) [3,0,1,2,4] 5 rfl rfl rfl ?_
   refine TQ.conv (ch':=El k24 y26.1 [VI y26.1.f0,.string y26.1.f1,VI y26.1.f2,.slice A28 y26.1.f3.length c29]) (fun B W F hh=>k24_mkM W B F y26.1 hh) ?_
   refine TQ.sel (Ls:=[Els k24 [] [],El k24 y26.1 [VI y26.1.f0,.string y26.1.f1,VI y26.1.f2,.slice A28 y26.1.f3.length c29],Blk b31 [VI y26.1.f0,.string y26.1.f1,VI y26.1.f2,.slice A28 y26.1.f3.length c29] 24,Blk b1 [.slice A2 a0_0.length c3,VI y26.2.1,VI y26.2.2] 67,Blk b6 [VI y16,.string (⟨#[]⟩:ByteArray),VI y7,.slice (some ⟨b31,0,none⟩) 1 1] 24]) [1,0,2,3,4] 5 rfl rfl rfl ?_
   refine TQ.two (ch:=Els k24 [y26.1] [VI y26.1.f0,.string y26.1.f1,VI y26.1.f2,.slice A28 y26.1.f3.length c29]) (Els.snoc k24) ?_
   refine TQ.sel (Ls:=[Blk b31 [VI y26.1.f0,.string y26.1.f1,VI y26.1.f2,.slice A28 y26.1.f3.length c29] 24,Els k24 [y26.1] [VI y26.1.f0,.string y26.1.f1,VI y26.1.f2,.slice A28 y26.1.f3.length c29],Blk b1 [.slice A2 a0_0.length c3,VI y26.2.1,VI y26.2.2] 67,Blk b6 [VI y16,.string (⟨#[]⟩:ByteArray),VI y7,.slice (some ⟨b31,0,none⟩) 1 1] 24]) [1,0,2,3] 4 rfl rfl rfl ?_
   refine TQ.two (ch:=Row k24 24 (.slice (some ⟨b31,0,none⟩) 1 1) ([y26.1]:List S24)) (Row.lit k24 rfl rfl) ?_
   obtain rfl:=Option.some.inj h
   exact TQ.fin (.inl rfl) rfl Try.results75 (.cells 2 rfl rfl agg24 fsz24 .nil) rfl (FRel.mk (Ls:=[Blk b1 [.slice A2 a0_0.length c3,VI y26.2.1,VI y26.2.2] 67,Row k24 24 (.slice (some ⟨b31,0,none⟩) 1 1) ([y26.1]:List S24)]) [1,0] 3 (Gd.le.refl _) rfl rfl rfl ⟨rfl,(some ⟨b31,0,none⟩),1,rfl,rfl⟩)
  ·
   refine TC.skip ?_
   refine TQ.then_ ?_
   refine TC.seq ?_
   refine TC.region ?_
   refine TV rfl rfl rfl (Val.move rfl) ?_
   refine TV rfl rfl rfl (Val.move rfl) ?_
   obtain ⟨y33,hy34,h⟩:=bind_no h
   refine TL.cons (TL.callV (Lin:=[Blk b1 [.slice A2 a0_0.length c3,VI a0_1,VI y9.2] 67]) (args:=[VP b1 0,VI a1]) rfl rfl rfl hbd78 rfl rfl (ih78 (a0_0:=a0_0) (a0_1:=a0_1) (a0_2:=y9.2) (a1:=a1) hr4 hl5 hy34) rfl ?_)
   rintro _ _ _ _ ⟨rfl,A35,c36,rfl,rfl⟩
   refine TL.cons (TL.alloc (cs:=[VI 0,.string (⟨#[]⟩:ByteArray),VI 0,.slice none 0 0]) rfl rfl zr24 rfl (fun b38=>?_))
   refine TL.cons (TL.store 0 (ds:=[VI y33.1.f0,.string y33.1.f1,VI y33.1.f2,.slice A35 y33.1.f3.length c36]) (cs':=[VI y33.1.f0,.string y33.1.f1,VI y33.1.f2,.slice A35 y33.1.f3.length c36]) (L':=(Blk b38 [VI y33.1.f0,.string y33.1.f1,VI y33.1.f2,.slice A35 y33.1.f3.length c36] 24::Blk b1 [.slice A2 a0_0.length c3,VI y33.2.1,VI y33.2.2] 67::Row k24 24 (.slice A35 y33.1.f3.length c36) y33.1.f3::Blk b6 [VI 0,.string (⟨#[]⟩:ByteArray),VI 0,.slice none 0 0] 24::L)) rfl fsz24 rfl rfl rfl rfl rfl (Nat.le_of_ble_eq_true rfl) rfl rfl ?_)
   refine TL.nil ?_
   refine TQ.then_ ?_
   obtain ⟨o1009,ho1009,ko1009⟩:=bind_no h
   clear h
   refine TC.tail (fun a W=>False) (fun a W h=>h.elim) ?_
   ·
    refine TC.block ?_
    intro a W hF hO
    have hS:∃ (x758:Int) (x759:Int) (x760:Int) (x761:ByteArray) (l762:(List S24)) (A763:Option Addr) (c764:Nat),parse_parser_operand.l0 rec72 a0_0 a1 y33 100000 x758 x759 x760 x761 l762=some o1009∧Fr 66 a [(0,VP b1 0),(1,VI a1),(4,VP b6 0),(7,VP b38 0)]∧Own G (Blk b1 [.slice A2 a0_0.length c3,VI x758,VI x759] 67::Blk b38 [VI x760,.string x761,VI y33.1.f2,.slice A763 l762.length c764] 24::Blk b6 [VI 0,.string (⟨#[]⟩:ByteArray),VI 0,.slice none 0 0] 24::Row k24 24 (.slice A763 l762.length c764) l762::L) W:=by
     exact ⟨y33.2.1,y33.2.2,y33.1.f0,y33.1.f1,y33.1.f3,A35,c36,ho1009,hF.sub ⟨rfl,rfl,rfl,rfl,trivial⟩,hO.selT (Ls:=[Blk b1 [.slice A2 a0_0.length c3,VI y33.2.1,VI y33.2.2] 67,Blk b38 [VI y33.1.f0,.string y33.1.f1,VI y33.1.f2,.slice A35 y33.1.f3.length c36] 24,Blk b6 [VI 0,.string (⟨#[]⟩:ByteArray),VI 0,.slice none 0 0] 24,Row k24 24 (.slice A35 y33.1.f3.length c36) y33.1.f3]) [1,0,3,2] 4 rfl rfl rfl⟩
    clear hF hO ho1009
    refine TC.loop (fun n1010 a W=>∃ (x758:Int) (x759:Int) (x760:Int) (x761:ByteArray) (l762:(List S24)) (A763:Option Addr) (c764:Nat),parse_parser_operand.l0 rec72 a0_0 a1 y33 n1010 x758 x759 x760 x761 l762=some o1009∧Fr 66 a [(0,VP b1 0),(1,VI a1),(4,VP b6 0),(7,VP b38 0)]∧Own G (Blk b1 [.slice A2 a0_0.length c3,VI x758,VI x759] 67::Blk b38 [VI x760,.string x761,VI y33.1.f2,.slice A763 l762.length c764] 24::Blk b6 [VI 0,.string (⟨#[]⟩:ByteArray),VI 0,.slice none 0 0] 24::Row k24 24 (.slice A763 l762.length c764) l762::L) W) ?_ ?_ hS
    ·
     rintro a W ⟨x758,x759,x760,x761,l762,A763,c764,h,hF,hO⟩
     exact none_no h
    ·
     clear hS
     rintro n1010 a W ⟨x758,x759,x760,x761,l762,A763,c764,h,hF,hO⟩
     rw [parse_parser_operand.l0] at h
     refine TC.use ?_ hF hO
     clear hF hO
     refine TC.block ?_
     refine TC.block ?_
     refine TC.seq ?_
     refine TC.region ?_
     refine TV rfl rfl rfl (Val.move rfl) ?_
     obtain ⟨y1467,hy1468,h⟩:=bind_no h
     refine TL.cons (TL.callV (Lin:=[Blk b1 [.slice A2 a0_0.length c3,VI x758,VI x759] 67]) (args:=[VP b1 0,.string (⟨#[91]⟩:ByteArray)]) rfl rfl rfl hbd62 rfl rfl (parse_parser_take.calls (a0_0:=a0_0) (a0_1:=x758) (a0_2:=x759) (a1:=(⟨#[91]⟩:ByteArray)) hr4 hl5 hy1468) rfl ?_)
     rintro _ _ _ _ ⟨rfl,rfl,rfl⟩
     refine TV rfl rfl rfl (Val.assign rfl) ?_
     refine TL.nil ?_
     refine TQ.then_ ?_
     refine TC.cond_b rfl h (fun hc1491 h=>?_) (fun hc1491 h=>?_)
     ·
      refine TC.seq ?_
      refine TC.region ?_
      refine TV rfl rfl rfl (Val.move rfl) ?_
      refine TV rfl rfl rfl (Val.move rfl) ?_
      refine TV rfl rfl rfl (Val.cmp rfl rfl run_add) ?_
      obtain ⟨y1492,hy1493,h⟩:=bind_no h
      refine TL.cons (TL.callV (Lin:=[Blk b1 [.slice A2 a0_0.length c3,VI y1467.2,VI x759] 67]) (args:=[VP b1 0,VI (IntKind.i64.wrap (a1 + 1))]) rfl rfl rfl hbd72 rfl rfl (ih72 (a0_0:=a0_0) (a0_1:=y1467.2) (a0_2:=x759) (a1:=IntKind.i64.wrap (a1 + 1)) hr4 hl5 hy1493) rfl ?_)
      rintro _ _ _ _ ⟨rfl,A1494,c1495,rfl,rfl⟩
      refine TL.cons (TL.alloc (cs:=[VI 0,.string (⟨#[]⟩:ByteArray),VI 0,.slice none 0 0]) rfl rfl zr24 rfl (fun b1497=>?_))
      refine TL.cons (TL.store 0 (ds:=[VI y1492.1.f0,.string y1492.1.f1,VI y1492.1.f2,.slice A1494 y1492.1.f3.length c1495]) (cs':=[VI y1492.1.f0,.string y1492.1.f1,VI y1492.1.f2,.slice A1494 y1492.1.f3.length c1495]) (L':=(Blk b1497 [VI y1492.1.f0,.string y1492.1.f1,VI y1492.1.f2,.slice A1494 y1492.1.f3.length c1495] 24::Blk b1 [.slice A2 a0_0.length c3,VI y1492.2.1,VI y1492.2.2] 67::Row k24 24 (.slice A1494 y1492.1.f3.length c1495) y1492.1.f3::Blk b38 [VI x760,.string x761,VI y33.1.f2,.slice A763 l762.length c764] 24::Blk b6 [VI 0,.string (⟨#[]⟩:ByteArray),VI 0,.slice none 0 0] 24::Row k24 24 (.slice A763 l762.length c764) l762::L)) rfl fsz24 rfl rfl rfl rfl rfl (Nat.le_of_ble_eq_true rfl) rfl rfl ?_)
      refine TL.nil ?_
      refine TQ.then_ ?_
      refine TC.seq ?_
      refine TC.region ?_
      refine TV rfl rfl rfl (Val.move rfl) ?_
      refine TK.sel (Ls:=[Blk b1 [.slice A2 a0_0.length c3,VI y1492.2.1,VI y1492.2.2] 67,Blk b1497 [VI y1492.1.f0,.string y1492.1.f1,VI y1492.1.f2,.slice A1494 y1492.1.f3.length c1495] 24,Row k24 24 (.slice A1494 y1492.1.f3.length c1495) y1492.1.f3,Blk b38 [VI x760,.string x761,VI y33.1.f2,.slice A763 l762.length c764] 24,Blk b6 [VI 0,.string (⟨#[]⟩:ByteArray),VI 0,.slice none 0 0] 24,Row k24 24 (.slice A763 l762.length c764) l762]) [1,0,2,3,4,5] 6 rfl rfl rfl ?_
      obtain ⟨y1498,hy1499,h⟩:=bind_no h
      refine TL.cons (TL.callV (Lin:=[Blk b1 [.slice A2 a0_0.length c3,VI y1492.2.1,VI y1492.2.2] 67]) (args:=[VP b1 0,.string (⟨#[93]⟩:ByteArray)]) rfl rfl rfl hbd43 rfl rfl (parse_parser_must.calls (a0_0:=a0_0) (a0_1:=y1492.2.1) (a0_2:=y1492.2.2) (a1:=(⟨#[93]⟩:ByteArray)) hr4 hl5 hy1499) rfl ?_)
      rintro _ _ _ _ ⟨rfl,rfl,rfl⟩
      refine TL.nil ?_
      refine TQ.then_ ?_
      refine TC.region ?_
      refine TV rfl rfl rfl (Val.fieldAddrB Try.underlying24 rfl fsz3 rfl rfl rfl) ?_
      refine TV rfl rfl rfl (Val.loadB 3 agg3 rfl rfl rfl) ?_
      refine TV rfl rfl rfl (Val.loadsB 3 (cs:=[VI x760,.string x761,VI y33.1.f2,.slice A763 l762.length c764]) agg24 fsz24 rfl rfl rfl rfl) ?_
      refine TV rfl rfl rfl (Val.loadsB 1 (cs:=[VI y1492.1.f0,.string y1492.1.f1,VI y1492.1.f2,.slice A1494 y1492.1.f3.length c1495]) agg24 fsz24 rfl rfl rfl rfl) ?_
      refine TL.cons (TL.buildSlice (xs:=[.tmp 52,.tmp 53]) (vs:=[.agg #[VI x760,.string x761,VI y33.1.f2,.slice A763 l762.length c764],.agg #[VI y1492.1.f0,.string y1492.1.f1,VI y1492.1.f2,.slice A1494 y1492.1.f3.length c1495]]) (cs:=[VI x760,.string x761,VI y33.1.f2,.slice A763 l762.length c764,VI y1492.1.f0,.string y1492.1.f1,VI y1492.1.f2,.slice A1494 y1492.1.f3.length c1495]) rfl rfl Try.underlying22 zs24 rfl rfl rfl rfl rfl rfl rfl rfl (fun b1500=>?_))
      refine TV rfl rfl rfl (Val.build (cs:=[VI 23,.string (⟨#[]⟩:ByteArray),VI y33.1.f2,.slice (some ⟨b1500,0,none⟩) 2 2]) (is:=[0,2,3]) (xs:=[.const (VI 23),.tmp 51,.tmp 54]) Try.underlying24 zr24 bld24 rfl rfl rfl rfl) ?_
      refine TL.cons (TL.store 4 (ds:=[VI 23,.string (⟨#[]⟩:ByteArray),VI y33.1.f2,.slice (some ⟨b1500,0,none⟩) 2 2]) (cs':=[VI 23,.string (⟨#[]⟩:ByteArray),VI y33.1.f2,.slice (some ⟨b1500,0,none⟩) 2 2]) (L':=(Blk b1500 [VI x760,.string x761,VI y33.1.f2,.slice A763 l762.length c764,VI y1492.1.f0,.string y1492.1.f1,VI y1492.1.f2,.slice A1494 y1492.1.f3.length c1495] 24::Blk b1 [.slice A2 a0_0.length c3,VI y1498.1,VI y1498.2] 67::Blk b1497 [VI y1492.1.f0,.string y1492.1.f1,VI y1492.1.f2,.slice A1494 y1492.1.f3.length c1495] 24::Row k24 24 (.slice A1494 y1492.1.f3.length c1495) y1492.1.f3::Blk b38 [VI 23,.string (⟨#[]⟩:ByteArray),VI y33.1.f2,.slice (some ⟨b1500,0,none⟩) 2 2] 24::Blk b6 [VI 0,.string (⟨#[]⟩:ByteArray),VI 0,.slice none 0 0] 24::Row k24 24 (.slice A763 l762.length c764) l762::L)) rfl fsz24 rfl rfl rfl rfl rfl (Nat.le_of_ble_eq_true rfl) rfl rfl ?_)
      refine TL.nil ?_
      refine TQ.inB ?_
      refine TQ.inB ?_
      refine TQ.new (Els.nil k24) ?_
      refine TQ.sel (Ls:=[Row k24 24 (.slice A763 l762.length c764) l762,Els k24 [] [],Blk b1500 [VI x760,.string x761,VI y33.1.f2,.slice A763 l762.length c764,VI y1492.1.f0,.string y1492.1.f1,VI y1492.1.f2,.slice A1494 y1492.1.f3.length c1495] 24,Blk b1 [.slice A2 a0_0.length c3,VI y1498.1,VI y1498.2] 67,Blk b1497 [VI y1492.1.f0,.string y1492.1.f1,VI y1492.1.f2,.slice A1494 y1492.1.f3.length c1495] 24,Row k24 24 (.slice A1494 y1492.1.f3.length c1495) y1492.1.f3,Blk b38 [VI 23,.string (⟨#[]⟩:ByteArray),VI y33.1.f2,.slice (some ⟨b1500,0,none⟩) 2 2] 24,Blk b6 [VI 0,.string (⟨#[]⟩:ByteArray),VI 0,.slice none 0 0] 24]) [7,0,1,2,3,4,5,6] 8 rfl rfl rfl ?_
      refine TQ.conv (ch':=El k24 (⟨x760,x761,y33.1.f2,l762⟩:S24) [VI x760,.string x761,VI y33.1.f2,.slice A763 l762.length c764]) (fun B W F hh=>k24_mkM W B F (⟨x760,x761,y33.1.f2,l762⟩:S24) hh) ?_
      refine TQ.sel (Ls:=[Els k24 [] [],El k24 (⟨x760,x761,y33.1.f2,l762⟩:S24) [VI x760,.string x761,VI y33.1.f2,.slice A763 l762.length c764],Blk b1500 [VI x760,.string x761,VI y33.1.f2,.slice A763 l762.length c764,VI y1492.1.f0,.string y1492.1.f1,VI y1492.1.f2,.slice A1494 y1492.1.f3.length c1495] 24,Blk b1 [.slice A2 a0_0.length c3,VI y1498.1,VI y1498.2] 67,Blk b1497 [VI y1492.1.f0,.string y1492.1.f1,VI y1492.1.f2,.slice A1494 y1492.1.f3.length c1495] 24,Row k24 24 (.slice A1494 y1492.1.f3.length c1495) y1492.1.f3,Blk b38 [VI 23,.string (⟨#[]⟩:ByteArray),VI y33.1.f2,.slice (some ⟨b1500,0,none⟩) 2 2] 24,Blk b6 [VI 0,.string (⟨#[]⟩:ByteArray),VI 0,.slice none 0 0] 24]) [1,0,2,3,4,5,6,7] 8 rfl rfl rfl ?_
      refine TQ.two (ch:=Els k24 [(⟨x760,x761,y33.1.f2,l762⟩:S24)] [VI x760,.string x761,VI y33.1.f2,.slice A763 l762.length c764]) (Els.snoc k24) ?_
      refine TQ.sel (Ls:=[Row k24 24 (.slice A1494 y1492.1.f3.length c1495) y1492.1.f3,Els k24 [(⟨x760,x761,y33.1.f2,l762⟩:S24)] [VI x760,.string x761,VI y33.1.f2,.slice A763 l762.length c764],Blk b1500 [VI x760,.string x761,VI y33.1.f2,.slice A763 l762.length c764,VI y1492.1.f0,.string y1492.1.f1,VI y1492.1.f2,.slice A1494 y1492.1.f3.length c1495] 24,Blk b1 [.slice A2 a0_0.length c3,VI y1498.1,VI y1498.2] 67,Blk b1497 [VI y1492.1.f0,.string y1492.1.f1,VI y1492.1.f2,.slice A1494 y1492.1.f3.length c1495] 24,Blk b38 [VI 23,.string (⟨#[]⟩:ByteArray),VI y33.1.f2,.slice (some ⟨b1500,0,none⟩) 2 2] 24,Blk b6 [VI 0,.string (⟨#[]⟩:ByteArray),VI 0,.slice none 0 0] 24]) [4,0,1,2,3,5,6] 7 rfl rfl rfl ?_
      refine TQ.conv (ch':=El k24 y1492.1 [VI y1492.1.f0,.string y1492.1.f1,VI y1492.1.f2,.slice A1494 y1492.1.f3.length c1495]) (fun B W F hh=>k24_mkM W B F y1492.1 hh) ?_
      refine TQ.sel (Ls:=[Els k24 [(⟨x760,x761,y33.1.f2,l762⟩:S24)] [VI x760,.string x761,VI y33.1.f2,.slice A763 l762.length c764],El k24 y1492.1 [VI y1492.1.f0,.string y1492.1.f1,VI y1492.1.f2,.slice A1494 y1492.1.f3.length c1495],Blk b1500 [VI x760,.string x761,VI y33.1.f2,.slice A763 l762.length c764,VI y1492.1.f0,.string y1492.1.f1,VI y1492.1.f2,.slice A1494 y1492.1.f3.length c1495] 24,Blk b1 [.slice A2 a0_0.length c3,VI y1498.1,VI y1498.2] 67,Blk b1497 [VI y1492.1.f0,.string y1492.1.f1,VI y1492.1.f2,.slice A1494 y1492.1.f3.length c1495] 24,Blk b38 [VI 23,.string (⟨#[]⟩:ByteArray),VI y33.1.f2,.slice (some ⟨b1500,0,none⟩) 2 2] 24,Blk b6 [VI 0,.string (⟨#[]⟩:ByteArray),VI 0,.slice none 0 0] 24]) [1,0,2,3,4,5,6] 7 rfl rfl rfl ?_
      refine TQ.two (ch:=Els k24 [(⟨x760,x761,y33.1.f2,l762⟩:S24),y1492.1] [VI x760,.string x761,VI y33.1.f2,.slice A763 l762.length c764,VI y1492.1.f0,.string y1492.1.f1,VI y1492.1.f2,.slice A1494 y1492.1.f3.length c1495]) (Els.snoc k24) ?_
      refine TQ.sel (Ls:=[Blk b1500 [VI x760,.string x761,VI y33.1.f2,.slice A763 l762.length c764,VI y1492.1.f0,.string y1492.1.f1,VI y1492.1.f2,.slice A1494 y1492.1.f3.length c1495] 24,Els k24 [(⟨x760,x761,y33.1.f2,l762⟩:S24),y1492.1] [VI x760,.string x761,VI y33.1.f2,.slice A763 l762.length c764,VI y1492.1.f0,.string y1492.1.f1,VI y1492.1.f2,.slice A1494 y1492.1.f3.length c1495],Blk b1 [.slice A2 a0_0.length c3,VI y1498.1,VI y1498.2] 67,Blk b1497 [VI y1492.1.f0,.string y1492.1.f1,VI y1492.1.f2,.slice A1494 y1492.1.f3.length c1495] 24,Blk b38 [VI 23,.string (⟨#[]⟩:ByteArray),VI y33.1.f2,.slice (some ⟨b1500,0,none⟩) 2 2] 24,Blk b6 [VI 0,.string (⟨#[]⟩:ByteArray),VI 0,.slice none 0 0] 24]) [1,0,2,3,4,5] 6 rfl rfl rfl ?_
      refine TQ.two (ch:=Row k24 24 (.slice (some ⟨b1500,0,none⟩) 2 2) ([(⟨x760,x761,y33.1.f2,l762⟩:S24),y1492.1]:List S24)) (Row.lit k24 rfl rfl) ?_
      exact fun a W hF hO=>⟨y1498.1,y1498.2,23,(⟨#[]⟩:ByteArray),([(⟨x760,x761,y33.1.f2,l762⟩:S24),y1492.1]:List S24),(some ⟨b1500,0,none⟩),2,h,hF.sub ⟨rfl,rfl,rfl,rfl,trivial⟩,hO.selT (Ls:=[Blk b1 [.slice A2 a0_0.length c3,VI y1498.1,VI y1498.2] 67,Blk b38 [VI 23,.string (⟨#[]⟩:ByteArray),VI y33.1.f2,.slice (some ⟨b1500,0,none⟩) ([(⟨x760,x761,y33.1.f2,l762⟩:S24),y1492.1]:List S24).length 2] 24,Blk b6 [VI 0,.string (⟨#[]⟩:ByteArray),VI 0,.slice none 0 0] 24,Row k24 24 (.slice (some ⟨b1500,0,none⟩) ([(⟨x760,x761,y33.1.f2,l762⟩:S24),y1492.1]:List S24).length 2) ([(⟨x760,x761,y33.1.f2,l762⟩:S24),y1492.1]:List S24)]) [1,3,4,0] 5 rfl rfl rfl⟩
     ·
      refine TC.seq ?_
      refine TC.region ?_
      refine TV rfl rfl rfl (Val.move rfl) ?_
      obtain ⟨y1502,hy1503,h⟩:=bind_no h
      refine TL.cons (TL.callV (Lin:=[Blk b1 [.slice A2 a0_0.length c3,VI y1467.2,VI x759] 67]) (args:=[VP b1 0,.string (⟨#[46]⟩:ByteArray)]) rfl rfl rfl hbd62 rfl rfl (parse_parser_take.calls (a0_0:=a0_0) (a0_1:=y1467.2) (a0_2:=x759) (a1:=(⟨#[46]⟩:ByteArray)) hr4 hl5 hy1503) rfl ?_)
      rintro _ _ _ _ ⟨rfl,rfl,rfl⟩
      refine TV rfl rfl rfl (Val.assign rfl) ?_
      refine TL.nil ?_
      refine TQ.then_ ?_
      refine TC.cond_b rfl h (fun hc1514 h=>?_) (fun hc1514 h=>?_)
      ·
       refine TC.regionAnyS (L0:=(Blk b38 [VI x760,.string x761,VI y33.1.f2,.slice A763 l762.length c764] 24::Blk b6 [VI 0,.string (⟨#[]⟩:ByteArray),VI 0,.slice none 0 0] 24::Row k24 24 (.slice A763 l762.length c764) l762::L)) [7] [0,2,3,4,6] mixed (by kernel_rfl) ?_
       refine TA.take 0 rfl (by kernel_rfl) rfl (PQ.inB (PQ.inB (PQ.then_ (PQ.inB (PQ.then_ PQ.body))))) rfl (Val.move rfl) (fun W hO=>hO.selT (Ls:=[Blk b38 [VI x760,.string x761,VI y33.1.f2,.slice A763 l762.length c764] 24,Blk b6 [VI 0,.string (⟨#[]⟩:ByteArray),VI 0,.slice none 0 0] 24,Row k24 24 (.slice A763 l762.length c764) l762]) [1,2,3] 4 rfl rfl rfl) ?_
       refine TA.take 2 rfl (by kernel_rfl) rfl (PQ.inB (PQ.inB (PQ.then_ (PQ.inB (PQ.then_ PQ.body))))) rfl (Val.fieldAddrB Try.underlying24 rfl fsz3 rfl rfl rfl) (fun W hO=>hO.selT (Ls:=[Blk b38 [VI x760,.string x761,VI y33.1.f2,.slice A763 l762.length c764] 24,Blk b6 [VI 0,.string (⟨#[]⟩:ByteArray),VI 0,.slice none 0 0] 24,Row k24 24 (.slice A763 l762.length c764) l762]) [1,2,3] 4 rfl rfl rfl) ?_
       refine TA.take 3 rfl (by kernel_rfl) rfl (PQ.inB (PQ.inB (PQ.then_ (PQ.inB (PQ.then_ PQ.body))))) rfl (Val.loadB 0 agg3 rfl rfl rfl) (fun W hO=>hO.selT (Ls:=[Blk b38 [VI x760,.string x761,VI y33.1.f2,.slice A763 l762.length c764] 24,Blk b6 [VI 0,.string (⟨#[]⟩:ByteArray),VI 0,.slice none 0 0] 24,Row k24 24 (.slice A763 l762.length c764) l762]) [1,2,3] 4 rfl rfl rfl) ?_
       refine TA.take 4 rfl (by kernel_rfl) rfl (PQ.inB (PQ.inB (PQ.then_ (PQ.inB (PQ.then_ PQ.body))))) rfl (Val.loadsB 0 (cs:=[VI x760,.string x761,VI y33.1.f2,.slice A763 l762.length c764]) agg24 fsz24 rfl rfl rfl rfl) (fun W hO=>hO.selT (Ls:=[Blk b38 [VI x760,.string x761,VI y33.1.f2,.slice A763 l762.length c764] 24,Blk b6 [VI 0,.string (⟨#[]⟩:ByteArray),VI 0,.slice none 0 0] 24,Row k24 24 (.slice A763 l762.length c764) l762]) [1,2,3] 4 rfl rfl rfl) ?_
       refine TA.effs 1 [5] (by kernel_rfl) ⟨⟨_,rfl,?_⟩,⟨_,rfl,?_⟩,trivial⟩
       ·
        obtain ⟨y1527,hy1528,h⟩:=bind_no h
        refine TL.callV (Lin:=[Blk b1 [.slice A2 a0_0.length c3,VI y1502.2,VI x759] 67]) (args:=[VP b1 0,VI 2]) rfl rfl rfl hbd44 rfl rfl (parse_parser_text.calls (a0_0:=a0_0) (a0_1:=y1502.2) (a0_2:=x759) (a1:=2) hr4 hl5 hy1528) rfl ?_
        rintro _ _ _ _ ⟨rfl,rfl,rfl⟩
        refine TA.next (fun W hO=>hO.selT (Ls:=[Blk b38 [VI x760,.string x761,VI y33.1.f2,.slice A763 l762.length c764] 24,Blk b6 [VI 0,.string (⟨#[]⟩:ByteArray),VI 0,.slice none 0 0] 24,Row k24 24 (.slice A763 l762.length c764) l762]) [1,2,3] 4 rfl rfl rfl) ?_
        refine TA.eff 5 rfl (by kernel_rfl) rfl (TL.buildSlice (xs:=[.tmp 63]) (vs:=[.agg #[VI x760,.string x761,VI y33.1.f2,.slice A763 l762.length c764]]) (cs:=[VI x760,.string x761,VI y33.1.f2,.slice A763 l762.length c764]) rfl rfl Try.underlying22 zs24 rfl rfl rfl rfl rfl rfl rfl rfl (fun b1529=>?_))
        refine TA.next (fun W hO=>hO.selT (Ls:=[Blk b38 [VI x760,.string x761,VI y33.1.f2,.slice A763 l762.length c764] 24,Blk b6 [VI 0,.string (⟨#[]⟩:ByteArray),VI 0,.slice none 0 0] 24,Row k24 24 (.slice A763 l762.length c764) l762]) [2,3,4] 5 rfl rfl rfl) ?_
        refine TA.take 6 rfl (by kernel_rfl) rfl (PQ.inB (PQ.inB (PQ.then_ (PQ.inB (PQ.then_ PQ.body))))) rfl (Val.build (cs:=[VI 24,.string y1527.1,VI y33.1.f2,.slice (some ⟨b1529,0,none⟩) 1 1]) (is:=[0,1,2,3]) (xs:=[.const (VI 24),.tmp 60,.tmp 62,.tmp 64]) Try.underlying24 zr24 bld24 rfl rfl rfl rfl) (fun W hO=>hO.selT (Ls:=[Blk b38 [VI x760,.string x761,VI y33.1.f2,.slice A763 l762.length c764] 24,Blk b6 [VI 0,.string (⟨#[]⟩:ByteArray),VI 0,.slice none 0 0] 24,Row k24 24 (.slice A763 l762.length c764) l762]) [2,3,4] 5 rfl rfl rfl) ?_
        refine TA.eff 7 rfl (by kernel_rfl) rfl (TL.store 2 (ds:=[VI 24,.string y1527.1,VI y33.1.f2,.slice (some ⟨b1529,0,none⟩) 1 1]) (cs':=[VI 24,.string y1527.1,VI y33.1.f2,.slice (some ⟨b1529,0,none⟩) 1 1]) (L':=(Blk b1529 [VI x760,.string x761,VI y33.1.f2,.slice A763 l762.length c764] 24::Blk b1 [.slice A2 a0_0.length c3,VI y1527.2.1,VI y1527.2.2] 67::Blk b38 [VI 24,.string y1527.1,VI y33.1.f2,.slice (some ⟨b1529,0,none⟩) 1 1] 24::Blk b6 [VI 0,.string (⟨#[]⟩:ByteArray),VI 0,.slice none 0 0] 24::Row k24 24 (.slice A763 l762.length c764) l762::L)) rfl fsz24 rfl rfl rfl rfl rfl (Nat.le_of_ble_eq_true rfl) rfl rfl ?_)
        refine TA.last rfl ?_
        refine TA.done (by kernel_rfl) ?_
        refine TQ.inB ?_
        refine TQ.inB ?_
        refine TQ.new (Els.nil k24) ?_
        refine TQ.sel (Ls:=[Row k24 24 (.slice A763 l762.length c764) l762,Els k24 [] [],Blk b1529 [VI x760,.string x761,VI y33.1.f2,.slice A763 l762.length c764] 24,Blk b1 [.slice A2 a0_0.length c3,VI y1527.2.1,VI y1527.2.2] 67,Blk b38 [VI 24,.string y1527.1,VI y33.1.f2,.slice (some ⟨b1529,0,none⟩) 1 1] 24,Blk b6 [VI 0,.string (⟨#[]⟩:ByteArray),VI 0,.slice none 0 0] 24]) [5,0,1,2,3,4] 6 rfl rfl rfl ?_
        refine TQ.conv (ch':=El k24 (⟨x760,x761,y33.1.f2,l762⟩:S24) [VI x760,.string x761,VI y33.1.f2,.slice A763 l762.length c764]) (fun B W F hh=>k24_mkM W B F (⟨x760,x761,y33.1.f2,l762⟩:S24) hh) ?_
        refine TQ.sel (Ls:=[Els k24 [] [],El k24 (⟨x760,x761,y33.1.f2,l762⟩:S24) [VI x760,.string x761,VI y33.1.f2,.slice A763 l762.length c764],Blk b1529 [VI x760,.string x761,VI y33.1.f2,.slice A763 l762.length c764] 24,Blk b1 [.slice A2 a0_0.length c3,VI y1527.2.1,VI y1527.2.2] 67,Blk b38 [VI 24,.string y1527.1,VI y33.1.f2,.slice (some ⟨b1529,0,none⟩) 1 1] 24,Blk b6 [VI 0,.string (⟨#[]⟩:ByteArray),VI 0,.slice none 0 0] 24]) [1,0,2,3,4,5] 6 rfl rfl rfl ?_
        refine TQ.two (ch:=Els k24 [(⟨x760,x761,y33.1.f2,l762⟩:S24)] [VI x760,.string x761,VI y33.1.f2,.slice A763 l762.length c764]) (Els.snoc k24) ?_
        refine TQ.sel (Ls:=[Blk b1529 [VI x760,.string x761,VI y33.1.f2,.slice A763 l762.length c764] 24,Els k24 [(⟨x760,x761,y33.1.f2,l762⟩:S24)] [VI x760,.string x761,VI y33.1.f2,.slice A763 l762.length c764],Blk b1 [.slice A2 a0_0.length c3,VI y1527.2.1,VI y1527.2.2] 67,Blk b38 [VI 24,.string y1527.1,VI y33.1.f2,.slice (some ⟨b1529,0,none⟩) 1 1] 24,Blk b6 [VI 0,.string (⟨#[]⟩:ByteArray),VI 0,.slice none 0 0] 24]) [1,0,2,3,4] 5 rfl rfl rfl ?_
        refine TQ.two (ch:=Row k24 24 (.slice (some ⟨b1529,0,none⟩) 1 1) ([(⟨x760,x761,y33.1.f2,l762⟩:S24)]:List S24)) (Row.lit k24 rfl rfl) ?_
        exact fun a W hF hO=>⟨y1527.2.1,y1527.2.2,24,y1527.1,([(⟨x760,x761,y33.1.f2,l762⟩:S24)]:List S24),(some ⟨b1529,0,none⟩),1,h,hF.sub ⟨rfl,rfl,rfl,rfl,trivial⟩,hO.selT (Ls:=[Blk b1 [.slice A2 a0_0.length c3,VI y1527.2.1,VI y1527.2.2] 67,Blk b38 [VI 24,.string y1527.1,VI y33.1.f2,.slice (some ⟨b1529,0,none⟩) ([(⟨x760,x761,y33.1.f2,l762⟩:S24)]:List S24).length 1] 24,Blk b6 [VI 0,.string (⟨#[]⟩:ByteArray),VI 0,.slice none 0 0] 24,Row k24 24 (.slice (some ⟨b1529,0,none⟩) ([(⟨x760,x761,y33.1.f2,l762⟩:S24)]:List S24).length 1) ([(⟨x760,x761,y33.1.f2,l762⟩:S24)]:List S24)]) [1,2,3,0] 4 rfl rfl rfl⟩
       ·
        refine TL.buildSlice (xs:=[.tmp 63]) (vs:=[.agg #[VI x760,.string x761,VI y33.1.f2,.slice A763 l762.length c764]]) (cs:=[VI x760,.string x761,VI y33.1.f2,.slice A763 l762.length c764]) rfl rfl Try.underlying22 zs24 rfl rfl rfl rfl rfl rfl rfl rfl (fun b1531=>?_)
        refine TA.next (fun W hO=>hO.selT (Ls:=[Blk b38 [VI x760,.string x761,VI y33.1.f2,.slice A763 l762.length c764] 24,Blk b6 [VI 0,.string (⟨#[]⟩:ByteArray),VI 0,.slice none 0 0] 24,Row k24 24 (.slice A763 l762.length c764) l762]) [2,3,4] 5 rfl rfl rfl) ?_
        refine TK.sel (Ls:=[Blk b1 [.slice A2 a0_0.length c3,VI y1502.2,VI x759] 67,Blk b1531 [VI x760,.string x761,VI y33.1.f2,.slice A763 l762.length c764] 24,Blk b38 [VI x760,.string x761,VI y33.1.f2,.slice A763 l762.length c764] 24,Blk b6 [VI 0,.string (⟨#[]⟩:ByteArray),VI 0,.slice none 0 0] 24,Row k24 24 (.slice A763 l762.length c764) l762]) [1,0,2,3,4] 5 rfl rfl rfl ?_
        obtain ⟨y1532,hy1533,h⟩:=bind_no h
        refine TA.eff 1 rfl (by kernel_rfl) rfl (TL.callV (Lin:=[Blk b1 [.slice A2 a0_0.length c3,VI y1502.2,VI x759] 67]) (args:=[VP b1 0,VI 2]) rfl rfl rfl hbd44 rfl rfl (parse_parser_text.calls (a0_0:=a0_0) (a0_1:=y1502.2) (a0_2:=x759) (a1:=2) hr4 hl5 hy1533) rfl ?_)
        rintro _ _ _ _ ⟨rfl,rfl,rfl⟩
        refine TA.next (fun W hO=>hO.selT (Ls:=[Blk b38 [VI x760,.string x761,VI y33.1.f2,.slice A763 l762.length c764] 24,Blk b6 [VI 0,.string (⟨#[]⟩:ByteArray),VI 0,.slice none 0 0] 24,Row k24 24 (.slice A763 l762.length c764) l762]) [2,3,4] 5 rfl rfl rfl) ?_
        refine TA.take 6 rfl (by kernel_rfl) rfl (PQ.inB (PQ.inB (PQ.then_ (PQ.inB (PQ.then_ PQ.body))))) rfl (Val.build (cs:=[VI 24,.string y1532.1,VI y33.1.f2,.slice (some ⟨b1531,0,none⟩) 1 1]) (is:=[0,1,2,3]) (xs:=[.const (VI 24),.tmp 60,.tmp 62,.tmp 64]) Try.underlying24 zr24 bld24 rfl rfl rfl rfl) (fun W hO=>hO.selT (Ls:=[Blk b38 [VI x760,.string x761,VI y33.1.f2,.slice A763 l762.length c764] 24,Blk b6 [VI 0,.string (⟨#[]⟩:ByteArray),VI 0,.slice none 0 0] 24,Row k24 24 (.slice A763 l762.length c764) l762]) [2,3,4] 5 rfl rfl rfl) ?_
        refine TA.eff 7 rfl (by kernel_rfl) rfl (TL.store 2 (ds:=[VI 24,.string y1532.1,VI y33.1.f2,.slice (some ⟨b1531,0,none⟩) 1 1]) (cs':=[VI 24,.string y1532.1,VI y33.1.f2,.slice (some ⟨b1531,0,none⟩) 1 1]) (L':=(Blk b1 [.slice A2 a0_0.length c3,VI y1532.2.1,VI y1532.2.2] 67::Blk b1531 [VI x760,.string x761,VI y33.1.f2,.slice A763 l762.length c764] 24::Blk b38 [VI 24,.string y1532.1,VI y33.1.f2,.slice (some ⟨b1531,0,none⟩) 1 1] 24::Blk b6 [VI 0,.string (⟨#[]⟩:ByteArray),VI 0,.slice none 0 0] 24::Row k24 24 (.slice A763 l762.length c764) l762::L)) rfl fsz24 rfl rfl rfl rfl rfl (Nat.le_of_ble_eq_true rfl) rfl rfl ?_)
        refine TA.last rfl ?_
        refine TA.done (by kernel_rfl) ?_
        refine TQ.inB ?_
        refine TQ.inB ?_
        refine TQ.new (Els.nil k24) ?_
        refine TQ.sel (Ls:=[Row k24 24 (.slice A763 l762.length c764) l762,Els k24 [] [],Blk b1 [.slice A2 a0_0.length c3,VI y1532.2.1,VI y1532.2.2] 67,Blk b1531 [VI x760,.string x761,VI y33.1.f2,.slice A763 l762.length c764] 24,Blk b38 [VI 24,.string y1532.1,VI y33.1.f2,.slice (some ⟨b1531,0,none⟩) 1 1] 24,Blk b6 [VI 0,.string (⟨#[]⟩:ByteArray),VI 0,.slice none 0 0] 24]) [5,0,1,2,3,4] 6 rfl rfl rfl ?_
        refine TQ.conv (ch':=El k24 (⟨x760,x761,y33.1.f2,l762⟩:S24) [VI x760,.string x761,VI y33.1.f2,.slice A763 l762.length c764]) (fun B W F hh=>k24_mkM W B F (⟨x760,x761,y33.1.f2,l762⟩:S24) hh) ?_
        refine TQ.sel (Ls:=[Els k24 [] [],El k24 (⟨x760,x761,y33.1.f2,l762⟩:S24) [VI x760,.string x761,VI y33.1.f2,.slice A763 l762.length c764],Blk b1 [.slice A2 a0_0.length c3,VI y1532.2.1,VI y1532.2.2] 67,Blk b1531 [VI x760,.string x761,VI y33.1.f2,.slice A763 l762.length c764] 24,Blk b38 [VI 24,.string y1532.1,VI y33.1.f2,.slice (some ⟨b1531,0,none⟩) 1 1] 24,Blk b6 [VI 0,.string (⟨#[]⟩:ByteArray),VI 0,.slice none 0 0] 24]) [1,0,2,3,4,5] 6 rfl rfl rfl ?_
        refine TQ.two (ch:=Els k24 [(⟨x760,x761,y33.1.f2,l762⟩:S24)] [VI x760,.string x761,VI y33.1.f2,.slice A763 l762.length c764]) (Els.snoc k24) ?_
        refine TQ.sel (Ls:=[Blk b1531 [VI x760,.string x761,VI y33.1.f2,.slice A763 l762.length c764] 24,Els k24 [(⟨x760,x761,y33.1.f2,l762⟩:S24)] [VI x760,.string x761,VI y33.1.f2,.slice A763 l762.length c764],Blk b1 [.slice A2 a0_0.length c3,VI y1532.2.1,VI y1532.2.2] 67,Blk b38 [VI 24,.string y1532.1,VI y33.1.f2,.slice (some ⟨b1531,0,none⟩) 1 1] 24,Blk b6 [VI 0,.string (⟨#[]⟩:ByteArray),VI 0,.slice none 0 0] 24]) [2,0,1,3,4] 5 rfl rfl rfl ?_
        refine TQ.two (ch:=Row k24 24 (.slice (some ⟨b1531,0,none⟩) 1 1) ([(⟨x760,x761,y33.1.f2,l762⟩:S24)]:List S24)) (Row.lit k24 rfl rfl) ?_
        exact fun a W hF hO=>⟨y1532.2.1,y1532.2.2,24,y1532.1,([(⟨x760,x761,y33.1.f2,l762⟩:S24)]:List S24),(some ⟨b1531,0,none⟩),1,h,hF.sub ⟨rfl,rfl,rfl,rfl,trivial⟩,hO.selT (Ls:=[Blk b1 [.slice A2 a0_0.length c3,VI y1532.2.1,VI y1532.2.2] 67,Blk b38 [VI 24,.string y1532.1,VI y33.1.f2,.slice (some ⟨b1531,0,none⟩) ([(⟨x760,x761,y33.1.f2,l762⟩:S24)]:List S24).length 1] 24,Blk b6 [VI 0,.string (⟨#[]⟩:ByteArray),VI 0,.slice none 0 0] 24,Row k24 24 (.slice (some ⟨b1531,0,none⟩) ([(⟨x760,x761,y33.1.f2,l762⟩:S24)]:List S24).length 1) ([(⟨x760,x761,y33.1.f2,l762⟩:S24)]:List S24)]) [1,2,3,0] 4 rfl rfl rfl⟩
      ·
       refine TC.seq ?_
       refine TC.region ?_
       refine TV rfl rfl rfl (Val.loadsB 1 (cs:=[VI x760,.string x761,VI y33.1.f2,.slice A763 l762.length c764]) agg24 fsz24 rfl rfl rfl rfl) ?_
       refine TL.cons (TL.store 2 (ds:=[VI x760,.string x761,VI y33.1.f2,.slice A763 l762.length c764]) (cs':=[VI x760,.string x761,VI y33.1.f2,.slice A763 l762.length c764]) (L':=(Blk b1 [.slice A2 a0_0.length c3,VI y1502.2,VI x759] 67::Blk b38 [VI x760,.string x761,VI y33.1.f2,.slice A763 l762.length c764] 24::Blk b6 [VI x760,.string x761,VI y33.1.f2,.slice A763 l762.length c764] 24::Row k24 24 (.slice A763 l762.length c764) l762::L)) rfl fsz24 rfl rfl rfl rfl rfl (Nat.le_of_ble_eq_true rfl) rfl rfl ?_)
       refine TL.nil ?_
       refine TQ.then_ ?_
       refine TC.ret ?_
       refine TQ.inBR ?_
       refine TQ.inBR ?_
       refine TQ.thenR ?_
       refine TQ.inBR ?_
       refine TQ.thenR ?_
       obtain rfl:=Option.some.inj h
       have h:=ko1009
       obtain rfl:=Option.some.inj h
       exact TQ.fin (.inl rfl) rfl Try.results75 (.cells 2 rfl rfl agg24 fsz24 .nil) rfl (FRel.mk (Ls:=[Blk b1 [.slice A2 a0_0.length c3,VI y1502.2,VI x759] 67,Row k24 24 (.slice A763 l762.length c764) l762]) [0,3] 4 (Gd.le.refl _) rfl rfl rfl ⟨rfl,A763,c764,rfl,rfl⟩)
def parse_parser_primary.g (rec72:((List S41) → Int → Int → Int → Option (S24 × Int × Int))) (rec74:((List S41) → Int → Int → Int → Int → Option (S24 × Int × Int))) (rec75:((List S41) → Int → Int → Int → Option (S24 × Int × Int))) (rec78:((List S41) → Int → Int → Int → Option (S24 × Int × Int))) (rec79:((List S41) → Int → Int → Int → Option (S24 × Int × Int))) (a0_0:(List S41)) (a0_1:Int) (a0_2:Int) (a1:Int):Option (S24 × Int × Int):=(parse_parser_start.f a0_0 a0_1 a0_2).bind fun (y7:Int)=>(parse_parser_free.f a0_0 a0_1 a0_2 2).bind fun (y169:Bool)=>jn (γ:=(S24 × Int × Int)) (fun (x207:Int) (x208:Int) (x209:Int) (x210:ByteArray) (x211:Int) (l212:(List S24))=>some ((⟨x209,x210,x211,l212⟩:S24),x207,x208)) (fun (j216:(Int → Int → Int → ByteArray → Int → (List S24) → Option (S24 × Int × Int)))=>(if y169=true then (parse_parser_text.f a0_0 a0_1 a0_2 2).bind fun (y218:(ByteArray × Int × Int))=>j216 y218.2.1 y218.2.2 17 y218.1 y7 [] else (parse_parser_free.f a0_0 a0_1 a0_2 1).bind fun (y220:Bool)=>(if y220=true then (rec79 a0_0 a0_1 a0_2 a1).bind fun (y254:(S24 × Int × Int))=>some (y254.1,y254.2.1,y254.2.2) else (parse_parser_take.f a0_0 a0_1 a0_2 (⟨#[114,101,97,100]⟩:ByteArray)).bind fun (y259:(Bool × Int))=>(if y259.1=true then j216 y259.2 a0_2 27 (⟨#[]⟩:ByteArray) y7 [] else (parse_parser_take.f a0_0 y259.2 a0_2 (⟨#[110,101,119]⟩:ByteArray)).bind fun (y285:(Bool × Int))=>(if y285.1=true then (parse_parser_must.f a0_0 y285.2 a0_2 (⟨#[40]⟩:ByteArray)).bind fun (y308:(Int × Int))=>(parse_parser_typ.f a0_0 y308.1 y308.2 (IntKind.i64.wrap (a1 + 1))).bind fun (y310:(S24 × Int × Int))=>(parse_parser_must.f a0_0 y310.2.1 y310.2.2 (⟨#[41]⟩:ByteArray)).bind fun (y316:(Int × Int))=>j216 y316.1 y316.2 26 (⟨#[]⟩:ByteArray) y7 ([y310.1]:List S24) else (parse_parser_must.f a0_0 y285.2 a0_2 (⟨#[40]⟩:ByteArray)).bind fun (y319:(Int × Int))=>(rec72 a0_0 y319.1 y319.2 (IntKind.i64.wrap (a1 + 1))).bind fun (y321:(S24 × Int × Int))=>(parse_parser_must.f a0_0 y321.2.1 y321.2.2 (⟨#[41]⟩:ByteArray)).bind fun (y326:(Int × Int))=>j216 y326.1 y326.2 y321.1.f0 y321.1.f1 y321.1.f2 y321.1.f3)))))
theorem parse_parser_primary.step (rec72:((List S41) → Int → Int → Int → Option (S24 × Int × Int))) (rec74:((List S41) → Int → Int → Int → Int → Option (S24 × Int × Int))) (rec75:((List S41) → Int → Int → Int → Option (S24 × Int × Int))) (rec78:((List S41) → Int → Int → Int → Option (S24 × Int × Int))) (rec79:((List S41) → Int → Int → Int → Option (S24 × Int × Int))) (ih72:∀ {G:Gd} {r:(S24 × Int × Int)} {a0_0:(List S41)} {a0_1:Int} {a0_2:Int} {a1:Int} {b1:Nat} {A2:Option Addr} {c3:Nat} (hr4:Rd G k41 A2 a0_0) (hl5:a0_0.length ≤ c3),rec72 a0_0 a0_1 a0_2 a1=some r → Fn Try.prog 72 G [Blk b1 [.slice A2 a0_0.length c3,VI a0_1,VI a0_2] 67] [VP b1 0,VI a1] (parse_parser_expr.post G b1 A2 c3 a0_0 a0_1 a0_2 a1 r)) (ih74:∀ {G:Gd} {r:(S24 × Int × Int)} {a0_0:(List S41)} {a0_1:Int} {a0_2:Int} {a1:Int} {a2:Int} {b1:Nat} {A2:Option Addr} {c3:Nat} (hr4:Rd G k41 A2 a0_0) (hl5:a0_0.length ≤ c3),rec74 a0_0 a0_1 a0_2 a1 a2=some r → Fn Try.prog 74 G [Blk b1 [.slice A2 a0_0.length c3,VI a0_1,VI a0_2] 67] [VP b1 0,VI a1,VI a2] (parse_parser_climb.post G b1 A2 c3 a0_0 a0_1 a0_2 a1 a2 r)) (ih75:∀ {G:Gd} {r:(S24 × Int × Int)} {a0_0:(List S41)} {a0_1:Int} {a0_2:Int} {a1:Int} {b1:Nat} {A2:Option Addr} {c3:Nat} (hr4:Rd G k41 A2 a0_0) (hl5:a0_0.length ≤ c3),rec75 a0_0 a0_1 a0_2 a1=some r → Fn Try.prog 75 G [Blk b1 [.slice A2 a0_0.length c3,VI a0_1,VI a0_2] 67] [VP b1 0,VI a1] (parse_parser_operand.post G b1 A2 c3 a0_0 a0_1 a0_2 a1 r)) (ih78:∀ {G:Gd} {r:(S24 × Int × Int)} {a0_0:(List S41)} {a0_1:Int} {a0_2:Int} {a1:Int} {b1:Nat} {A2:Option Addr} {c3:Nat} (hr4:Rd G k41 A2 a0_0) (hl5:a0_0.length ≤ c3),rec78 a0_0 a0_1 a0_2 a1=some r → Fn Try.prog 78 G [Blk b1 [.slice A2 a0_0.length c3,VI a0_1,VI a0_2] 67] [VP b1 0,VI a1] (parse_parser_primary.post G b1 A2 c3 a0_0 a0_1 a0_2 a1 r)) (ih79:∀ {G:Gd} {r:(S24 × Int × Int)} {a0_0:(List S41)} {a0_1:Int} {a0_2:Int} {a1:Int} {b1:Nat} {A2:Option Addr} {c3:Nat} (hr4:Rd G k41 A2 a0_0) (hl5:a0_0.length ≤ c3),rec79 a0_0 a0_1 a0_2 a1=some r → Fn Try.prog 79 G [Blk b1 [.slice A2 a0_0.length c3,VI a0_1,VI a0_2] 67] [VP b1 0,VI a1] (parse_parser_name.post G b1 A2 c3 a0_0 a0_1 a0_2 a1 r)) {G:Gd} {r:(S24 × Int × Int)} {a0_0:(List S41)} {a0_1:Int} {a0_2:Int} {a1:Int} {b1:Nat} {A2:Option Addr} {c3:Nat} (hr4:Rd G k41 A2 a0_0) (hl5:a0_0.length ≤ c3) (h:parse_parser_primary.g rec72 rec74 rec75 rec78 rec79 a0_0 a0_1 a0_2 a1=some r):Fn Try.prog 78 G [Blk b1 [.slice A2 a0_0.length c3,VI a0_1,VI a0_2] 67] [VP b1 0,VI a1] (parse_parser_primary.post G b1 A2 c3 a0_0 a0_1 a0_2 a1 r):=by
 refine Fn.intro (e:=[(0,VP b1 0),(1,VI a1)]) 49 Try.func78 rfl Try.ntmps78 rfl rfl (Nat.le_of_ble_eq_true rfl) (fun L=>?_)
 unfold parse_parser_primary.g at h
 refine TC.seq ?_
 refine TC.region ?_
 refine TL.cons (TL.alloc (cs:=[VI 0,.string (⟨#[]⟩:ByteArray),VI 0,.slice none 0 0]) rfl rfl zr24 rfl (fun b6=>?_))
 refine TL.nil ?_
 refine TQ.then_ ?_
 refine TC.seq ?_
 refine TC.region ?_
 refine TV rfl rfl rfl (Val.move rfl) ?_
 refine TK.sel (Ls:=[Blk b1 [.slice A2 a0_0.length c3,VI a0_1,VI a0_2] 67,Blk b6 [VI 0,.string (⟨#[]⟩:ByteArray),VI 0,.slice none 0 0] 24]) [1,0] 2 rfl rfl rfl ?_
 obtain ⟨y7,hy8,h⟩:=bind_no h
 refine TL.cons (TL.callV (Lin:=[Blk b1 [.slice A2 a0_0.length c3,VI a0_1,VI a0_2] 67]) (args:=[VP b1 0]) rfl rfl rfl hbd29 rfl rfl (parse_parser_start.calls (a0_0:=a0_0) (a0_1:=a0_1) (a0_2:=a0_2) hr4 hl5 hy8) rfl ?_)
 rintro _ _ _ _ ⟨rfl,rfl,rfl⟩
 refine TV rfl rfl rfl (Val.build (cs:=[VI 0,.string (⟨#[]⟩:ByteArray),VI y7,.slice none 0 0]) (is:=[2]) (xs:=[.tmp 7]) Try.underlying24 zr24 bld24 rfl rfl rfl rfl) ?_
 refine TL.cons (TL.alloc (cs:=[VI 0,.string (⟨#[]⟩:ByteArray),VI 0,.slice none 0 0]) rfl rfl zr24 rfl (fun b9=>?_))
 refine TL.cons (TL.store 0 (ds:=[VI 0,.string (⟨#[]⟩:ByteArray),VI y7,.slice none 0 0]) (cs':=[VI 0,.string (⟨#[]⟩:ByteArray),VI y7,.slice none 0 0]) (L':=(Blk b9 [VI 0,.string (⟨#[]⟩:ByteArray),VI y7,.slice none 0 0] 24::Blk b1 [.slice A2 a0_0.length c3,VI a0_1,VI a0_2] 67::Blk b6 [VI 0,.string (⟨#[]⟩:ByteArray),VI 0,.slice none 0 0] 24::L)) rfl fsz24 rfl rfl rfl rfl rfl (Nat.le_of_ble_eq_true rfl) rfl rfl ?_)
 refine TL.nil ?_
 refine TQ.then_ ?_
 refine TC.seq ?_
 refine TC.block ?_
 refine TC.seq ?_
 refine TC.region ?_
 refine TV rfl rfl rfl (Val.move rfl) ?_
 refine TK.sel (Ls:=[Blk b1 [.slice A2 a0_0.length c3,VI a0_1,VI a0_2] 67,Blk b9 [VI 0,.string (⟨#[]⟩:ByteArray),VI y7,.slice none 0 0] 24,Blk b6 [VI 0,.string (⟨#[]⟩:ByteArray),VI 0,.slice none 0 0] 24]) [1,0,2] 3 rfl rfl rfl ?_
 obtain ⟨y169,hy170,h⟩:=bind_no h
 refine TL.cons (TL.callV (Lin:=[Blk b1 [.slice A2 a0_0.length c3,VI a0_1,VI a0_2] 67]) (args:=[VP b1 0,VI 2]) rfl rfl rfl hbd64 rfl rfl (parse_parser_free.calls (a0_0:=a0_0) (a0_1:=a0_1) (a0_2:=a0_2) (a1:=2) hr4 hl5 hy170) rfl ?_)
 rintro _ _ _ _ ⟨rfl,rfl,rfl⟩
 refine TV rfl rfl rfl (Val.assign rfl) ?_
 refine TL.nil ?_
 refine TQ.then_ ?_
 obtain ⟨j216,hj216,h⟩:=jn_no h
 refine TC.tail (fun a W=>∃ (x207:Int) (x208:Int) (x209:Int) (x210:ByteArray) (x211:Int) (l212:(List S24)) (A213:Option Addr) (c214:Nat),j216 x207 x208 x209 x210 x211 l212=some r∧Fr 49 a [(4,VP b6 0),(5,VP b9 0)]∧Own G (Blk b1 [.slice A2 a0_0.length c3,VI x207,VI x208] 67::Blk b6 [VI 0,.string (⟨#[]⟩:ByteArray),VI 0,.slice none 0 0] 24::Blk b9 [VI x209,.string x210,VI x211,.slice A213 l212.length c214] 24::Row k24 24 (.slice A213 l212.length c214) l212::L) W) ?_ ?_
 ·
  rintro a W ⟨x207,x208,x209,x210,x211,l212,A213,c214,h,hF,hO⟩
  rw [hj216] at h
  refine TQ.use ?_ hF hO
  clear hF hO
  refine TQ.inB ?_
  refine TQ.then_ ?_
  refine TC.seq ?_
  refine TC.region ?_
  refine TV rfl rfl rfl (Val.loadsB 2 (cs:=[VI x209,.string x210,VI x211,.slice A213 l212.length c214]) agg24 fsz24 rfl rfl rfl rfl) ?_
  refine TL.cons (TL.store 1 (ds:=[VI x209,.string x210,VI x211,.slice A213 l212.length c214]) (cs':=[VI x209,.string x210,VI x211,.slice A213 l212.length c214]) (L':=(Blk b1 [.slice A2 a0_0.length c3,VI x207,VI x208] 67::Blk b6 [VI x209,.string x210,VI x211,.slice A213 l212.length c214] 24::Blk b9 [VI x209,.string x210,VI x211,.slice A213 l212.length c214] 24::Row k24 24 (.slice A213 l212.length c214) l212::L)) rfl fsz24 rfl rfl rfl rfl rfl (Nat.le_of_ble_eq_true rfl) rfl rfl ?_)
  refine TL.nil ?_
  refine TQ.then_ ?_
  refine TC.ret ?_
  obtain rfl:=Option.some.inj h
  exact TQ.fin (.inl rfl) rfl Try.results78 (.cells 1 rfl rfl agg24 fsz24 .nil) rfl (FRel.mk (Ls:=[Blk b1 [.slice A2 a0_0.length c3,VI x207,VI x208] 67,Row k24 24 (.slice A213 l212.length c214) l212]) [0,3] 4 (Gd.le.refl _) rfl rfl rfl ⟨rfl,A213,c214,rfl,rfl⟩)
 ·
  refine TC.cond_b rfl h (fun hc217 h=>?_) (fun hc217 h=>?_)
  ·
   refine TC.region ?_
   refine TV rfl rfl rfl (Val.move rfl) ?_
   obtain ⟨y218,hy219,h⟩:=bind_no h
   refine TL.cons (TL.callV (Lin:=[Blk b1 [.slice A2 a0_0.length c3,VI a0_1,VI a0_2] 67]) (args:=[VP b1 0,VI 2]) rfl rfl rfl hbd44 rfl rfl (parse_parser_text.calls (a0_0:=a0_0) (a0_1:=a0_1) (a0_2:=a0_2) (a1:=2) hr4 hl5 hy219) rfl ?_)
   rintro _ _ _ _ ⟨rfl,rfl,rfl⟩
   refine TV rfl rfl rfl (Val.fieldAddrB Try.underlying24 rfl fsz3 rfl rfl rfl) ?_
   refine TL.cons (TL.store 1 (ds:=[VI 17]) (cs':=[VI 17,.string (⟨#[]⟩:ByteArray),VI y7,.slice none 0 0]) (L':=(Blk b1 [.slice A2 a0_0.length c3,VI y218.2.1,VI y218.2.2] 67::Blk b9 [VI 17,.string (⟨#[]⟩:ByteArray),VI y7,.slice none 0 0] 24::Blk b6 [VI 0,.string (⟨#[]⟩:ByteArray),VI 0,.slice none 0 0] 24::L)) rfl fsz3 rfl rfl rfl rfl rfl (Nat.le_of_ble_eq_true rfl) rfl rfl ?_)
   refine TV rfl rfl rfl (Val.fieldAddrB Try.underlying24 rfl fsz9 rfl rfl rfl) ?_
   refine TL.cons (TL.store 1 (ds:=[.string y218.1]) (cs':=[VI 17,.string y218.1,VI y7,.slice none 0 0]) (L':=(Blk b1 [.slice A2 a0_0.length c3,VI y218.2.1,VI y218.2.2] 67::Blk b9 [VI 17,.string y218.1,VI y7,.slice none 0 0] 24::Blk b6 [VI 0,.string (⟨#[]⟩:ByteArray),VI 0,.slice none 0 0] 24::L)) rfl fsz9 rfl rfl rfl rfl rfl (Nat.le_of_ble_eq_true rfl) rfl rfl ?_)
   refine TL.nil ?_
   exact fun a W hF hO=>⟨y218.2.1,y218.2.2,17,y218.1,y7,[],none,0,h,hF.sub ⟨rfl,rfl,trivial⟩,(Own.nilRow k24 24 hO).selT (Ls:=[Blk b1 [.slice A2 a0_0.length c3,VI y218.2.1,VI y218.2.2] 67,Blk b6 [VI 0,.string (⟨#[]⟩:ByteArray),VI 0,.slice none 0 0] 24,Blk b9 [VI 17,.string y218.1,VI y7,.slice none ([]:List S24).length 0] 24,Row k24 24 (.slice none ([]:List S24).length 0) ([]:List S24)]) [1,3,2,0] 4 rfl rfl rfl⟩
  ·
   refine TC.seq ?_
   refine TC.region ?_
   refine TV rfl rfl rfl (Val.move rfl) ?_
   obtain ⟨y220,hy221,h⟩:=bind_no h
   refine TL.cons (TL.callV (Lin:=[Blk b1 [.slice A2 a0_0.length c3,VI a0_1,VI a0_2] 67]) (args:=[VP b1 0,VI 1]) rfl rfl rfl hbd64 rfl rfl (parse_parser_free.calls (a0_0:=a0_0) (a0_1:=a0_1) (a0_2:=a0_2) (a1:=1) hr4 hl5 hy221) rfl ?_)
   rintro _ _ _ _ ⟨rfl,rfl,rfl⟩
   refine TV rfl rfl rfl (Val.assign rfl) ?_
   refine TL.nil ?_
   refine TQ.then_ ?_
   refine TC.cond_b rfl h (fun hc253 h=>?_) (fun hc253 h=>?_)
   ·
    refine TC.seq ?_
    refine TC.region ?_
    refine TV rfl rfl rfl (Val.move rfl) ?_
    refine TV rfl rfl rfl (Val.move rfl) ?_
    obtain ⟨y254,hy255,h⟩:=bind_no h
    refine TL.cons (TL.callV (Lin:=[Blk b1 [.slice A2 a0_0.length c3,VI a0_1,VI a0_2] 67]) (args:=[VP b1 0,VI a1]) rfl rfl rfl hbd79 rfl rfl (ih79 (a0_0:=a0_0) (a0_1:=a0_1) (a0_2:=a0_2) (a1:=a1) hr4 hl5 hy255) rfl ?_)
    rintro _ _ _ _ ⟨rfl,A256,c257,rfl,rfl⟩
    refine TL.cons (TL.store 3 (ds:=[VI y254.1.f0,.string y254.1.f1,VI y254.1.f2,.slice A256 y254.1.f3.length c257]) (cs':=[VI y254.1.f0,.string y254.1.f1,VI y254.1.f2,.slice A256 y254.1.f3.length c257]) (L':=(Blk b1 [.slice A2 a0_0.length c3,VI y254.2.1,VI y254.2.2] 67::Row k24 24 (.slice A256 y254.1.f3.length c257) y254.1.f3::Blk b9 [VI 0,.string (⟨#[]⟩:ByteArray),VI y7,.slice none 0 0] 24::Blk b6 [VI y254.1.f0,.string y254.1.f1,VI y254.1.f2,.slice A256 y254.1.f3.length c257] 24::L)) rfl fsz24 rfl rfl rfl rfl rfl (Nat.le_of_ble_eq_true rfl) rfl rfl ?_)
    refine TL.nil ?_
    refine TQ.then_ ?_
    refine TC.ret ?_
    refine TQ.thenR ?_
    refine TQ.inBR ?_
    refine TQ.thenR ?_
    obtain rfl:=Option.some.inj h
    exact TQ.fin (.inl rfl) rfl Try.results78 (.cells 3 rfl rfl agg24 fsz24 .nil) rfl (FRel.mk (Ls:=[Blk b1 [.slice A2 a0_0.length c3,VI y254.2.1,VI y254.2.2] 67,Row k24 24 (.slice A256 y254.1.f3.length c257) y254.1.f3]) [0,1] 4 (Gd.le.refl _) rfl rfl rfl ⟨rfl,A256,c257,rfl,rfl⟩)
   ·
    refine TC.seq ?_
    refine TC.region ?_
    refine TV rfl rfl rfl (Val.move rfl) ?_
    obtain ⟨y259,hy260,h⟩:=bind_no h
    refine TL.cons (TL.callV (Lin:=[Blk b1 [.slice A2 a0_0.length c3,VI a0_1,VI a0_2] 67]) (args:=[VP b1 0,.string (⟨#[114,101,97,100]⟩:ByteArray)]) rfl rfl rfl hbd62 rfl rfl (parse_parser_take.calls (a0_0:=a0_0) (a0_1:=a0_1) (a0_2:=a0_2) (a1:=(⟨#[114,101,97,100]⟩:ByteArray)) hr4 hl5 hy260) rfl ?_)
    rintro _ _ _ _ ⟨rfl,rfl,rfl⟩
    refine TV rfl rfl rfl (Val.assign rfl) ?_
    refine TL.nil ?_
    refine TQ.then_ ?_
    refine TC.cond_b rfl h (fun hc284 h=>?_) (fun hc284 h=>?_)
    ·
     refine TC.region ?_
     refine TV rfl rfl rfl (Val.fieldAddrB Try.underlying24 rfl fsz3 rfl rfl rfl) ?_
     refine TL.cons (TL.store 1 (ds:=[VI 27]) (cs':=[VI 27,.string (⟨#[]⟩:ByteArray),VI y7,.slice none 0 0]) (L':=(Blk b1 [.slice A2 a0_0.length c3,VI y259.2,VI a0_2] 67::Blk b9 [VI 27,.string (⟨#[]⟩:ByteArray),VI y7,.slice none 0 0] 24::Blk b6 [VI 0,.string (⟨#[]⟩:ByteArray),VI 0,.slice none 0 0] 24::L)) rfl fsz3 rfl rfl rfl rfl rfl (Nat.le_of_ble_eq_true rfl) rfl rfl ?_)
     refine TL.nil ?_
     exact fun a W hF hO=>⟨y259.2,a0_2,27,(⟨#[]⟩:ByteArray),y7,[],none,0,h,hF.sub ⟨rfl,rfl,trivial⟩,(Own.nilRow k24 24 hO).selT (Ls:=[Blk b1 [.slice A2 a0_0.length c3,VI y259.2,VI a0_2] 67,Blk b6 [VI 0,.string (⟨#[]⟩:ByteArray),VI 0,.slice none 0 0] 24,Blk b9 [VI 27,.string (⟨#[]⟩:ByteArray),VI y7,.slice none ([]:List S24).length 0] 24,Row k24 24 (.slice none ([]:List S24).length 0) ([]:List S24)]) [1,3,2,0] 4 rfl rfl rfl⟩
    ·
     refine TC.seq ?_
     refine TC.region ?_
     refine TV rfl rfl rfl (Val.move rfl) ?_
     obtain ⟨y285,hy286,h⟩:=bind_no h
     refine TL.cons (TL.callV (Lin:=[Blk b1 [.slice A2 a0_0.length c3,VI y259.2,VI a0_2] 67]) (args:=[VP b1 0,.string (⟨#[110,101,119]⟩:ByteArray)]) rfl rfl rfl hbd62 rfl rfl (parse_parser_take.calls (a0_0:=a0_0) (a0_1:=y259.2) (a0_2:=a0_2) (a1:=(⟨#[110,101,119]⟩:ByteArray)) hr4 hl5 hy286) rfl ?_)
     rintro _ _ _ _ ⟨rfl,rfl,rfl⟩
     refine TV rfl rfl rfl (Val.assign rfl) ?_
     refine TL.nil ?_
     refine TQ.then_ ?_
     refine TC.cond_b rfl h (fun hc307 h=>?_) (fun hc307 h=>?_)
     ·
      refine TC.seq ?_
      refine TC.region ?_
      refine TV rfl rfl rfl (Val.fieldAddrB Try.underlying24 rfl fsz3 rfl rfl rfl) ?_
      refine TL.cons (TL.store 1 (ds:=[VI 26]) (cs':=[VI 26,.string (⟨#[]⟩:ByteArray),VI y7,.slice none 0 0]) (L':=(Blk b1 [.slice A2 a0_0.length c3,VI y285.2,VI a0_2] 67::Blk b9 [VI 26,.string (⟨#[]⟩:ByteArray),VI y7,.slice none 0 0] 24::Blk b6 [VI 0,.string (⟨#[]⟩:ByteArray),VI 0,.slice none 0 0] 24::L)) rfl fsz3 rfl rfl rfl rfl rfl (Nat.le_of_ble_eq_true rfl) rfl rfl ?_)
      refine TL.nil ?_
      refine TQ.then_ ?_
      refine TC.seq ?_
      refine TC.region ?_
      refine TV rfl rfl rfl (Val.move rfl) ?_
      obtain ⟨y308,hy309,h⟩:=bind_no h
      refine TL.cons (TL.callV (Lin:=[Blk b1 [.slice A2 a0_0.length c3,VI y285.2,VI a0_2] 67]) (args:=[VP b1 0,.string (⟨#[40]⟩:ByteArray)]) rfl rfl rfl hbd43 rfl rfl (parse_parser_must.calls (a0_0:=a0_0) (a0_1:=y285.2) (a0_2:=a0_2) (a1:=(⟨#[40]⟩:ByteArray)) hr4 hl5 hy309) rfl ?_)
      rintro _ _ _ _ ⟨rfl,rfl,rfl⟩
      refine TL.nil ?_
      refine TQ.then_ ?_
      refine TC.seq ?_
      refine TC.region ?_
      refine TV rfl rfl rfl (Val.move rfl) ?_
      refine TV rfl rfl rfl (Val.move rfl) ?_
      refine TV rfl rfl rfl (Val.cmp rfl rfl run_add) ?_
      obtain ⟨y310,hy311,h⟩:=bind_no h
      refine TL.cons (TL.callV (Lin:=[Blk b1 [.slice A2 a0_0.length c3,VI y308.1,VI y308.2] 67]) (args:=[VP b1 0,VI (IntKind.i64.wrap (a1 + 1))]) rfl rfl rfl hbd48 rfl rfl (parse_parser_typ.calls (a0_0:=a0_0) (a0_1:=y308.1) (a0_2:=y308.2) (a1:=IntKind.i64.wrap (a1 + 1)) hr4 hl5 hy311) rfl ?_)
      rintro _ _ _ _ ⟨rfl,A312,c313,rfl,rfl⟩
      refine TL.cons (TL.buildSlice (xs:=[.tmp 43]) (vs:=[.agg #[VI y310.1.f0,.string y310.1.f1,VI y310.1.f2,.slice A312 y310.1.f3.length c313]]) (cs:=[VI y310.1.f0,.string y310.1.f1,VI y310.1.f2,.slice A312 y310.1.f3.length c313]) rfl rfl Try.underlying22 zs24 rfl rfl rfl rfl rfl rfl rfl rfl (fun b315=>?_))
      refine TV rfl rfl rfl (Val.fieldAddrB Try.underlying24 rfl fsz22 rfl rfl rfl) ?_
      refine TL.cons (TL.store 3 (ds:=[.slice (some ⟨b315,0,none⟩) 1 1]) (cs':=[VI 26,.string (⟨#[]⟩:ByteArray),VI y7,.slice (some ⟨b315,0,none⟩) 1 1]) (L':=(Blk b315 [VI y310.1.f0,.string y310.1.f1,VI y310.1.f2,.slice A312 y310.1.f3.length c313] 24::Blk b1 [.slice A2 a0_0.length c3,VI y310.2.1,VI y310.2.2] 67::Row k24 24 (.slice A312 y310.1.f3.length c313) y310.1.f3::Blk b9 [VI 26,.string (⟨#[]⟩:ByteArray),VI y7,.slice (some ⟨b315,0,none⟩) 1 1] 24::Blk b6 [VI 0,.string (⟨#[]⟩:ByteArray),VI 0,.slice none 0 0] 24::L)) rfl fsz22 rfl rfl rfl rfl rfl (Nat.le_of_ble_eq_true rfl) rfl rfl ?_)
      refine TL.nil ?_
      refine TQ.then_ ?_
      refine TC.region ?_
      refine TV rfl rfl rfl (Val.move rfl) ?_
      refine TK.sel (Ls:=[Blk b1 [.slice A2 a0_0.length c3,VI y310.2.1,VI y310.2.2] 67,Blk b315 [VI y310.1.f0,.string y310.1.f1,VI y310.1.f2,.slice A312 y310.1.f3.length c313] 24,Row k24 24 (.slice A312 y310.1.f3.length c313) y310.1.f3,Blk b9 [VI 26,.string (⟨#[]⟩:ByteArray),VI y7,.slice (some ⟨b315,0,none⟩) 1 1] 24,Blk b6 [VI 0,.string (⟨#[]⟩:ByteArray),VI 0,.slice none 0 0] 24]) [1,0,2,3,4] 5 rfl rfl rfl ?_
      obtain ⟨y316,hy317,h⟩:=bind_no h
      refine TL.cons (TL.callV (Lin:=[Blk b1 [.slice A2 a0_0.length c3,VI y310.2.1,VI y310.2.2] 67]) (args:=[VP b1 0,.string (⟨#[41]⟩:ByteArray)]) rfl rfl rfl hbd43 rfl rfl (parse_parser_must.calls (a0_0:=a0_0) (a0_1:=y310.2.1) (a0_2:=y310.2.2) (a1:=(⟨#[41]⟩:ByteArray)) hr4 hl5 hy317) rfl ?_)
      rintro _ _ _ _ ⟨rfl,rfl,rfl⟩
      refine TL.nil ?_
      refine TQ.new (Els.nil k24) ?_
      refine TQ.sel (Ls:=[Row k24 24 (.slice A312 y310.1.f3.length c313) y310.1.f3,Els k24 [] [],Blk b1 [.slice A2 a0_0.length c3,VI y316.1,VI y316.2] 67,Blk b315 [VI y310.1.f0,.string y310.1.f1,VI y310.1.f2,.slice A312 y310.1.f3.length c313] 24,Blk b9 [VI 26,.string (⟨#[]⟩:ByteArray),VI y7,.slice (some ⟨b315,0,none⟩) 1 1] 24,Blk b6 [VI 0,.string (⟨#[]⟩:ByteArray),VI 0,.slice none 0 0] 24]) [3,0,1,2,4,5] 6 rfl rfl rfl ?_
      refine TQ.conv (ch':=El k24 y310.1 [VI y310.1.f0,.string y310.1.f1,VI y310.1.f2,.slice A312 y310.1.f3.length c313]) (fun B W F hh=>k24_mkM W B F y310.1 hh) ?_
      refine TQ.sel (Ls:=[Els k24 [] [],El k24 y310.1 [VI y310.1.f0,.string y310.1.f1,VI y310.1.f2,.slice A312 y310.1.f3.length c313],Blk b1 [.slice A2 a0_0.length c3,VI y316.1,VI y316.2] 67,Blk b315 [VI y310.1.f0,.string y310.1.f1,VI y310.1.f2,.slice A312 y310.1.f3.length c313] 24,Blk b9 [VI 26,.string (⟨#[]⟩:ByteArray),VI y7,.slice (some ⟨b315,0,none⟩) 1 1] 24,Blk b6 [VI 0,.string (⟨#[]⟩:ByteArray),VI 0,.slice none 0 0] 24]) [1,0,2,3,4,5] 6 rfl rfl rfl ?_
      refine TQ.two (ch:=Els k24 [y310.1] [VI y310.1.f0,.string y310.1.f1,VI y310.1.f2,.slice A312 y310.1.f3.length c313]) (Els.snoc k24) ?_
      refine TQ.sel (Ls:=[Blk b315 [VI y310.1.f0,.string y310.1.f1,VI y310.1.f2,.slice A312 y310.1.f3.length c313] 24,Els k24 [y310.1] [VI y310.1.f0,.string y310.1.f1,VI y310.1.f2,.slice A312 y310.1.f3.length c313],Blk b1 [.slice A2 a0_0.length c3,VI y316.1,VI y316.2] 67,Blk b9 [VI 26,.string (⟨#[]⟩:ByteArray),VI y7,.slice (some ⟨b315,0,none⟩) 1 1] 24,Blk b6 [VI 0,.string (⟨#[]⟩:ByteArray),VI 0,.slice none 0 0] 24]) [2,0,1,3,4] 5 rfl rfl rfl ?_
      refine TQ.two (ch:=Row k24 24 (.slice (some ⟨b315,0,none⟩) 1 1) ([y310.1]:List S24)) (Row.lit k24 rfl rfl) ?_
      exact fun a W hF hO=>⟨y316.1,y316.2,26,(⟨#[]⟩:ByteArray),y7,([y310.1]:List S24),(some ⟨b315,0,none⟩),1,h,hF.sub ⟨rfl,rfl,trivial⟩,hO.selT (Ls:=[Blk b1 [.slice A2 a0_0.length c3,VI y316.1,VI y316.2] 67,Blk b6 [VI 0,.string (⟨#[]⟩:ByteArray),VI 0,.slice none 0 0] 24,Blk b9 [VI 26,.string (⟨#[]⟩:ByteArray),VI y7,.slice (some ⟨b315,0,none⟩) ([y310.1]:List S24).length 1] 24,Row k24 24 (.slice (some ⟨b315,0,none⟩) ([y310.1]:List S24).length 1) ([y310.1]:List S24)]) [1,3,2,0] 4 rfl rfl rfl⟩
     ·
      refine TC.seq ?_
      refine TC.region ?_
      refine TV rfl rfl rfl (Val.move rfl) ?_
      obtain ⟨y319,hy320,h⟩:=bind_no h
      refine TL.cons (TL.callV (Lin:=[Blk b1 [.slice A2 a0_0.length c3,VI y285.2,VI a0_2] 67]) (args:=[VP b1 0,.string (⟨#[40]⟩:ByteArray)]) rfl rfl rfl hbd43 rfl rfl (parse_parser_must.calls (a0_0:=a0_0) (a0_1:=y285.2) (a0_2:=a0_2) (a1:=(⟨#[40]⟩:ByteArray)) hr4 hl5 hy320) rfl ?_)
      rintro _ _ _ _ ⟨rfl,rfl,rfl⟩
      refine TL.nil ?_
      refine TQ.then_ ?_
      refine TC.seq ?_
      refine TC.region ?_
      refine TV rfl rfl rfl (Val.move rfl) ?_
      refine TV rfl rfl rfl (Val.move rfl) ?_
      refine TV rfl rfl rfl (Val.cmp rfl rfl run_add) ?_
      obtain ⟨y321,hy322,h⟩:=bind_no h
      refine TL.cons (TL.callV (Lin:=[Blk b1 [.slice A2 a0_0.length c3,VI y319.1,VI y319.2] 67]) (args:=[VP b1 0,VI (IntKind.i64.wrap (a1 + 1))]) rfl rfl rfl hbd72 rfl rfl (ih72 (a0_0:=a0_0) (a0_1:=y319.1) (a0_2:=y319.2) (a1:=IntKind.i64.wrap (a1 + 1)) hr4 hl5 hy322) rfl ?_)
      rintro _ _ _ _ ⟨rfl,A323,c324,rfl,rfl⟩
      refine TL.cons (TL.store 2 (ds:=[VI y321.1.f0,.string y321.1.f1,VI y321.1.f2,.slice A323 y321.1.f3.length c324]) (cs':=[VI y321.1.f0,.string y321.1.f1,VI y321.1.f2,.slice A323 y321.1.f3.length c324]) (L':=(Blk b1 [.slice A2 a0_0.length c3,VI y321.2.1,VI y321.2.2] 67::Row k24 24 (.slice A323 y321.1.f3.length c324) y321.1.f3::Blk b9 [VI y321.1.f0,.string y321.1.f1,VI y321.1.f2,.slice A323 y321.1.f3.length c324] 24::Blk b6 [VI 0,.string (⟨#[]⟩:ByteArray),VI 0,.slice none 0 0] 24::L)) rfl fsz24 rfl rfl rfl rfl rfl (Nat.le_of_ble_eq_true rfl) rfl rfl ?_)
      refine TL.nil ?_
      refine TQ.then_ ?_
      refine TC.region ?_
      refine TV rfl rfl rfl (Val.move rfl) ?_
      obtain ⟨y326,hy327,h⟩:=bind_no h
      refine TL.cons (TL.callV (Lin:=[Blk b1 [.slice A2 a0_0.length c3,VI y321.2.1,VI y321.2.2] 67]) (args:=[VP b1 0,.string (⟨#[41]⟩:ByteArray)]) rfl rfl rfl hbd43 rfl rfl (parse_parser_must.calls (a0_0:=a0_0) (a0_1:=y321.2.1) (a0_2:=y321.2.2) (a1:=(⟨#[41]⟩:ByteArray)) hr4 hl5 hy327) rfl ?_)
      rintro _ _ _ _ ⟨rfl,rfl,rfl⟩
      refine TL.nil ?_
      exact fun a W hF hO=>⟨y326.1,y326.2,y321.1.f0,y321.1.f1,y321.1.f2,y321.1.f3,A323,c324,h,hF.sub ⟨rfl,rfl,trivial⟩,hO.selT (Ls:=[Blk b1 [.slice A2 a0_0.length c3,VI y326.1,VI y326.2] 67,Blk b6 [VI 0,.string (⟨#[]⟩:ByteArray),VI 0,.slice none 0 0] 24,Blk b9 [VI y321.1.f0,.string y321.1.f1,VI y321.1.f2,.slice A323 y321.1.f3.length c324] 24,Row k24 24 (.slice A323 y321.1.f3.length c324) y321.1.f3]) [0,3,2,1] 4 rfl rfl rfl⟩
def parse_parser_name.l0 (rec72:((List S41) → Int → Int → Int → Option (S24 × Int × Int))) (a0_0:(List S41)) (a1:Int):Nat → (List S24) → Int → Int → Option ((List S24) × Int × Int)
 | 0,_,_,_=>none
 | n702 + 1,l649,x653,x654=>(parse_parser_take.f a0_0 x653 x654 (⟨#[44]⟩:ByteArray)).bind fun (y744:(Bool × Int))=>(if y744.1=true then (rec72 a0_0 y744.2 x654 (IntKind.i64.wrap (a1 + 1))).bind fun (y775:(S24 × Int × Int))=>(if l649.length < 2513169434916 then parse_parser_name.l0 rec72 a0_0 a1 n702 (l649 ++ [y775.1]) y775.2.1 y775.2.2 else none) else some (l649,y744.2,x654))
def parse_parser_name.g (rec72:((List S41) → Int → Int → Int → Option (S24 × Int × Int))) (rec74:((List S41) → Int → Int → Int → Int → Option (S24 × Int × Int))) (rec75:((List S41) → Int → Int → Int → Option (S24 × Int × Int))) (rec78:((List S41) → Int → Int → Int → Option (S24 × Int × Int))) (rec79:((List S41) → Int → Int → Int → Option (S24 × Int × Int))) (a0_0:(List S41)) (a0_1:Int) (a0_2:Int) (a1:Int):Option (S24 × Int × Int):=jn (γ:=(S24 × Int × Int)) (fun (x28:Int) (x29:Int) (x30:ByteArray) (x31:Int)=>(parse_parser_take.f a0_0 x28 x29 (⟨#[40]⟩:ByteArray)).bind fun (y33:(Bool × Int))=>(if (!y33.1)=true then some ((⟨18,x30,x31,([]:List S24)⟩:S24),y33.2,x29) else (parse_parser_fixed.f a0_0 y33.2 x29).bind fun (y38:ByteArray)=>jn (γ:=(S24 × Int × Int)) (fun (x337:Int) (x338:Int) (l339:(List S24))=>(parse_parser_must.f a0_0 x337 x338 (⟨#[41]⟩:ByteArray)).bind fun (y344:(Int × Int))=>some ((⟨25,x30,x31,l339⟩:S24),y344.1,y344.2)) (fun (j343:(Int → Int → (List S24) → Option (S24 × Int × Int)))=>(if (!(y38.data.toList == (⟨#[41]⟩:ByteArray).data.toList))=true then (rec72 a0_0 y33.2 x29 (IntKind.i64.wrap (a1 + 1))).bind fun (y534:(S24 × Int × Int))=>(parse_parser_name.l0 rec72 a0_0 a1 100000 ([y534.1]:List S24) y534.2.1 y534.2.2).bind fun (l695,x699,x700)=>j343 x699 x700 l695 else j343 y33.2 x29 [])))) (fun (j32:(Int → Int → ByteArray → Int → Option (S24 × Int × Int)))=>(parse_parser_start.f a0_0 a0_1 a0_2).bind fun (y789:Int)=>(parse_parser_text.f a0_0 a0_1 a0_2 1).bind fun (y791:(ByteArray × Int × Int))=>j32 y791.2.1 y791.2.2 y791.1 y789)
theorem parse_parser_name.step (rec72:((List S41) → Int → Int → Int → Option (S24 × Int × Int))) (rec74:((List S41) → Int → Int → Int → Int → Option (S24 × Int × Int))) (rec75:((List S41) → Int → Int → Int → Option (S24 × Int × Int))) (rec78:((List S41) → Int → Int → Int → Option (S24 × Int × Int))) (rec79:((List S41) → Int → Int → Int → Option (S24 × Int × Int))) (ih72:∀ {G:Gd} {r:(S24 × Int × Int)} {a0_0:(List S41)} {a0_1:Int} {a0_2:Int} {a1:Int} {b1:Nat} {A2:Option Addr} {c3:Nat} (hr4:Rd G k41 A2 a0_0) (hl5:a0_0.length ≤ c3),rec72 a0_0 a0_1 a0_2 a1=some r → Fn Try.prog 72 G [Blk b1 [.slice A2 a0_0.length c3,VI a0_1,VI a0_2] 67] [VP b1 0,VI a1] (parse_parser_expr.post G b1 A2 c3 a0_0 a0_1 a0_2 a1 r)) (ih74:∀ {G:Gd} {r:(S24 × Int × Int)} {a0_0:(List S41)} {a0_1:Int} {a0_2:Int} {a1:Int} {a2:Int} {b1:Nat} {A2:Option Addr} {c3:Nat} (hr4:Rd G k41 A2 a0_0) (hl5:a0_0.length ≤ c3),rec74 a0_0 a0_1 a0_2 a1 a2=some r → Fn Try.prog 74 G [Blk b1 [.slice A2 a0_0.length c3,VI a0_1,VI a0_2] 67] [VP b1 0,VI a1,VI a2] (parse_parser_climb.post G b1 A2 c3 a0_0 a0_1 a0_2 a1 a2 r)) (ih75:∀ {G:Gd} {r:(S24 × Int × Int)} {a0_0:(List S41)} {a0_1:Int} {a0_2:Int} {a1:Int} {b1:Nat} {A2:Option Addr} {c3:Nat} (hr4:Rd G k41 A2 a0_0) (hl5:a0_0.length ≤ c3),rec75 a0_0 a0_1 a0_2 a1=some r → Fn Try.prog 75 G [Blk b1 [.slice A2 a0_0.length c3,VI a0_1,VI a0_2] 67] [VP b1 0,VI a1] (parse_parser_operand.post G b1 A2 c3 a0_0 a0_1 a0_2 a1 r)) (ih78:∀ {G:Gd} {r:(S24 × Int × Int)} {a0_0:(List S41)} {a0_1:Int} {a0_2:Int} {a1:Int} {b1:Nat} {A2:Option Addr} {c3:Nat} (hr4:Rd G k41 A2 a0_0) (hl5:a0_0.length ≤ c3),rec78 a0_0 a0_1 a0_2 a1=some r → Fn Try.prog 78 G [Blk b1 [.slice A2 a0_0.length c3,VI a0_1,VI a0_2] 67] [VP b1 0,VI a1] (parse_parser_primary.post G b1 A2 c3 a0_0 a0_1 a0_2 a1 r)) (ih79:∀ {G:Gd} {r:(S24 × Int × Int)} {a0_0:(List S41)} {a0_1:Int} {a0_2:Int} {a1:Int} {b1:Nat} {A2:Option Addr} {c3:Nat} (hr4:Rd G k41 A2 a0_0) (hl5:a0_0.length ≤ c3),rec79 a0_0 a0_1 a0_2 a1=some r → Fn Try.prog 79 G [Blk b1 [.slice A2 a0_0.length c3,VI a0_1,VI a0_2] 67] [VP b1 0,VI a1] (parse_parser_name.post G b1 A2 c3 a0_0 a0_1 a0_2 a1 r)) {G:Gd} {r:(S24 × Int × Int)} {a0_0:(List S41)} {a0_1:Int} {a0_2:Int} {a1:Int} {b1:Nat} {A2:Option Addr} {c3:Nat} (hr4:Rd G k41 A2 a0_0) (hl5:a0_0.length ≤ c3) (h:parse_parser_name.g rec72 rec74 rec75 rec78 rec79 a0_0 a0_1 a0_2 a1=some r):Fn Try.prog 79 G [Blk b1 [.slice A2 a0_0.length c3,VI a0_1,VI a0_2] 67] [VP b1 0,VI a1] (parse_parser_name.post G b1 A2 c3 a0_0 a0_1 a0_2 a1 r):=by
 refine Fn.intro (e:=[(0,VP b1 0),(1,VI a1)]) 26 Try.func79 rfl Try.ntmps79 rfl rfl (Nat.le_of_ble_eq_true rfl) (fun L=>?_)
 unfold parse_parser_name.g at h
 refine TC.seq ?_
 refine TC.region ?_
 refine TL.cons (TL.box (cs:=[VP b1 0]) rfl rfl rfl rfl (fun b6=>?_))
 refine TL.cons (TL.box (cs:=[VI a1]) rfl rfl rfl rfl (fun b7=>?_))
 refine TL.cons (TL.alloc (cs:=[VI 0,.string (⟨#[]⟩:ByteArray),VI 0,.slice none 0 0]) rfl rfl zr24 rfl (fun b8=>?_))
 refine TL.nil ?_
 refine TQ.then_ ?_
 refine TC.seq ?_
 obtain ⟨j32,hj32,h⟩:=jn_no h
 refine TC.tail (fun a W=>∃ (x28:Int) (x29:Int) (x30:ByteArray) (x31:Int) (b27:Nat),j32 x28 x29 x30 x31=some r∧Fr 26 a [(2,VP b6 0),(3,VP b7 0),(4,VP b8 0),(5,VP b27 0)]∧Own G (Blk b1 [.slice A2 a0_0.length c3,VI x28,VI x29] 67::Blk b27 [VI 18,.string x30,VI x31,.slice none 0 0] 24::Blk b6 [VP b1 0] 65::Blk b7 [VI a1] 3::Blk b8 [VI 0,.string (⟨#[]⟩:ByteArray),VI 0,.slice none 0 0] 24::L) W) ?_ ?_
 ·
  rintro a W ⟨x28,x29,x30,x31,b27,h,hF,hO⟩
  rw [hj32] at h
  refine TQ.use ?_ hF hO
  clear hF hO
  refine TQ.then_ ?_
  refine TC.seq ?_
  refine TC.seq ?_
  refine TC.region ?_
  refine TV rfl rfl rfl (Val.loadB 2 agg65 rfl rfl rfl) ?_
  obtain ⟨y33,hy34,h⟩:=bind_no h
  refine TL.cons (TL.callV (Lin:=[Blk b1 [.slice A2 a0_0.length c3,VI x28,VI x29] 67]) (args:=[VP b1 0,.string (⟨#[40]⟩:ByteArray)]) rfl rfl rfl hbd62 rfl rfl (parse_parser_take.calls (a0_0:=a0_0) (a0_1:=x28) (a0_2:=x29) (a1:=(⟨#[40]⟩:ByteArray)) hr4 hl5 hy34) rfl ?_)
  rintro _ _ _ _ ⟨rfl,rfl,rfl⟩
  refine TV rfl rfl rfl (Val.not_ rfl) ?_
  refine TL.nil ?_
  refine TQ.then_ ?_
  refine TC.cond_b rfl h (fun hc36 h=>?_) (fun hc36 h=>?_)
  ·
   refine TC.seq ?_
   refine TC.region ?_
   refine TV rfl rfl rfl (Val.loadsB 1 (cs:=[VI 18,.string x30,VI x31,.slice none 0 0]) agg24 fsz24 rfl rfl rfl rfl) ?_
   refine TL.cons (TL.store 4 (ds:=[VI 18,.string x30,VI x31,.slice none 0 0]) (cs':=[VI 18,.string x30,VI x31,.slice none 0 0]) (L':=(Blk b1 [.slice A2 a0_0.length c3,VI y33.2,VI x29] 67::Blk b27 [VI 18,.string x30,VI x31,.slice none 0 0] 24::Blk b6 [VP b1 0] 65::Blk b7 [VI a1] 3::Blk b8 [VI 18,.string x30,VI x31,.slice none 0 0] 24::L)) rfl fsz24 rfl rfl rfl rfl rfl (Nat.le_of_ble_eq_true rfl) rfl rfl ?_)
   refine TL.nil ?_
   refine TQ.then_ ?_
   refine TC.ret ?_
   refine TQ.thenR ?_
   refine TQ.nilRow k24 24 ?_
   obtain rfl:=Option.some.inj h
   exact TQ.fin (.inl rfl) rfl Try.results79 (.cells 5 rfl rfl agg24 fsz24 .nil) rfl (FRel.mk (Ls:=[Blk b1 [.slice A2 a0_0.length c3,VI y33.2,VI x29] 67,Row k24 24 (.slice none 0 0) ([]:List S24)]) [1,0] 6 (Gd.le.refl _) rfl rfl rfl ⟨rfl,none,0,rfl,rfl⟩)
  ·
   refine TC.skip ?_
   refine TQ.then_ ?_
   refine TC.seq ?_
   refine TC.region ?_
   refine TV rfl rfl rfl (Val.fieldAddrB Try.underlying24 rfl fsz3 rfl rfl rfl) ?_
   refine TL.cons (TL.store 1 (ds:=[VI 25]) (cs':=[VI 25,.string x30,VI x31,.slice none 0 0]) (L':=(Blk b1 [.slice A2 a0_0.length c3,VI y33.2,VI x29] 67::Blk b27 [VI 25,.string x30,VI x31,.slice none 0 0] 24::Blk b6 [VP b1 0] 65::Blk b7 [VI a1] 3::Blk b8 [VI 0,.string (⟨#[]⟩:ByteArray),VI 0,.slice none 0 0] 24::L)) rfl fsz3 rfl rfl rfl rfl rfl (Nat.le_of_ble_eq_true rfl) rfl rfl ?_)
   refine TL.nil ?_
   refine TQ.then_ ?_
   refine TC.seq ?_
   refine TC.seq ?_
   refine TC.region ?_
   refine TV rfl rfl rfl (Val.loadB 2 agg65 rfl rfl rfl) ?_
   obtain ⟨y38,hy39,h⟩:=bind_no h
   refine TL.cons (TL.callV (Lin:=[Blk b1 [.slice A2 a0_0.length c3,VI y33.2,VI x29] 67]) (args:=[VP b1 0]) rfl rfl rfl hbd45 rfl rfl (parse_parser_fixed.calls (a0_0:=a0_0) (a0_1:=y33.2) (a0_2:=x29) hr4 hl5 hy39) rfl ?_)
   rintro _ _ _ _ ⟨rfl,rfl,rfl⟩
   refine TV rfl rfl rfl (Val.neT rfl rfl) ?_
   refine TL.nil ?_
   refine TQ.then_ ?_
   obtain ⟨j343,hj343,h⟩:=jn_no h
   refine TC.tail (fun a W=>∃ (x337:Int) (x338:Int) (l339:(List S24)) (A340:Option Addr) (c341:Nat),j343 x337 x338 l339=some r∧Fr 26 a [(2,VP b6 0),(4,VP b8 0),(5,VP b27 0)]∧Own G (Blk b1 [.slice A2 a0_0.length c3,VI x337,VI x338] 67::Blk b27 [VI 25,.string x30,VI x31,.slice A340 l339.length c341] 24::Blk b6 [VP b1 0] 65::Blk b8 [VI 0,.string (⟨#[]⟩:ByteArray),VI 0,.slice none 0 0] 24::Row k24 24 (.slice A340 l339.length c341) l339::L) W) ?_ ?_
   ·
    rintro a W ⟨x337,x338,l339,A340,c341,h,hF,hO⟩
    rw [hj343] at h
    refine TQ.use ?_ hF hO
    clear hF hO
    refine TQ.then_ ?_
    refine TC.seq ?_
    refine TC.region ?_
    refine TV rfl rfl rfl (Val.loadB 2 agg65 rfl rfl rfl) ?_
    obtain ⟨y344,hy345,h⟩:=bind_no h
    refine TL.cons (TL.callV (Lin:=[Blk b1 [.slice A2 a0_0.length c3,VI x337,VI x338] 67]) (args:=[VP b1 0,.string (⟨#[41]⟩:ByteArray)]) rfl rfl rfl hbd43 rfl rfl (parse_parser_must.calls (a0_0:=a0_0) (a0_1:=x337) (a0_2:=x338) (a1:=(⟨#[41]⟩:ByteArray)) hr4 hl5 hy345) rfl ?_)
    rintro _ _ _ _ ⟨rfl,rfl,rfl⟩
    refine TL.nil ?_
    refine TQ.then_ ?_
    refine TC.seq ?_
    refine TC.region ?_
    refine TV rfl rfl rfl (Val.loadsB 1 (cs:=[VI 25,.string x30,VI x31,.slice A340 l339.length c341]) agg24 fsz24 rfl rfl rfl rfl) ?_
    refine TL.cons (TL.store 3 (ds:=[VI 25,.string x30,VI x31,.slice A340 l339.length c341]) (cs':=[VI 25,.string x30,VI x31,.slice A340 l339.length c341]) (L':=(Blk b1 [.slice A2 a0_0.length c3,VI y344.1,VI y344.2] 67::Blk b27 [VI 25,.string x30,VI x31,.slice A340 l339.length c341] 24::Blk b6 [VP b1 0] 65::Blk b8 [VI 25,.string x30,VI x31,.slice A340 l339.length c341] 24::Row k24 24 (.slice A340 l339.length c341) l339::L)) rfl fsz24 rfl rfl rfl rfl rfl (Nat.le_of_ble_eq_true rfl) rfl rfl ?_)
    refine TL.nil ?_
    refine TQ.then_ ?_
    refine TC.ret ?_
    obtain rfl:=Option.some.inj h
    exact TQ.fin (.inl rfl) rfl Try.results79 (.cells 3 rfl rfl agg24 fsz24 .nil) rfl (FRel.mk (Ls:=[Blk b1 [.slice A2 a0_0.length c3,VI y344.1,VI y344.2] 67,Row k24 24 (.slice A340 l339.length c341) l339]) [0,4] 5 (Gd.le.refl _) rfl rfl rfl ⟨rfl,A340,c341,rfl,rfl⟩)
   ·
    refine TC.cond_b rfl h (fun hc346 h=>?_) (fun hc346 h=>?_)
    ·
     refine TC.region ?_
     refine TV rfl rfl rfl (Val.loadB 2 agg65 rfl rfl rfl) ?_
     refine TV rfl rfl rfl (Val.makeFunc (xs:=[]) (ys:=[VP b6 0,VP b7 0]) rfl rfl) ?_
     refine TL.cons (TO.inl (args:=[VP b1 0,.func (.func 80) #[] #[VP b6 0,VP b7 0]]) (e':=[(0,VP b1 0),(1,.func (.func 80) #[] #[VP b6 0,VP b7 0])]) 17 rfl rfl hbd46 rfl rfl Try.func46 rfl Try.ntmps46 rfl rfl (Nat.le_of_ble_eq_true rfl) (fun a347 hf348=>?_))
     refine TC.seq ?_
     refine TC.region ?_
     refine TV rfl rfl rfl (Val.assign rfl) ?_
     refine TL.nil ?_
     refine TQ.then_ ?_
     refine TC.seq ?_
     refine TC.region ?_
     refine TV rfl rfl rfl (Val.move rfl) ?_
     refine TL.cons (TO.inl (args:=[VP b6 0,VP b7 0]) (e':=[(0,VP b6 0),(1,VP b7 0)]) 7 rfl rfl hbd80 rfl rfl Try.func80 rfl Try.ntmps80 rfl rfl (Nat.le_of_ble_eq_true rfl) (fun a525 hf526=>?_))
     refine TC.seq ?_
     refine TC.region ?_
     refine TL.cons (TL.alloc (cs:=[VI 0,.string (⟨#[]⟩:ByteArray),VI 0,.slice none 0 0]) rfl rfl zr24 rfl (fun b533=>?_))
     refine TL.nil ?_
     refine TQ.then_ ?_
     refine TC.seq ?_
     refine TC.region ?_
     refine TV rfl rfl rfl (Val.loadB 3 agg65 rfl rfl rfl) ?_
     refine TV rfl rfl rfl (Val.loadB 4 agg3 rfl rfl rfl) ?_
     refine TV rfl rfl rfl (Val.cmp rfl rfl run_add) ?_
     refine TK.sel (Ls:=[Blk b1 [.slice A2 a0_0.length c3,VI y33.2,VI x29] 67,Blk b533 [VI 0,.string (⟨#[]⟩:ByteArray),VI 0,.slice none 0 0] 24,Blk b27 [VI 25,.string x30,VI x31,.slice none 0 0] 24,Blk b6 [VP b1 0] 65,Blk b7 [VI a1] 3,Blk b8 [VI 0,.string (⟨#[]⟩:ByteArray),VI 0,.slice none 0 0] 24]) [1,0,2,3,4,5] 6 rfl rfl rfl ?_
     obtain ⟨y534,hy535,h⟩:=bind_no h
     refine TL.cons (TL.callV (Lin:=[Blk b1 [.slice A2 a0_0.length c3,VI y33.2,VI x29] 67]) (args:=[VP b1 0,VI (IntKind.i64.wrap (a1 + 1))]) rfl rfl rfl hbd72 rfl rfl (ih72 (a0_0:=a0_0) (a0_1:=y33.2) (a0_2:=x29) (a1:=IntKind.i64.wrap (a1 + 1)) hr4 hl5 hy535) rfl ?_)
     rintro _ _ _ _ ⟨rfl,A536,c537,rfl,rfl⟩
     refine TL.cons (TL.store 2 (ds:=[VI y534.1.f0,.string y534.1.f1,VI y534.1.f2,.slice A536 y534.1.f3.length c537]) (cs':=[VI y534.1.f0,.string y534.1.f1,VI y534.1.f2,.slice A536 y534.1.f3.length c537]) (L':=(Blk b1 [.slice A2 a0_0.length c3,VI y534.2.1,VI y534.2.2] 67::Row k24 24 (.slice A536 y534.1.f3.length c537) y534.1.f3::Blk b533 [VI y534.1.f0,.string y534.1.f1,VI y534.1.f2,.slice A536 y534.1.f3.length c537] 24::Blk b27 [VI 25,.string x30,VI x31,.slice none 0 0] 24::Blk b6 [VP b1 0] 65::Blk b7 [VI a1] 3::Blk b8 [VI 0,.string (⟨#[]⟩:ByteArray),VI 0,.slice none 0 0] 24::L)) rfl fsz24 rfl rfl rfl rfl rfl (Nat.le_of_ble_eq_true rfl) rfl rfl ?_)
     refine TL.nil ?_
     refine TQ.then_ ?_
     refine TC.ret ?_
     refine TQ.fin (v:=.agg #[VI y534.1.f0,.string y534.1.f1,VI y534.1.f2,.slice A536 y534.1.f3.length c537]) (.inl rfl) rfl Try.results80 (.cells 2 rfl rfl agg24 fsz24 .nil) rfl (After.mk hf526 rfl ?_)
     refine TL.cons (TL.buildSlice (xs:=[.tmp 7]) (vs:=[.agg #[VI y534.1.f0,.string y534.1.f1,VI y534.1.f2,.slice A536 y534.1.f3.length c537]]) (cs:=[VI y534.1.f0,.string y534.1.f1,VI y534.1.f2,.slice A536 y534.1.f3.length c537]) rfl rfl Try.underlying22 zs24 rfl rfl rfl rfl rfl rfl rfl rfl (fun b539=>?_))
     refine TV rfl rfl rfl (Val.assign rfl) ?_
     refine TL.nil ?_
     refine TQ.then_ ?_
     refine TC.seq ?_
     refine TC.new (Els.nil k24) ?_
     refine TC.sel (Ls:=[Row k24 24 (.slice A536 y534.1.f3.length c537) y534.1.f3,Els k24 [] [],Blk b539 [VI y534.1.f0,.string y534.1.f1,VI y534.1.f2,.slice A536 y534.1.f3.length c537] 24,Blk b1 [.slice A2 a0_0.length c3,VI y534.2.1,VI y534.2.2] 67,Blk b533 [VI y534.1.f0,.string y534.1.f1,VI y534.1.f2,.slice A536 y534.1.f3.length c537] 24,Blk b27 [VI 25,.string x30,VI x31,.slice none 0 0] 24,Blk b6 [VP b1 0] 65,Blk b7 [VI a1] 3,Blk b8 [VI 0,.string (⟨#[]⟩:ByteArray),VI 0,.slice none 0 0] 24]) [3,0,1,2,4,5,6,7,8] 9 rfl rfl rfl ?_
     refine TC.conv (ch':=El k24 y534.1 [VI y534.1.f0,.string y534.1.f1,VI y534.1.f2,.slice A536 y534.1.f3.length c537]) (fun B W F hh=>k24_mkM W B F y534.1 hh) ?_
     refine TC.sel (Ls:=[Els k24 [] [],El k24 y534.1 [VI y534.1.f0,.string y534.1.f1,VI y534.1.f2,.slice A536 y534.1.f3.length c537],Blk b539 [VI y534.1.f0,.string y534.1.f1,VI y534.1.f2,.slice A536 y534.1.f3.length c537] 24,Blk b1 [.slice A2 a0_0.length c3,VI y534.2.1,VI y534.2.2] 67,Blk b533 [VI y534.1.f0,.string y534.1.f1,VI y534.1.f2,.slice A536 y534.1.f3.length c537] 24,Blk b27 [VI 25,.string x30,VI x31,.slice none 0 0] 24,Blk b6 [VP b1 0] 65,Blk b7 [VI a1] 3,Blk b8 [VI 0,.string (⟨#[]⟩:ByteArray),VI 0,.slice none 0 0] 24]) [1,0,2,3,4,5,6,7,8] 9 rfl rfl rfl ?_
     refine TC.two (ch:=Els k24 [y534.1] [VI y534.1.f0,.string y534.1.f1,VI y534.1.f2,.slice A536 y534.1.f3.length c537]) (Els.snoc k24) ?_
     refine TC.sel (Ls:=[Blk b539 [VI y534.1.f0,.string y534.1.f1,VI y534.1.f2,.slice A536 y534.1.f3.length c537] 24,Els k24 [y534.1] [VI y534.1.f0,.string y534.1.f1,VI y534.1.f2,.slice A536 y534.1.f3.length c537],Blk b1 [.slice A2 a0_0.length c3,VI y534.2.1,VI y534.2.2] 67,Blk b533 [VI y534.1.f0,.string y534.1.f1,VI y534.1.f2,.slice A536 y534.1.f3.length c537] 24,Blk b27 [VI 25,.string x30,VI x31,.slice none 0 0] 24,Blk b6 [VP b1 0] 65,Blk b7 [VI a1] 3,Blk b8 [VI 0,.string (⟨#[]⟩:ByteArray),VI 0,.slice none 0 0] 24]) [1,0,2,3,4,5,6,7] 8 rfl rfl rfl ?_
     refine TC.two (ch:=Row k24 24 (.slice (some ⟨b539,0,none⟩) 1 1) ([y534.1]:List S24)) (Row.lit k24 rfl rfl) ?_
     obtain ⟨o701,ho701,ko701⟩:=bind_no h
     clear h
     refine TC.tail (fun a W=>∃ (l695:(List S24)) (x699:Int) (x700:Int) (A696:Option Addr) (c697:Nat),(l695,x699,x700)=o701∧Fr 17 a [(5,.slice A696 l695.length c697)]∧Own G (Blk b1 [.slice A2 a0_0.length c3,VI x699,VI x700] 67::Blk b27 [VI 25,.string x30,VI x31,.slice none 0 0] 24::Blk b6 [VP b1 0] 65::Blk b7 [VI a1] 3::Blk b8 [VI 0,.string (⟨#[]⟩:ByteArray),VI 0,.slice none 0 0] 24::Row k24 24 (.slice A696 l695.length c697) l695::L) W) ?_ ?_
     ·
      rintro a W ⟨l695,x699,x700,A696,c697,rfl,hF,hO⟩
      have h:=ko701
      clear ko701 ho701
      refine TQ.use ?_ hF hO
      clear hF hO
      refine TQ.then_ ?_
      refine TC.seq ?_
      refine TC.region ?_
      refine TV rfl rfl rfl (Val.move rfl) ?_
      refine TV rfl rfl rfl (Val.assign rfl) ?_
      refine TL.nil ?_
      refine TQ.then_ ?_
      refine TC.ret ?_
      refine TQ.fin (v:=.slice A696 l695.length c697) (.inl rfl) rfl Try.results46 (.tmp rfl .nil) rfl (After.mk hf348 rfl ?_)
      refine TV rfl rfl rfl (Val.fieldAddrB Try.underlying24 rfl fsz22 rfl rfl rfl) ?_
      refine TL.cons (TL.store 1 (ds:=[.slice A696 l695.length c697]) (cs':=[VI 25,.string x30,VI x31,.slice A696 l695.length c697]) (L':=(Blk b1 [.slice A2 a0_0.length c3,VI x699,VI x700] 67::Blk b27 [VI 25,.string x30,VI x31,.slice A696 l695.length c697] 24::Blk b6 [VP b1 0] 65::Blk b7 [VI a1] 3::Blk b8 [VI 0,.string (⟨#[]⟩:ByteArray),VI 0,.slice none 0 0] 24::Row k24 24 (.slice A696 l695.length c697) l695::L)) rfl fsz22 rfl rfl rfl rfl rfl (Nat.le_of_ble_eq_true rfl) rfl rfl ?_)
      refine TL.nil ?_
      exact fun a W hF hO=>⟨x699,x700,l695,A696,c697,h,hF.sub ⟨rfl,rfl,rfl,trivial⟩,hO.selT (Ls:=[Blk b1 [.slice A2 a0_0.length c3,VI x699,VI x700] 67,Blk b27 [VI 25,.string x30,VI x31,.slice A696 l695.length c697] 24,Blk b6 [VP b1 0] 65,Blk b8 [VI 0,.string (⟨#[]⟩:ByteArray),VI 0,.slice none 0 0] 24,Row k24 24 (.slice A696 l695.length c697) l695]) [0,1,2,4,5] 6 rfl rfl rfl⟩
     ·
      refine TC.block ?_
      intro a W hF hO
      have hS:∃ (l649:(List S24)) (x653:Int) (x654:Int) (A650:Option Addr) (c651:Nat),parse_parser_name.l0 rec72 a0_0 a1 100000 l649 x653 x654=some o701∧Fr 17 a [(0,VP b1 0),(1,.func (.func 80) #[] #[VP b6 0,VP b7 0]),(5,.slice A650 l649.length c651)]∧Own G (Blk b1 [.slice A2 a0_0.length c3,VI x653,VI x654] 67::Blk b27 [VI 25,.string x30,VI x31,.slice none 0 0] 24::Blk b6 [VP b1 0] 65::Blk b7 [VI a1] 3::Blk b8 [VI 0,.string (⟨#[]⟩:ByteArray),VI 0,.slice none 0 0] 24::Row k24 24 (.slice A650 l649.length c651) l649::L) W:=by
       exact ⟨([y534.1]:List S24),y534.2.1,y534.2.2,(some ⟨b539,0,none⟩),1,ho701,hF.sub ⟨rfl,rfl,rfl,trivial⟩,hO.selT (Ls:=[Blk b1 [.slice A2 a0_0.length c3,VI y534.2.1,VI y534.2.2] 67,Blk b27 [VI 25,.string x30,VI x31,.slice none 0 0] 24,Blk b6 [VP b1 0] 65,Blk b7 [VI a1] 3,Blk b8 [VI 0,.string (⟨#[]⟩:ByteArray),VI 0,.slice none 0 0] 24,Row k24 24 (.slice (some ⟨b539,0,none⟩) ([y534.1]:List S24).length 1) ([y534.1]:List S24)]) [1,3,4,5,6,0] 7 rfl rfl rfl⟩
      clear hF hO ho701 ko701
      refine TC.loop (fun n702 a W=>∃ (l649:(List S24)) (x653:Int) (x654:Int) (A650:Option Addr) (c651:Nat),parse_parser_name.l0 rec72 a0_0 a1 n702 l649 x653 x654=some o701∧Fr 17 a [(0,VP b1 0),(1,.func (.func 80) #[] #[VP b6 0,VP b7 0]),(5,.slice A650 l649.length c651)]∧Own G (Blk b1 [.slice A2 a0_0.length c3,VI x653,VI x654] 67::Blk b27 [VI 25,.string x30,VI x31,.slice none 0 0] 24::Blk b6 [VP b1 0] 65::Blk b7 [VI a1] 3::Blk b8 [VI 0,.string (⟨#[]⟩:ByteArray),VI 0,.slice none 0 0] 24::Row k24 24 (.slice A650 l649.length c651) l649::L) W) ?_ ?_ hS
      ·
       rintro a W ⟨l649,x653,x654,A650,c651,h,hF,hO⟩
       exact none_no h
      ·
       clear hS
       rintro n702 a W ⟨l649,x653,x654,A650,c651,h,hF,hO⟩
       rw [parse_parser_name.l0] at h
       refine TC.use ?_ hF hO
       clear hF hO
       refine TC.seq ?_
       refine TC.seq ?_
       refine TC.region ?_
       refine TV rfl rfl rfl (Val.move rfl) ?_
       obtain ⟨y744,hy745,h⟩:=bind_no h
       refine TL.cons (TL.callV (Lin:=[Blk b1 [.slice A2 a0_0.length c3,VI x653,VI x654] 67]) (args:=[VP b1 0,.string (⟨#[44]⟩:ByteArray)]) rfl rfl rfl hbd62 rfl rfl (parse_parser_take.calls (a0_0:=a0_0) (a0_1:=x653) (a0_2:=x654) (a1:=(⟨#[44]⟩:ByteArray)) hr4 hl5 hy745) rfl ?_)
       rintro _ _ _ _ ⟨rfl,rfl,rfl⟩
       refine TL.nil ?_
       refine TQ.then_ ?_
       refine TC.cond_b rfl h (fun hc747 h=>?_) (fun hc747 h=>?_)
       ·
        refine TC.skip ?_
        refine TQ.then_ ?_
        refine TC.block ?_
        refine TC.region ?_
        refine TV rfl rfl rfl (Val.move rfl) ?_
        refine TV rfl rfl rfl (Val.move rfl) ?_
        refine TL.cons (TO.inl (args:=[VP b6 0,VP b7 0]) (e':=[(0,VP b6 0),(1,VP b7 0)]) 7 rfl rfl hbd80 rfl rfl Try.func80 rfl Try.ntmps80 rfl rfl (Nat.le_of_ble_eq_true rfl) (fun a766 hf767=>?_))
        refine TC.seq ?_
        refine TC.region ?_
        refine TL.cons (TL.alloc (cs:=[VI 0,.string (⟨#[]⟩:ByteArray),VI 0,.slice none 0 0]) rfl rfl zr24 rfl (fun b774=>?_))
        refine TL.nil ?_
        refine TQ.then_ ?_
        refine TC.seq ?_
        refine TC.region ?_
        refine TV rfl rfl rfl (Val.loadB 3 agg65 rfl rfl rfl) ?_
        refine TV rfl rfl rfl (Val.loadB 4 agg3 rfl rfl rfl) ?_
        refine TV rfl rfl rfl (Val.cmp rfl rfl run_add) ?_
        refine TK.sel (Ls:=[Blk b1 [.slice A2 a0_0.length c3,VI y744.2,VI x654] 67,Blk b774 [VI 0,.string (⟨#[]⟩:ByteArray),VI 0,.slice none 0 0] 24,Blk b27 [VI 25,.string x30,VI x31,.slice none 0 0] 24,Blk b6 [VP b1 0] 65,Blk b7 [VI a1] 3,Blk b8 [VI 0,.string (⟨#[]⟩:ByteArray),VI 0,.slice none 0 0] 24,Row k24 24 (.slice A650 l649.length c651) l649]) [1,0,2,3,4,5,6] 7 rfl rfl rfl ?_
        obtain ⟨y775,hy776,h⟩:=bind_no h
        refine TL.cons (TL.callV (Lin:=[Blk b1 [.slice A2 a0_0.length c3,VI y744.2,VI x654] 67]) (args:=[VP b1 0,VI (IntKind.i64.wrap (a1 + 1))]) rfl rfl rfl hbd72 rfl rfl (ih72 (a0_0:=a0_0) (a0_1:=y744.2) (a0_2:=x654) (a1:=IntKind.i64.wrap (a1 + 1)) hr4 hl5 hy776) rfl ?_)
        rintro _ _ _ _ ⟨rfl,A777,c778,rfl,rfl⟩
        refine TL.cons (TL.store 2 (ds:=[VI y775.1.f0,.string y775.1.f1,VI y775.1.f2,.slice A777 y775.1.f3.length c778]) (cs':=[VI y775.1.f0,.string y775.1.f1,VI y775.1.f2,.slice A777 y775.1.f3.length c778]) (L':=(Blk b1 [.slice A2 a0_0.length c3,VI y775.2.1,VI y775.2.2] 67::Row k24 24 (.slice A777 y775.1.f3.length c778) y775.1.f3::Blk b774 [VI y775.1.f0,.string y775.1.f1,VI y775.1.f2,.slice A777 y775.1.f3.length c778] 24::Blk b27 [VI 25,.string x30,VI x31,.slice none 0 0] 24::Blk b6 [VP b1 0] 65::Blk b7 [VI a1] 3::Blk b8 [VI 0,.string (⟨#[]⟩:ByteArray),VI 0,.slice none 0 0] 24::Row k24 24 (.slice A650 l649.length c651) l649::L)) rfl fsz24 rfl rfl rfl rfl rfl (Nat.le_of_ble_eq_true rfl) rfl rfl ?_)
        refine TL.nil ?_
        refine TQ.then_ ?_
        refine TC.ret ?_
        refine TQ.fin (v:=.agg #[VI y775.1.f0,.string y775.1.f1,VI y775.1.f2,.slice A777 y775.1.f3.length c778]) (.inl rfl) rfl Try.results80 (.cells 2 rfl rfl agg24 fsz24 .nil) rfl (After.mk hf767 rfl ?_)
        refine TL.cons (TL.buildSlice (xs:=[.tmp 13]) (vs:=[.agg #[VI y775.1.f0,.string y775.1.f1,VI y775.1.f2,.slice A777 y775.1.f3.length c778]]) (cs:=[VI y775.1.f0,.string y775.1.f1,VI y775.1.f2,.slice A777 y775.1.f3.length c778]) rfl rfl Try.underlying22 zs24 rfl rfl rfl rfl rfl rfl rfl rfl (fun b780=>?_))
        refine TK.sel (Ls:=[Row k24 24 (.slice A777 y775.1.f3.length c778) y775.1.f3,Blk b780 [VI y775.1.f0,.string y775.1.f1,VI y775.1.f2,.slice A777 y775.1.f3.length c778] 24,Blk b1 [.slice A2 a0_0.length c3,VI y775.2.1,VI y775.2.2] 67,Blk b774 [VI y775.1.f0,.string y775.1.f1,VI y775.1.f2,.slice A777 y775.1.f3.length c778] 24,Blk b27 [VI 25,.string x30,VI x31,.slice none 0 0] 24,Blk b6 [VP b1 0] 65,Blk b7 [VI a1] 3,Blk b8 [VI 0,.string (⟨#[]⟩:ByteArray),VI 0,.slice none 0 0] 24,Row k24 24 (.slice A650 l649.length c651) l649]) [2,0,1,3,4,5,6,7,8] 9 rfl rfl rfl ?_
        refine TK.conv (ch':=El k24 y775.1 [VI y775.1.f0,.string y775.1.f1,VI y775.1.f2,.slice A777 y775.1.f3.length c778]) (fun B W F hh=>k24_mkM W B F y775.1 hh) ?_
        refine TK.sel (Ls:=[Row k24 24 (.slice A650 l649.length c651) l649,El k24 y775.1 [VI y775.1.f0,.string y775.1.f1,VI y775.1.f2,.slice A777 y775.1.f3.length c778],Blk b780 [VI y775.1.f0,.string y775.1.f1,VI y775.1.f2,.slice A777 y775.1.f3.length c778] 24,Blk b1 [.slice A2 a0_0.length c3,VI y775.2.1,VI y775.2.2] 67,Blk b774 [VI y775.1.f0,.string y775.1.f1,VI y775.1.f2,.slice A777 y775.1.f3.length c778] 24,Blk b27 [VI 25,.string x30,VI x31,.slice none 0 0] 24,Blk b6 [VP b1 0] 65,Blk b7 [VI a1] 3,Blk b8 [VI 0,.string (⟨#[]⟩:ByteArray),VI 0,.slice none 0 0] 24]) [8,0,1,2,3,4,5,6,7] 9 rfl rfl rfl ?_
        obtain ⟨ha781,h⟩:=ite_no h
        refine TL.cons (TL.append (xs:=l649) k24 rfl rfl Try.underlying22 inf24 rfl (Nat.le_of_ble_eq_true rfl) (Nat.le_of_ble_eq_true rfl) rfl rfl (by omega) (fun A782 c783=>?_))
        refine TV rfl rfl rfl (Val.assign rfl) ?_
        refine TL.nil ?_
        refine TQ.inB ?_
        exact fun a W hF hO=>⟨(l649 ++ [y775.1]),y775.2.1,y775.2.2,A782,c783,h,hF.sub ⟨rfl,rfl,rfl,trivial⟩,hO.selT (Ls:=[Blk b1 [.slice A2 a0_0.length c3,VI y775.2.1,VI y775.2.2] 67,Blk b27 [VI 25,.string x30,VI x31,.slice none 0 0] 24,Blk b6 [VP b1 0] 65,Blk b7 [VI a1] 3,Blk b8 [VI 0,.string (⟨#[]⟩:ByteArray),VI 0,.slice none 0 0] 24,Row k24 24 (.slice A782 (l649 ++ [y775.1]).length c783) (l649 ++ [y775.1])]) [1,3,4,5,6,0] 7 rfl rfl rfl⟩
       ·
        refine TC.exit ?_
        refine TQ.thenX ?_
        refine TQ.thenX ?_
        refine TQ.inBX ?_
        exact fun a W hF hO=>⟨l649,y744.2,x654,A650,c651,Option.some.inj h,hF.sub ⟨rfl,trivial⟩,hO.selT (Ls:=[Blk b1 [.slice A2 a0_0.length c3,VI y744.2,VI x654] 67,Blk b27 [VI 25,.string x30,VI x31,.slice none 0 0] 24,Blk b6 [VP b1 0] 65,Blk b7 [VI a1] 3,Blk b8 [VI 0,.string (⟨#[]⟩:ByteArray),VI 0,.slice none 0 0] 24,Row k24 24 (.slice A650 l649.length c651) l649]) [0,1,2,3,4,5] 6 rfl rfl rfl⟩
    ·
     refine TC.skip ?_
     exact fun a W hF hO=>⟨y33.2,x29,[],none,0,h,hF.sub ⟨rfl,rfl,rfl,trivial⟩,(Own.nilRow k24 24 hO).selT (Ls:=[Blk b1 [.slice A2 a0_0.length c3,VI y33.2,VI x29] 67,Blk b27 [VI 25,.string x30,VI x31,.slice none ([]:List S24).length 0] 24,Blk b6 [VP b1 0] 65,Blk b8 [VI 0,.string (⟨#[]⟩:ByteArray),VI 0,.slice none 0 0] 24,Row k24 24 (.slice none ([]:List S24).length 0) ([]:List S24)]) [1,2,3,5,0] 6 rfl rfl rfl⟩
 ·
  refine TC.regionAnyS (L0:=(Blk b8 [VI 0,.string (⟨#[]⟩:ByteArray),VI 0,.slice none 0 0] 24::Blk b7 [VI a1] 3::Blk b6 [VP b1 0] 65::L)) [] [0,2,4] mixed (by kernel_rfl) ?_
  refine TA.take 0 rfl (by kernel_rfl) rfl (PQ.then_ (PQ.then_ PQ.body)) rfl (Val.loadB 2 agg65 rfl rfl rfl) (fun W hO=>hO.selT (Ls:=[Blk b8 [VI 0,.string (⟨#[]⟩:ByteArray),VI 0,.slice none 0 0] 24,Blk b7 [VI a1] 3,Blk b6 [VP b1 0] 65]) [0,1,2] 4 rfl rfl rfl) ?_
  refine TA.take 2 rfl (by kernel_rfl) rfl (PQ.then_ (PQ.then_ PQ.body)) rfl (Val.loadB 2 agg65 rfl rfl rfl) (fun W hO=>hO.selT (Ls:=[Blk b8 [VI 0,.string (⟨#[]⟩:ByteArray),VI 0,.slice none 0 0] 24,Blk b7 [VI a1] 3,Blk b6 [VP b1 0] 65]) [0,1,2] 4 rfl rfl rfl) ?_
  refine TA.effs 1 [5] (by kernel_rfl) ⟨⟨_,rfl,?_⟩,⟨_,rfl,?_⟩,trivial⟩
  ·
   refine TK.sel (Ls:=[Blk b1 [.slice A2 a0_0.length c3,VI a0_1,VI a0_2] 67,Blk b8 [VI 0,.string (⟨#[]⟩:ByteArray),VI 0,.slice none 0 0] 24,Blk b7 [VI a1] 3,Blk b6 [VP b1 0] 65]) [3,0,1,2] 4 rfl rfl rfl ?_
   obtain ⟨y789,hy790,h⟩:=bind_no h
   refine TL.callV (Lin:=[Blk b1 [.slice A2 a0_0.length c3,VI a0_1,VI a0_2] 67]) (args:=[VP b1 0]) rfl rfl rfl hbd29 rfl rfl (parse_parser_start.calls (a0_0:=a0_0) (a0_1:=a0_1) (a0_2:=a0_2) hr4 hl5 hy790) rfl ?_
   rintro _ _ _ _ ⟨rfl,rfl,rfl⟩
   refine TA.next (fun W hO=>hO.selT (Ls:=[Blk b8 [VI 0,.string (⟨#[]⟩:ByteArray),VI 0,.slice none 0 0] 24,Blk b7 [VI a1] 3,Blk b6 [VP b1 0] 65]) [1,2,3] 4 rfl rfl rfl) ?_
   refine TA.effs 3 [5] (by kernel_rfl) ⟨⟨_,rfl,?_⟩,⟨_,rfl,?_⟩,trivial⟩
   ·
    obtain ⟨y791,hy792,h⟩:=bind_no h
    refine TL.callV (Lin:=[Blk b1 [.slice A2 a0_0.length c3,VI a0_1,VI a0_2] 67]) (args:=[VP b1 0,VI 1]) rfl rfl rfl hbd44 rfl rfl (parse_parser_text.calls (a0_0:=a0_0) (a0_1:=a0_1) (a0_2:=a0_2) (a1:=1) hr4 hl5 hy792) rfl ?_
    rintro _ _ _ _ ⟨rfl,rfl,rfl⟩
    refine TA.next (fun W hO=>hO.selT (Ls:=[Blk b8 [VI 0,.string (⟨#[]⟩:ByteArray),VI 0,.slice none 0 0] 24,Blk b7 [VI a1] 3,Blk b6 [VP b1 0] 65]) [1,2,3] 4 rfl rfl rfl) ?_
    refine TA.take 4 rfl (by kernel_rfl) rfl (PQ.then_ (PQ.then_ PQ.body)) rfl (Val.build (cs:=[VI 18,.string y791.1,VI y789,.slice none 0 0]) (is:=[0,2,1]) (xs:=[.const (VI 18),.tmp 7,.tmp 9]) Try.underlying24 zr24 bld24 rfl rfl rfl rfl) (fun W hO=>hO.selT (Ls:=[Blk b8 [VI 0,.string (⟨#[]⟩:ByteArray),VI 0,.slice none 0 0] 24,Blk b7 [VI a1] 3,Blk b6 [VP b1 0] 65]) [1,2,3] 4 rfl rfl rfl) ?_
    refine TA.eff 5 rfl (by kernel_rfl) rfl (TL.alloc (cs:=[VI 0,.string (⟨#[]⟩:ByteArray),VI 0,.slice none 0 0]) rfl rfl zr24 rfl (fun b793=>?_))
    refine TA.next (fun W hO=>hO.selT (Ls:=[Blk b8 [VI 0,.string (⟨#[]⟩:ByteArray),VI 0,.slice none 0 0] 24,Blk b7 [VI a1] 3,Blk b6 [VP b1 0] 65]) [2,3,4] 5 rfl rfl rfl) ?_
    refine TA.eff 6 rfl (by kernel_rfl) rfl (TL.store 0 (ds:=[VI 18,.string y791.1,VI y789,.slice none 0 0]) (cs':=[VI 18,.string y791.1,VI y789,.slice none 0 0]) (L':=(Blk b793 [VI 18,.string y791.1,VI y789,.slice none 0 0] 24::Blk b1 [.slice A2 a0_0.length c3,VI y791.2.1,VI y791.2.2] 67::Blk b8 [VI 0,.string (⟨#[]⟩:ByteArray),VI 0,.slice none 0 0] 24::Blk b7 [VI a1] 3::Blk b6 [VP b1 0] 65::L)) rfl fsz24 rfl rfl rfl rfl rfl (Nat.le_of_ble_eq_true rfl) rfl rfl ?_)
    refine TA.next (fun W hO=>hO.selT (Ls:=[Blk b8 [VI 0,.string (⟨#[]⟩:ByteArray),VI 0,.slice none 0 0] 24,Blk b7 [VI a1] 3,Blk b6 [VP b1 0] 65]) [2,3,4] 5 rfl rfl rfl) ?_
    refine TA.done (by kernel_rfl) ?_
    exact fun a W hF hO=>⟨y791.2.1,y791.2.2,y791.1,y789,b793,h,hF.sub ⟨rfl,rfl,rfl,rfl,trivial⟩,hO.selT (Ls:=[Blk b1 [.slice A2 a0_0.length c3,VI y791.2.1,VI y791.2.2] 67,Blk b793 [VI 18,.string y791.1,VI y789,.slice none 0 0] 24,Blk b6 [VP b1 0] 65,Blk b7 [VI a1] 3,Blk b8 [VI 0,.string (⟨#[]⟩:ByteArray),VI 0,.slice none 0 0] 24]) [1,0,4,3,2] 5 rfl rfl rfl⟩
   ·
    refine TL.alloc (cs:=[VI 0,.string (⟨#[]⟩:ByteArray),VI 0,.slice none 0 0]) rfl rfl zr24 rfl (fun b794=>?_)
    refine TA.next (fun W hO=>hO.selT (Ls:=[Blk b8 [VI 0,.string (⟨#[]⟩:ByteArray),VI 0,.slice none 0 0] 24,Blk b7 [VI a1] 3,Blk b6 [VP b1 0] 65]) [2,3,4] 5 rfl rfl rfl) ?_
    refine TK.sel (Ls:=[Blk b1 [.slice A2 a0_0.length c3,VI a0_1,VI a0_2] 67,Blk b794 [VI 0,.string (⟨#[]⟩:ByteArray),VI 0,.slice none 0 0] 24,Blk b8 [VI 0,.string (⟨#[]⟩:ByteArray),VI 0,.slice none 0 0] 24,Blk b7 [VI a1] 3,Blk b6 [VP b1 0] 65]) [1,0,2,3,4] 5 rfl rfl rfl ?_
    obtain ⟨y795,hy796,h⟩:=bind_no h
    refine TA.eff 3 rfl (by kernel_rfl) rfl (TL.callV (Lin:=[Blk b1 [.slice A2 a0_0.length c3,VI a0_1,VI a0_2] 67]) (args:=[VP b1 0,VI 1]) rfl rfl rfl hbd44 rfl rfl (parse_parser_text.calls (a0_0:=a0_0) (a0_1:=a0_1) (a0_2:=a0_2) (a1:=1) hr4 hl5 hy796) rfl ?_)
    rintro _ _ _ _ ⟨rfl,rfl,rfl⟩
    refine TA.next (fun W hO=>hO.selT (Ls:=[Blk b8 [VI 0,.string (⟨#[]⟩:ByteArray),VI 0,.slice none 0 0] 24,Blk b7 [VI a1] 3,Blk b6 [VP b1 0] 65]) [2,3,4] 5 rfl rfl rfl) ?_
    refine TA.take 4 rfl (by kernel_rfl) rfl (PQ.then_ (PQ.then_ PQ.body)) rfl (Val.build (cs:=[VI 18,.string y795.1,VI y789,.slice none 0 0]) (is:=[0,2,1]) (xs:=[.const (VI 18),.tmp 7,.tmp 9]) Try.underlying24 zr24 bld24 rfl rfl rfl rfl) (fun W hO=>hO.selT (Ls:=[Blk b8 [VI 0,.string (⟨#[]⟩:ByteArray),VI 0,.slice none 0 0] 24,Blk b7 [VI a1] 3,Blk b6 [VP b1 0] 65]) [2,3,4] 5 rfl rfl rfl) ?_
    refine TA.eff 6 rfl (by kernel_rfl) rfl (TL.store 1 (ds:=[VI 18,.string y795.1,VI y789,.slice none 0 0]) (cs':=[VI 18,.string y795.1,VI y789,.slice none 0 0]) (L':=(Blk b1 [.slice A2 a0_0.length c3,VI y795.2.1,VI y795.2.2] 67::Blk b794 [VI 18,.string y795.1,VI y789,.slice none 0 0] 24::Blk b8 [VI 0,.string (⟨#[]⟩:ByteArray),VI 0,.slice none 0 0] 24::Blk b7 [VI a1] 3::Blk b6 [VP b1 0] 65::L)) rfl fsz24 rfl rfl rfl rfl rfl (Nat.le_of_ble_eq_true rfl) rfl rfl ?_)
    refine TA.next (fun W hO=>hO.selT (Ls:=[Blk b8 [VI 0,.string (⟨#[]⟩:ByteArray),VI 0,.slice none 0 0] 24,Blk b7 [VI a1] 3,Blk b6 [VP b1 0] 65]) [2,3,4] 5 rfl rfl rfl) ?_
    refine TA.done (by kernel_rfl) ?_
    exact fun a W hF hO=>⟨y795.2.1,y795.2.2,y795.1,y789,b794,h,hF.sub ⟨rfl,rfl,rfl,rfl,trivial⟩,hO.selT (Ls:=[Blk b1 [.slice A2 a0_0.length c3,VI y795.2.1,VI y795.2.2] 67,Blk b794 [VI 18,.string y795.1,VI y789,.slice none 0 0] 24,Blk b6 [VP b1 0] 65,Blk b7 [VI a1] 3,Blk b8 [VI 0,.string (⟨#[]⟩:ByteArray),VI 0,.slice none 0 0] 24]) [0,1,4,3,2] 5 rfl rfl rfl⟩
  ·
   refine TL.alloc (cs:=[VI 0,.string (⟨#[]⟩:ByteArray),VI 0,.slice none 0 0]) rfl rfl zr24 rfl (fun b797=>?_)
   refine TA.next (fun W hO=>hO.selT (Ls:=[Blk b8 [VI 0,.string (⟨#[]⟩:ByteArray),VI 0,.slice none 0 0] 24,Blk b7 [VI a1] 3,Blk b6 [VP b1 0] 65]) [1,2,3] 5 rfl rfl rfl) ?_
   refine TK.sel (Ls:=[Blk b1 [.slice A2 a0_0.length c3,VI a0_1,VI a0_2] 67,Blk b797 [VI 0,.string (⟨#[]⟩:ByteArray),VI 0,.slice none 0 0] 24,Blk b8 [VI 0,.string (⟨#[]⟩:ByteArray),VI 0,.slice none 0 0] 24,Blk b7 [VI a1] 3,Blk b6 [VP b1 0] 65]) [4,0,1,2,3] 5 rfl rfl rfl ?_
   obtain ⟨y798,hy799,h⟩:=bind_no h
   refine TA.eff 1 rfl (by kernel_rfl) rfl (TL.callV (Lin:=[Blk b1 [.slice A2 a0_0.length c3,VI a0_1,VI a0_2] 67]) (args:=[VP b1 0]) rfl rfl rfl hbd29 rfl rfl (parse_parser_start.calls (a0_0:=a0_0) (a0_1:=a0_1) (a0_2:=a0_2) hr4 hl5 hy799) rfl ?_)
   rintro _ _ _ _ ⟨rfl,rfl,rfl⟩
   refine TA.next (fun W hO=>hO.selT (Ls:=[Blk b8 [VI 0,.string (⟨#[]⟩:ByteArray),VI 0,.slice none 0 0] 24,Blk b7 [VI a1] 3,Blk b6 [VP b1 0] 65]) [2,3,4] 5 rfl rfl rfl) ?_
   obtain ⟨y800,hy801,h⟩:=bind_no h
   refine TA.eff 3 rfl (by kernel_rfl) rfl (TL.callV (Lin:=[Blk b1 [.slice A2 a0_0.length c3,VI a0_1,VI a0_2] 67]) (args:=[VP b1 0,VI 1]) rfl rfl rfl hbd44 rfl rfl (parse_parser_text.calls (a0_0:=a0_0) (a0_1:=a0_1) (a0_2:=a0_2) (a1:=1) hr4 hl5 hy801) rfl ?_)
   rintro _ _ _ _ ⟨rfl,rfl,rfl⟩
   refine TA.next (fun W hO=>hO.selT (Ls:=[Blk b8 [VI 0,.string (⟨#[]⟩:ByteArray),VI 0,.slice none 0 0] 24,Blk b7 [VI a1] 3,Blk b6 [VP b1 0] 65]) [2,3,4] 5 rfl rfl rfl) ?_
   refine TA.take 4 rfl (by kernel_rfl) rfl (PQ.then_ (PQ.then_ PQ.body)) rfl (Val.build (cs:=[VI 18,.string y800.1,VI y798,.slice none 0 0]) (is:=[0,2,1]) (xs:=[.const (VI 18),.tmp 7,.tmp 9]) Try.underlying24 zr24 bld24 rfl rfl rfl rfl) (fun W hO=>hO.selT (Ls:=[Blk b8 [VI 0,.string (⟨#[]⟩:ByteArray),VI 0,.slice none 0 0] 24,Blk b7 [VI a1] 3,Blk b6 [VP b1 0] 65]) [2,3,4] 5 rfl rfl rfl) ?_
   refine TA.eff 6 rfl (by kernel_rfl) rfl (TL.store 1 (ds:=[VI 18,.string y800.1,VI y798,.slice none 0 0]) (cs':=[VI 18,.string y800.1,VI y798,.slice none 0 0]) (L':=(Blk b1 [.slice A2 a0_0.length c3,VI y800.2.1,VI y800.2.2] 67::Blk b797 [VI 18,.string y800.1,VI y798,.slice none 0 0] 24::Blk b8 [VI 0,.string (⟨#[]⟩:ByteArray),VI 0,.slice none 0 0] 24::Blk b7 [VI a1] 3::Blk b6 [VP b1 0] 65::L)) rfl fsz24 rfl rfl rfl rfl rfl (Nat.le_of_ble_eq_true rfl) rfl rfl ?_)
   refine TA.next (fun W hO=>hO.selT (Ls:=[Blk b8 [VI 0,.string (⟨#[]⟩:ByteArray),VI 0,.slice none 0 0] 24,Blk b7 [VI a1] 3,Blk b6 [VP b1 0] 65]) [2,3,4] 5 rfl rfl rfl) ?_
   refine TA.done (by kernel_rfl) ?_
   exact fun a W hF hO=>⟨y800.2.1,y800.2.2,y800.1,y798,b797,h,hF.sub ⟨rfl,rfl,rfl,rfl,trivial⟩,hO.selT (Ls:=[Blk b1 [.slice A2 a0_0.length c3,VI y800.2.1,VI y800.2.2] 67,Blk b797 [VI 18,.string y800.1,VI y798,.slice none 0 0] 24,Blk b6 [VP b1 0] 65,Blk b7 [VI a1] 3,Blk b8 [VI 0,.string (⟨#[]⟩:ByteArray),VI 0,.slice none 0 0] 24]) [0,1,4,3,2] 5 rfl rfl rfl⟩
def parse_parser_expr.fix:Nat → ((List S41) → Int → Int → Int → Option (S24 × Int × Int)) × ((List S41) → Int → Int → Int → Int → Option (S24 × Int × Int)) × ((List S41) → Int → Int → Int → Option (S24 × Int × Int)) × ((List S41) → Int → Int → Int → Option (S24 × Int × Int)) × ((List S41) → Int → Int → Int → Option (S24 × Int × Int))
 | 0=>((fun _ _ _ _=>none),(fun _ _ _ _ _=>none),(fun _ _ _ _=>none),(fun _ _ _ _=>none),(fun _ _ _ _=>none))
 | n + 1=>(parse_parser_expr.g (parse_parser_expr.fix n).1 (parse_parser_expr.fix n).2.1 (parse_parser_expr.fix n).2.2.1 (parse_parser_expr.fix n).2.2.2.1 (parse_parser_expr.fix n).2.2.2.2,parse_parser_climb.g (parse_parser_expr.fix n).1 (parse_parser_expr.fix n).2.1 (parse_parser_expr.fix n).2.2.1 (parse_parser_expr.fix n).2.2.2.1 (parse_parser_expr.fix n).2.2.2.2,parse_parser_operand.g (parse_parser_expr.fix n).1 (parse_parser_expr.fix n).2.1 (parse_parser_expr.fix n).2.2.1 (parse_parser_expr.fix n).2.2.2.1 (parse_parser_expr.fix n).2.2.2.2,parse_parser_primary.g (parse_parser_expr.fix n).1 (parse_parser_expr.fix n).2.1 (parse_parser_expr.fix n).2.2.1 (parse_parser_expr.fix n).2.2.2.1 (parse_parser_expr.fix n).2.2.2.2,parse_parser_name.g (parse_parser_expr.fix n).1 (parse_parser_expr.fix n).2.1 (parse_parser_expr.fix n).2.2.1 (parse_parser_expr.fix n).2.2.2.1 (parse_parser_expr.fix n).2.2.2.2)
theorem parse_parser_expr.fixc:∀ k,(∀ {G:Gd} {r:(S24 × Int × Int)} {a0_0:(List S41)} {a0_1:Int} {a0_2:Int} {a1:Int} {b1:Nat} {A2:Option Addr} {c3:Nat} (hr4:Rd G k41 A2 a0_0) (hl5:a0_0.length ≤ c3),(parse_parser_expr.fix k).1 a0_0 a0_1 a0_2 a1=some r → Fn Try.prog 72 G [Blk b1 [.slice A2 a0_0.length c3,VI a0_1,VI a0_2] 67] [VP b1 0,VI a1] (parse_parser_expr.post G b1 A2 c3 a0_0 a0_1 a0_2 a1 r))∧(∀ {G:Gd} {r:(S24 × Int × Int)} {a0_0:(List S41)} {a0_1:Int} {a0_2:Int} {a1:Int} {a2:Int} {b1:Nat} {A2:Option Addr} {c3:Nat} (hr4:Rd G k41 A2 a0_0) (hl5:a0_0.length ≤ c3),(parse_parser_expr.fix k).2.1 a0_0 a0_1 a0_2 a1 a2=some r → Fn Try.prog 74 G [Blk b1 [.slice A2 a0_0.length c3,VI a0_1,VI a0_2] 67] [VP b1 0,VI a1,VI a2] (parse_parser_climb.post G b1 A2 c3 a0_0 a0_1 a0_2 a1 a2 r))∧(∀ {G:Gd} {r:(S24 × Int × Int)} {a0_0:(List S41)} {a0_1:Int} {a0_2:Int} {a1:Int} {b1:Nat} {A2:Option Addr} {c3:Nat} (hr4:Rd G k41 A2 a0_0) (hl5:a0_0.length ≤ c3),(parse_parser_expr.fix k).2.2.1 a0_0 a0_1 a0_2 a1=some r → Fn Try.prog 75 G [Blk b1 [.slice A2 a0_0.length c3,VI a0_1,VI a0_2] 67] [VP b1 0,VI a1] (parse_parser_operand.post G b1 A2 c3 a0_0 a0_1 a0_2 a1 r))∧(∀ {G:Gd} {r:(S24 × Int × Int)} {a0_0:(List S41)} {a0_1:Int} {a0_2:Int} {a1:Int} {b1:Nat} {A2:Option Addr} {c3:Nat} (hr4:Rd G k41 A2 a0_0) (hl5:a0_0.length ≤ c3),(parse_parser_expr.fix k).2.2.2.1 a0_0 a0_1 a0_2 a1=some r → Fn Try.prog 78 G [Blk b1 [.slice A2 a0_0.length c3,VI a0_1,VI a0_2] 67] [VP b1 0,VI a1] (parse_parser_primary.post G b1 A2 c3 a0_0 a0_1 a0_2 a1 r))∧(∀ {G:Gd} {r:(S24 × Int × Int)} {a0_0:(List S41)} {a0_1:Int} {a0_2:Int} {a1:Int} {b1:Nat} {A2:Option Addr} {c3:Nat} (hr4:Rd G k41 A2 a0_0) (hl5:a0_0.length ≤ c3),(parse_parser_expr.fix k).2.2.2.2 a0_0 a0_1 a0_2 a1=some r → Fn Try.prog 79 G [Blk b1 [.slice A2 a0_0.length c3,VI a0_1,VI a0_2] 67] [VP b1 0,VI a1] (parse_parser_name.post G b1 A2 c3 a0_0 a0_1 a0_2 a1 r))∧True
 | 0=>⟨(by intros; contradiction),(by intros; contradiction),(by intros; contradiction),(by intros; contradiction),(by intros; contradiction),trivial⟩
 | k + 1=>by
  have ih:=parse_parser_expr.fixc k
  exact ⟨(by
   intro G r a0_0 a0_1 a0_2 a1 b1 A2 c3 hr4 hl5 h
   exact parse_parser_expr.step _ _ _ _ _ ih.1 ih.2.1 ih.2.2.1 ih.2.2.2.1 ih.2.2.2.2.1 hr4 hl5 h),(by
   intro G r a0_0 a0_1 a0_2 a1 a2 b1 A2 c3 hr4 hl5 h
   exact parse_parser_climb.step _ _ _ _ _ ih.1 ih.2.1 ih.2.2.1 ih.2.2.2.1 ih.2.2.2.2.1 hr4 hl5 h),(by
   intro G r a0_0 a0_1 a0_2 a1 b1 A2 c3 hr4 hl5 h
   exact parse_parser_operand.step _ _ _ _ _ ih.1 ih.2.1 ih.2.2.1 ih.2.2.2.1 ih.2.2.2.2.1 hr4 hl5 h),(by
   intro G r a0_0 a0_1 a0_2 a1 b1 A2 c3 hr4 hl5 h
   exact parse_parser_primary.step _ _ _ _ _ ih.1 ih.2.1 ih.2.2.1 ih.2.2.2.1 ih.2.2.2.2.1 hr4 hl5 h),(by
   intro G r a0_0 a0_1 a0_2 a1 b1 A2 c3 hr4 hl5 h
   exact parse_parser_name.step _ _ _ _ _ ih.1 ih.2.1 ih.2.2.1 ih.2.2.2.1 ih.2.2.2.2.1 hr4 hl5 h),trivial⟩
def parse_parser_expr.f (a0_0:(List S41)) (a0_1:Int) (a0_2:Int) (a1:Int):Option (S24 × Int × Int):=(parse_parser_expr.fix 100000).1 a0_0 a0_1 a0_2 a1
theorem parse_parser_expr.calls {G:Gd} {r:(S24 × Int × Int)} {a0_0:(List S41)} {a0_1:Int} {a0_2:Int} {a1:Int} {b1:Nat} {A2:Option Addr} {c3:Nat} (hr4:Rd G k41 A2 a0_0) (hl5:a0_0.length ≤ c3) (h:parse_parser_expr.f a0_0 a0_1 a0_2 a1=some r):Fn Try.prog 72 G [Blk b1 [.slice A2 a0_0.length c3,VI a0_1,VI a0_2] 67] [VP b1 0,VI a1] (parse_parser_expr.post G b1 A2 c3 a0_0 a0_1 a0_2 a1 r):=(parse_parser_expr.fixc 100000).1 hr4 hl5 h
def parse_parser_climb.f (a0_0:(List S41)) (a0_1:Int) (a0_2:Int) (a1:Int) (a2:Int):Option (S24 × Int × Int):=(parse_parser_expr.fix 100000).2.1 a0_0 a0_1 a0_2 a1 a2
theorem parse_parser_climb.calls {G:Gd} {r:(S24 × Int × Int)} {a0_0:(List S41)} {a0_1:Int} {a0_2:Int} {a1:Int} {a2:Int} {b1:Nat} {A2:Option Addr} {c3:Nat} (hr4:Rd G k41 A2 a0_0) (hl5:a0_0.length ≤ c3) (h:parse_parser_climb.f a0_0 a0_1 a0_2 a1 a2=some r):Fn Try.prog 74 G [Blk b1 [.slice A2 a0_0.length c3,VI a0_1,VI a0_2] 67] [VP b1 0,VI a1,VI a2] (parse_parser_climb.post G b1 A2 c3 a0_0 a0_1 a0_2 a1 a2 r):=(parse_parser_expr.fixc 100000).2.1 hr4 hl5 h
def parse_parser_operand.f (a0_0:(List S41)) (a0_1:Int) (a0_2:Int) (a1:Int):Option (S24 × Int × Int):=(parse_parser_expr.fix 100000).2.2.1 a0_0 a0_1 a0_2 a1
theorem parse_parser_operand.calls {G:Gd} {r:(S24 × Int × Int)} {a0_0:(List S41)} {a0_1:Int} {a0_2:Int} {a1:Int} {b1:Nat} {A2:Option Addr} {c3:Nat} (hr4:Rd G k41 A2 a0_0) (hl5:a0_0.length ≤ c3) (h:parse_parser_operand.f a0_0 a0_1 a0_2 a1=some r):Fn Try.prog 75 G [Blk b1 [.slice A2 a0_0.length c3,VI a0_1,VI a0_2] 67] [VP b1 0,VI a1] (parse_parser_operand.post G b1 A2 c3 a0_0 a0_1 a0_2 a1 r):=(parse_parser_expr.fixc 100000).2.2.1 hr4 hl5 h
def parse_parser_primary.f (a0_0:(List S41)) (a0_1:Int) (a0_2:Int) (a1:Int):Option (S24 × Int × Int):=(parse_parser_expr.fix 100000).2.2.2.1 a0_0 a0_1 a0_2 a1
theorem parse_parser_primary.calls {G:Gd} {r:(S24 × Int × Int)} {a0_0:(List S41)} {a0_1:Int} {a0_2:Int} {a1:Int} {b1:Nat} {A2:Option Addr} {c3:Nat} (hr4:Rd G k41 A2 a0_0) (hl5:a0_0.length ≤ c3) (h:parse_parser_primary.f a0_0 a0_1 a0_2 a1=some r):Fn Try.prog 78 G [Blk b1 [.slice A2 a0_0.length c3,VI a0_1,VI a0_2] 67] [VP b1 0,VI a1] (parse_parser_primary.post G b1 A2 c3 a0_0 a0_1 a0_2 a1 r):=(parse_parser_expr.fixc 100000).2.2.2.1 hr4 hl5 h
def parse_parser_name.f (a0_0:(List S41)) (a0_1:Int) (a0_2:Int) (a1:Int):Option (S24 × Int × Int):=(parse_parser_expr.fix 100000).2.2.2.2 a0_0 a0_1 a0_2 a1
theorem parse_parser_name.calls {G:Gd} {r:(S24 × Int × Int)} {a0_0:(List S41)} {a0_1:Int} {a0_2:Int} {a1:Int} {b1:Nat} {A2:Option Addr} {c3:Nat} (hr4:Rd G k41 A2 a0_0) (hl5:a0_0.length ≤ c3) (h:parse_parser_name.f a0_0 a0_1 a0_2 a1=some r):Fn Try.prog 79 G [Blk b1 [.slice A2 a0_0.length c3,VI a0_1,VI a0_2] 67] [VP b1 0,VI a1] (parse_parser_name.post G b1 A2 c3 a0_0 a0_1 a0_2 a1 r):=(parse_parser_expr.fixc 100000).2.2.2.2.1 hr4 hl5 h
end Go.Proofs.Ythlhmoocgjddpaa.Sy
set_option linter.unusedVariables false
set_option linter.unusedSimpArgs false
namespace Go.Proofs.Ythlhmoocgjddpaa.Sy
open Go Go.RowKit Go.Proofs.YthlhmoocgjddpaaW.PrintWords
def sg (s : ByteArray) : Int := (parse_strength.f s).getD 0
def pf (s : ByteArray) : Int := (parse_prefix.f s).getD 0
section
variable {l l' : List S41} {o : Int} {T : Prop}
abbrev P5 := List S41 → Int → Int → Int → Int → Option (S24 × Int × Int)
end
end Go.Proofs.Ythlhmoocgjddpaa.Sy
set_option linter.unusedVariables false
set_option linter.unusedSimpArgs false
set_option maxRecDepth 100000
set_option maxHeartbeats 4000000
namespace Go.Proofs.Ythlhmoocgjddpaa.Sy
open Go Go.RowKit Go.Proofs.YthlhmoocgjddpaaW.PrintWords 
def parse_parser_simple.f (a0_0:(List S41)) (a0_1:Int) (a0_2:Int) (a1:S24) (a2:Int):Option (S24 × Int × Int):=(parse_parser_expr.f a0_0 a0_1 a0_2 (IntKind.i64.wrap (a2 + 1))).bind fun (y12:(S24 × Int × Int))=>(parse_parser_take.f a0_0 y12.2.1 y12.2.2 (⟨#[61]⟩:ByteArray)).bind fun (y117:(Bool × Int))=>jn (γ:=(S24 × Int × Int)) (fun (x162:Int) (x163:Int) (x164:Int) (l165:(List S24))=>some ((⟨x164,a1.f1,a1.f2,l165⟩:S24),x162,x163)) (fun (j169:(Int → Int → Int → (List S24) → Option (S24 × Int × Int)))=>(if y117.1=true then (parse_parser_expr.f a0_0 y117.2 y12.2.2 (IntKind.i64.wrap (a2 + 1))).bind fun (y181:(S24 × Int × Int))=>(if ([y12.1]:List S24).length < 2513169434916 then j169 y181.2.1 y181.2.2 11 (([y12.1]:List S24) ++ [y181.1]) else none) else (at? ([y12.1]:List S24) 0).bind fun y197=>(if (!decide (y197.f0=25))=true then (parse_parser_wrong.f a0_0 y117.2 y12.2.2 2).bind fun (y214:Int)=>j169 y117.2 y214 16 ([y12.1]:List S24) else j169 y117.2 y12.2.2 16 ([y12.1]:List S24))))
def parse_parser_simple.post (G:Gd) (b1:Nat) (A2:Option Addr) (c3:Nat) (A6:Option Addr) (c7:Nat) (a0_0:(List S41)) (a0_1:Int) (a0_2:Int) (a1:S24) (a2:Int) (r:(S24 × Int × Int)) (v:Value) (G':Gd) (Lr:List Ch):Prop:=G=G'∧∃ (A_1:Option Addr) (c_1:Nat),v=.agg #[VI r.1.f0,.string r.1.f1,VI r.1.f2,.slice A_1 r.1.f3.length c_1]∧Lr=[Blk b1 [.slice A2 a0_0.length c3,VI r.2.1,VI r.2.2] 67,Row k24 24 (.slice A_1 r.1.f3.length c_1) r.1.f3]
theorem parse_parser_simple.calls {G:Gd} {r:(S24 × Int × Int)} {a0_0:(List S41)} {a0_1:Int} {a0_2:Int} {a1:S24} {a2:Int} {b1:Nat} {A2:Option Addr} {c3:Nat} {A6:Option Addr} {c7:Nat} (hr4:Rd G k41 A2 a0_0) (hl5:a0_0.length ≤ c3) (hr8:Rd G k24 A6 a1.f3) (hl9:a1.f3.length ≤ c7) (h:parse_parser_simple.f a0_0 a0_1 a0_2 a1 a2=some r):Fn Try.prog 73 G [Blk b1 [.slice A2 a0_0.length c3,VI a0_1,VI a0_2] 67] [VP b1 0,.agg #[VI a1.f0,.string a1.f1,VI a1.f2,.slice A6 a1.f3.length c7],VI a2] (parse_parser_simple.post G b1 A2 c3 A6 c7 a0_0 a0_1 a0_2 a1 a2 r):=by
 refine Fn.intro (e:=[(0,VP b1 0),(1,.agg #[VI a1.f0,.string a1.f1,VI a1.f2,.slice A6 a1.f3.length c7]),(2,VI a2)]) 37 Try.func73 rfl Try.ntmps73 rfl rfl (Nat.le_of_ble_eq_true rfl) (fun L=>?_)
 unfold parse_parser_simple.f at h
 refine TC.seq ?_
 refine TC.region ?_
 refine TL.cons (TL.box (cs:=[VI a1.f0,.string a1.f1,VI a1.f2,.slice A6 a1.f3.length c7]) rfl rfl rfl rfl (fun b10=>?_))
 refine TL.cons (TL.alloc (cs:=[VI 0,.string (⟨#[]⟩:ByteArray),VI 0,.slice none 0 0]) rfl rfl zr24 rfl (fun b11=>?_))
 refine TL.nil ?_
 refine TQ.then_ ?_
 refine TC.seq ?_
 refine TC.region ?_
 refine TV rfl rfl rfl (Val.move rfl) ?_
 refine TV rfl rfl rfl (Val.move rfl) ?_
 refine TV rfl rfl rfl (Val.cmp rfl rfl run_add) ?_
 refine TK.sel (Ls:=[Blk b1 [.slice A2 a0_0.length c3,VI a0_1,VI a0_2] 67,Blk b11 [VI 0,.string (⟨#[]⟩:ByteArray),VI 0,.slice none 0 0] 24,Blk b10 [VI a1.f0,.string a1.f1,VI a1.f2,.slice A6 a1.f3.length c7] 24]) [2,0,1] 3 rfl rfl rfl ?_
 obtain ⟨y12,hy13,h⟩:=bind_no h
 refine TL.cons (TL.callV (Lin:=[Blk b1 [.slice A2 a0_0.length c3,VI a0_1,VI a0_2] 67]) (args:=[VP b1 0,VI (IntKind.i64.wrap (a2 + 1))]) rfl rfl rfl hbd72 rfl rfl (parse_parser_expr.calls (a0_0:=a0_0) (a0_1:=a0_1) (a0_2:=a0_2) (a1:=IntKind.i64.wrap (a2 + 1)) hr4 hl5 hy13) rfl ?_)
 rintro _ _ _ _ ⟨rfl,A14,c15,rfl,rfl⟩
 refine TL.cons (TL.buildSlice (xs:=[.tmp 10]) (vs:=[.agg #[VI y12.1.f0,.string y12.1.f1,VI y12.1.f2,.slice A14 y12.1.f3.length c15]]) (cs:=[VI y12.1.f0,.string y12.1.f1,VI y12.1.f2,.slice A14 y12.1.f3.length c15]) rfl rfl Try.underlying22 zs24 rfl rfl rfl rfl rfl rfl rfl rfl (fun b17=>?_))
 refine TV rfl rfl rfl (Val.fieldAddrB Try.underlying24 rfl fsz3 rfl rfl rfl) ?_
 refine TL.cons (TL.store 4 (ds:=[VI 16]) (cs':=[VI 16,.string a1.f1,VI a1.f2,.slice A6 a1.f3.length c7]) (L':=(Blk b17 [VI y12.1.f0,.string y12.1.f1,VI y12.1.f2,.slice A14 y12.1.f3.length c15] 24::Blk b1 [.slice A2 a0_0.length c3,VI y12.2.1,VI y12.2.2] 67::Row k24 24 (.slice A14 y12.1.f3.length c15) y12.1.f3::Blk b11 [VI 0,.string (⟨#[]⟩:ByteArray),VI 0,.slice none 0 0] 24::Blk b10 [VI 16,.string a1.f1,VI a1.f2,.slice A6 a1.f3.length c7] 24::L)) rfl fsz3 rfl rfl rfl rfl rfl (Nat.le_of_ble_eq_true rfl) rfl rfl ?_)
 refine TV rfl rfl rfl (Val.fieldAddrB Try.underlying24 rfl fsz22 rfl rfl rfl) ?_
 refine TL.cons (TL.store 4 (ds:=[.slice (some ⟨b17,0,none⟩) 1 1]) (cs':=[VI 16,.string a1.f1,VI a1.f2,.slice (some ⟨b17,0,none⟩) 1 1]) (L':=(Blk b17 [VI y12.1.f0,.string y12.1.f1,VI y12.1.f2,.slice A14 y12.1.f3.length c15] 24::Blk b1 [.slice A2 a0_0.length c3,VI y12.2.1,VI y12.2.2] 67::Row k24 24 (.slice A14 y12.1.f3.length c15) y12.1.f3::Blk b11 [VI 0,.string (⟨#[]⟩:ByteArray),VI 0,.slice none 0 0] 24::Blk b10 [VI 16,.string a1.f1,VI a1.f2,.slice (some ⟨b17,0,none⟩) 1 1] 24::L)) rfl fsz22 rfl rfl rfl rfl rfl (Nat.le_of_ble_eq_true rfl) rfl rfl ?_)
 refine TL.nil ?_
 refine TQ.then_ ?_
 refine TC.seq ?_
 refine TC.block ?_
 refine TC.seq ?_
 refine TC.region ?_
 refine TV rfl rfl rfl (Val.move rfl) ?_
 refine TK.sel (Ls:=[Blk b1 [.slice A2 a0_0.length c3,VI y12.2.1,VI y12.2.2] 67,Blk b17 [VI y12.1.f0,.string y12.1.f1,VI y12.1.f2,.slice A14 y12.1.f3.length c15] 24,Row k24 24 (.slice A14 y12.1.f3.length c15) y12.1.f3,Blk b11 [VI 0,.string (⟨#[]⟩:ByteArray),VI 0,.slice none 0 0] 24,Blk b10 [VI 16,.string a1.f1,VI a1.f2,.slice (some ⟨b17,0,none⟩) 1 1] 24]) [1,0,2,3,4] 5 rfl rfl rfl ?_
 obtain ⟨y117,hy118,h⟩:=bind_no h
 refine TL.cons (TL.callV (Lin:=[Blk b1 [.slice A2 a0_0.length c3,VI y12.2.1,VI y12.2.2] 67]) (args:=[VP b1 0,.string (⟨#[61]⟩:ByteArray)]) rfl rfl rfl hbd62 rfl rfl (parse_parser_take.calls (a0_0:=a0_0) (a0_1:=y12.2.1) (a0_2:=y12.2.2) (a1:=(⟨#[61]⟩:ByteArray)) hr4 hl5 hy118) rfl ?_)
 rintro _ _ _ _ ⟨rfl,rfl,rfl⟩
 refine TV rfl rfl rfl (Val.assign rfl) ?_
 refine TL.nil ?_
 refine TQ.then_ ?_
 obtain ⟨j169,hj169,h⟩:=jn_no h
 refine TC.tail (fun a W=>∃ (x162:Int) (x163:Int) (x164:Int) (l165:(List S24)) (A166:Option Addr) (c167:Nat),j169 x162 x163 x164 l165=some r∧Fr 37 a [(4,VP b10 0),(6,VP b11 0)]∧Own G (Blk b1 [.slice A2 a0_0.length c3,VI x162,VI x163] 67::Blk b10 [VI x164,.string a1.f1,VI a1.f2,.slice A166 l165.length c167] 24::Blk b11 [VI 0,.string (⟨#[]⟩:ByteArray),VI 0,.slice none 0 0] 24::Row k24 24 (.slice A166 l165.length c167) l165::L) W) ?_ ?_
 ·
  rintro a W ⟨x162,x163,x164,l165,A166,c167,h,hF,hO⟩
  rw [hj169] at h
  refine TQ.use ?_ hF hO
  clear hF hO
  refine TQ.inB ?_
  refine TQ.then_ ?_
  refine TC.seq ?_
  refine TC.region ?_
  refine TV rfl rfl rfl (Val.loadsB 1 (cs:=[VI x164,.string a1.f1,VI a1.f2,.slice A166 l165.length c167]) agg24 fsz24 rfl rfl rfl rfl) ?_
  refine TL.cons (TL.store 2 (ds:=[VI x164,.string a1.f1,VI a1.f2,.slice A166 l165.length c167]) (cs':=[VI x164,.string a1.f1,VI a1.f2,.slice A166 l165.length c167]) (L':=(Blk b1 [.slice A2 a0_0.length c3,VI x162,VI x163] 67::Blk b10 [VI x164,.string a1.f1,VI a1.f2,.slice A166 l165.length c167] 24::Blk b11 [VI x164,.string a1.f1,VI a1.f2,.slice A166 l165.length c167] 24::Row k24 24 (.slice A166 l165.length c167) l165::L)) rfl fsz24 rfl rfl rfl rfl rfl (Nat.le_of_ble_eq_true rfl) rfl rfl ?_)
  refine TL.nil ?_
  refine TQ.then_ ?_
  refine TC.ret ?_
  obtain rfl:=Option.some.inj h
  exact TQ.fin (.inl rfl) rfl Try.results73 (.cells 2 rfl rfl agg24 fsz24 .nil) rfl (FRel.mk (Ls:=[Blk b1 [.slice A2 a0_0.length c3,VI x162,VI x163] 67,Row k24 24 (.slice A166 l165.length c167) l165]) [0,3] 4 (Gd.le.refl _) rfl rfl rfl ⟨rfl,A166,c167,rfl,rfl⟩)
 ·
  refine TC.cond_b rfl h (fun hc170 h=>?_) (fun hc170 h=>?_)
  ·
   refine TC.new (Els.nil k24) ?_
   refine TC.sel (Ls:=[Row k24 24 (.slice A14 y12.1.f3.length c15) y12.1.f3,Els k24 [] [],Blk b1 [.slice A2 a0_0.length c3,VI y117.2,VI y12.2.2] 67,Blk b17 [VI y12.1.f0,.string y12.1.f1,VI y12.1.f2,.slice A14 y12.1.f3.length c15] 24,Blk b11 [VI 0,.string (⟨#[]⟩:ByteArray),VI 0,.slice none 0 0] 24,Blk b10 [VI 16,.string a1.f1,VI a1.f2,.slice (some ⟨b17,0,none⟩) 1 1] 24]) [3,0,1,2,4,5] 6 rfl rfl rfl ?_
   refine TC.conv (ch':=El k24 y12.1 [VI y12.1.f0,.string y12.1.f1,VI y12.1.f2,.slice A14 y12.1.f3.length c15]) (fun B W F hh=>k24_mkM W B F y12.1 hh) ?_
   refine TC.sel (Ls:=[Els k24 [] [],El k24 y12.1 [VI y12.1.f0,.string y12.1.f1,VI y12.1.f2,.slice A14 y12.1.f3.length c15],Blk b1 [.slice A2 a0_0.length c3,VI y117.2,VI y12.2.2] 67,Blk b17 [VI y12.1.f0,.string y12.1.f1,VI y12.1.f2,.slice A14 y12.1.f3.length c15] 24,Blk b11 [VI 0,.string (⟨#[]⟩:ByteArray),VI 0,.slice none 0 0] 24,Blk b10 [VI 16,.string a1.f1,VI a1.f2,.slice (some ⟨b17,0,none⟩) 1 1] 24]) [1,0,2,3,4,5] 6 rfl rfl rfl ?_
   refine TC.two (ch:=Els k24 [y12.1] [VI y12.1.f0,.string y12.1.f1,VI y12.1.f2,.slice A14 y12.1.f3.length c15]) (Els.snoc k24) ?_
   refine TC.sel (Ls:=[Blk b17 [VI y12.1.f0,.string y12.1.f1,VI y12.1.f2,.slice A14 y12.1.f3.length c15] 24,Els k24 [y12.1] [VI y12.1.f0,.string y12.1.f1,VI y12.1.f2,.slice A14 y12.1.f3.length c15],Blk b1 [.slice A2 a0_0.length c3,VI y117.2,VI y12.2.2] 67,Blk b11 [VI 0,.string (⟨#[]⟩:ByteArray),VI 0,.slice none 0 0] 24,Blk b10 [VI 16,.string a1.f1,VI a1.f2,.slice (some ⟨b17,0,none⟩) 1 1] 24]) [2,0,1,3,4] 5 rfl rfl rfl ?_
   refine TC.two (ch:=Row k24 24 (.slice (some ⟨b17,0,none⟩) 1 1) ([y12.1]:List S24)) (Row.lit k24 rfl rfl) ?_
   refine TC.regionAnyS (L0:=(Blk b11 [VI 0,.string (⟨#[]⟩:ByteArray),VI 0,.slice none 0 0] 24::Blk b10 [VI 16,.string a1.f1,VI a1.f2,.slice (some ⟨b17,0,none⟩) 1 1] 24::L)) [9,10,11] [0,1,2,3,4,8] mixed (by kernel_rfl) ?_
   refine TA.take 0 rfl (by kernel_rfl) rfl (PQ.then_ (PQ.inB (PQ.then_ PQ.body))) rfl (Val.fieldAddrB Try.underlying24 rfl fsz22 rfl rfl rfl) (fun W hO=>hO.selT (Ls:=[Blk b11 [VI 0,.string (⟨#[]⟩:ByteArray),VI 0,.slice none 0 0] 24,Blk b10 [VI 16,.string a1.f1,VI a1.f2,.slice (some ⟨b17,0,none⟩) 1 1] 24]) [2,3] 4 rfl rfl rfl) ?_
   refine TA.take 1 rfl (by kernel_rfl) rfl (PQ.then_ (PQ.inB (PQ.then_ PQ.body))) rfl (Val.loadB 1 agg22 rfl rfl rfl) (fun W hO=>hO.selT (Ls:=[Blk b11 [VI 0,.string (⟨#[]⟩:ByteArray),VI 0,.slice none 0 0] 24,Blk b10 [VI 16,.string a1.f1,VI a1.f2,.slice (some ⟨b17,0,none⟩) 1 1] 24]) [2,3] 4 rfl rfl rfl) ?_
   refine TA.take 2 rfl (by kernel_rfl) rfl (PQ.then_ (PQ.inB (PQ.then_ PQ.body))) rfl (Val.move rfl) (fun W hO=>hO.selT (Ls:=[Blk b11 [VI 0,.string (⟨#[]⟩:ByteArray),VI 0,.slice none 0 0] 24,Blk b10 [VI 16,.string a1.f1,VI a1.f2,.slice (some ⟨b17,0,none⟩) 1 1] 24]) [2,3] 4 rfl rfl rfl) ?_
   refine TA.take 3 rfl (by kernel_rfl) rfl (PQ.then_ (PQ.inB (PQ.then_ PQ.body))) rfl (Val.move rfl) (fun W hO=>hO.selT (Ls:=[Blk b11 [VI 0,.string (⟨#[]⟩:ByteArray),VI 0,.slice none 0 0] 24,Blk b10 [VI 16,.string a1.f1,VI a1.f2,.slice (some ⟨b17,0,none⟩) 1 1] 24]) [2,3] 4 rfl rfl rfl) ?_
   refine TA.take 4 rfl (by kernel_rfl) rfl (PQ.then_ (PQ.inB (PQ.then_ PQ.body))) rfl (Val.cmp rfl rfl run_add) (fun W hO=>hO.selT (Ls:=[Blk b11 [VI 0,.string (⟨#[]⟩:ByteArray),VI 0,.slice none 0 0] 24,Blk b10 [VI 16,.string a1.f1,VI a1.f2,.slice (some ⟨b17,0,none⟩) 1 1] 24]) [2,3] 4 rfl rfl rfl) ?_
   refine TA.take 8 rfl (by kernel_rfl) rfl (PQ.then_ (PQ.inB (PQ.then_ PQ.body))) rfl (Val.fieldAddrB Try.underlying24 rfl fsz3 rfl rfl rfl) (fun W hO=>hO.selT (Ls:=[Blk b11 [VI 0,.string (⟨#[]⟩:ByteArray),VI 0,.slice none 0 0] 24,Blk b10 [VI 16,.string a1.f1,VI a1.f2,.slice (some ⟨b17,0,none⟩) 1 1] 24]) [2,3] 4 rfl rfl rfl) ?_
   refine TK.sel (Ls:=[Blk b1 [.slice A2 a0_0.length c3,VI y117.2,VI y12.2.2] 67,Row k24 24 (.slice (some ⟨b17,0,none⟩) 1 1) ([y12.1]:List S24),Blk b11 [VI 0,.string (⟨#[]⟩:ByteArray),VI 0,.slice none 0 0] 24,Blk b10 [VI 16,.string a1.f1,VI a1.f2,.slice (some ⟨b17,0,none⟩) 1 1] 24]) [1,0,2,3] 4 rfl rfl rfl ?_
   obtain ⟨y181,hy182,h⟩:=bind_no h
   refine TA.eff 5 rfl (by kernel_rfl) rfl (TL.callV (Lin:=[Blk b1 [.slice A2 a0_0.length c3,VI y117.2,VI y12.2.2] 67]) (args:=[VP b1 0,VI (IntKind.i64.wrap (a2 + 1))]) rfl rfl rfl hbd72 rfl rfl (parse_parser_expr.calls (a0_0:=a0_0) (a0_1:=y117.2) (a0_2:=y12.2.2) (a1:=IntKind.i64.wrap (a2 + 1)) hr4 hl5 hy182) rfl ?_)
   rintro _ _ _ _ ⟨rfl,A183,c184,rfl,rfl⟩
   refine TA.next (fun W hO=>hO.selT (Ls:=[Blk b11 [VI 0,.string (⟨#[]⟩:ByteArray),VI 0,.slice none 0 0] 24,Blk b10 [VI 16,.string a1.f1,VI a1.f2,.slice (some ⟨b17,0,none⟩) 1 1] 24]) [3,4] 5 rfl rfl rfl) ?_
   refine TA.eff 6 rfl (by kernel_rfl) rfl (TL.buildSlice (xs:=[.tmp 22]) (vs:=[.agg #[VI y181.1.f0,.string y181.1.f1,VI y181.1.f2,.slice A183 y181.1.f3.length c184]]) (cs:=[VI y181.1.f0,.string y181.1.f1,VI y181.1.f2,.slice A183 y181.1.f3.length c184]) rfl rfl Try.underlying22 zs24 rfl rfl rfl rfl rfl rfl rfl rfl (fun b186=>?_))
   refine TA.next (fun W hO=>hO.selT (Ls:=[Blk b11 [VI 0,.string (⟨#[]⟩:ByteArray),VI 0,.slice none 0 0] 24,Blk b10 [VI 16,.string a1.f1,VI a1.f2,.slice (some ⟨b17,0,none⟩) 1 1] 24]) [4,5] 6 rfl rfl rfl) ?_
   refine TK.sel (Ls:=[Row k24 24 (.slice A183 y181.1.f3.length c184) y181.1.f3,Blk b186 [VI y181.1.f0,.string y181.1.f1,VI y181.1.f2,.slice A183 y181.1.f3.length c184] 24,Blk b1 [.slice A2 a0_0.length c3,VI y181.2.1,VI y181.2.2] 67,Row k24 24 (.slice (some ⟨b17,0,none⟩) 1 1) ([y12.1]:List S24),Blk b11 [VI 0,.string (⟨#[]⟩:ByteArray),VI 0,.slice none 0 0] 24,Blk b10 [VI 16,.string a1.f1,VI a1.f2,.slice (some ⟨b17,0,none⟩) 1 1] 24]) [2,0,1,3,4,5] 6 rfl rfl rfl ?_
   refine TK.conv (ch':=El k24 y181.1 [VI y181.1.f0,.string y181.1.f1,VI y181.1.f2,.slice A183 y181.1.f3.length c184]) (fun B W F hh=>k24_mkM W B F y181.1 hh) ?_
   refine TK.sel (Ls:=[Row k24 24 (.slice (some ⟨b17,0,none⟩) 1 1) ([y12.1]:List S24),El k24 y181.1 [VI y181.1.f0,.string y181.1.f1,VI y181.1.f2,.slice A183 y181.1.f3.length c184],Blk b186 [VI y181.1.f0,.string y181.1.f1,VI y181.1.f2,.slice A183 y181.1.f3.length c184] 24,Blk b1 [.slice A2 a0_0.length c3,VI y181.2.1,VI y181.2.2] 67,Blk b11 [VI 0,.string (⟨#[]⟩:ByteArray),VI 0,.slice none 0 0] 24,Blk b10 [VI 16,.string a1.f1,VI a1.f2,.slice (some ⟨b17,0,none⟩) 1 1] 24]) [3,0,1,2,4,5] 6 rfl rfl rfl ?_
   obtain ⟨ha187,h⟩:=ite_no h
   refine TA.eff 7 rfl (by kernel_rfl) rfl (TL.append (xs:=([y12.1]:List S24)) k24 rfl rfl Try.underlying22 inf24 rfl (Nat.le_of_ble_eq_true rfl) (Nat.le_of_ble_eq_true rfl) rfl rfl (by omega) (fun A188 c189=>?_))
   refine TA.next (fun W hO=>hO.selT (Ls:=[Blk b11 [VI 0,.string (⟨#[]⟩:ByteArray),VI 0,.slice none 0 0] 24,Blk b10 [VI 16,.string a1.f1,VI a1.f2,.slice (some ⟨b17,0,none⟩) 1 1] 24]) [2,3] 4 rfl rfl rfl) ?_
   refine TA.eff 9 rfl (by kernel_rfl) rfl (TL.store 3 (ds:=[VI 11]) (cs':=[VI 11,.string a1.f1,VI a1.f2,.slice (some ⟨b17,0,none⟩) 1 1]) (L':=(Row k24 24 (.slice A188 (([y12.1]:List S24) ++ [y181.1]).length c189) (([y12.1]:List S24) ++ [y181.1])::Blk b1 [.slice A2 a0_0.length c3,VI y181.2.1,VI y181.2.2] 67::Blk b11 [VI 0,.string (⟨#[]⟩:ByteArray),VI 0,.slice none 0 0] 24::Blk b10 [VI 11,.string a1.f1,VI a1.f2,.slice (some ⟨b17,0,none⟩) 1 1] 24::L)) rfl fsz3 rfl rfl rfl rfl rfl (Nat.le_of_ble_eq_true rfl) rfl rfl ?_)
   refine TA.last rfl ?_
   refine TA.eff 10 rfl (by kernel_rfl) rfl (TO.val rfl rfl rfl (Val.fieldAddrB Try.underlying24 rfl fsz22 rfl rfl rfl) ?_)
   refine TA.last rfl ?_
   refine TA.eff 11 rfl (by kernel_rfl) rfl (TL.store 3 (ds:=[.slice A188 (([y12.1]:List S24) ++ [y181.1]).length c189]) (cs':=[VI 11,.string a1.f1,VI a1.f2,.slice A188 (([y12.1]:List S24) ++ [y181.1]).length c189]) (L':=(Row k24 24 (.slice A188 (([y12.1]:List S24) ++ [y181.1]).length c189) (([y12.1]:List S24) ++ [y181.1])::Blk b1 [.slice A2 a0_0.length c3,VI y181.2.1,VI y181.2.2] 67::Blk b11 [VI 0,.string (⟨#[]⟩:ByteArray),VI 0,.slice none 0 0] 24::Blk b10 [VI 11,.string a1.f1,VI a1.f2,.slice A188 (([y12.1]:List S24) ++ [y181.1]).length c189] 24::L)) rfl fsz22 rfl rfl rfl rfl rfl (Nat.le_of_ble_eq_true rfl) rfl rfl ?_)
   refine TA.last rfl ?_
   refine TA.done (by kernel_rfl) ?_
   exact fun a W hF hO=>⟨y181.2.1,y181.2.2,11,(([y12.1]:List S24) ++ [y181.1]),A188,c189,h,hF.sub ⟨rfl,rfl,trivial⟩,hO.selT (Ls:=[Blk b1 [.slice A2 a0_0.length c3,VI y181.2.1,VI y181.2.2] 67,Blk b10 [VI 11,.string a1.f1,VI a1.f2,.slice A188 (([y12.1]:List S24) ++ [y181.1]).length c189] 24,Blk b11 [VI 0,.string (⟨#[]⟩:ByteArray),VI 0,.slice none 0 0] 24,Row k24 24 (.slice A188 (([y12.1]:List S24) ++ [y181.1]).length c189) (([y12.1]:List S24) ++ [y181.1])]) [1,3,2,0] 4 rfl rfl rfl⟩
  ·
   refine TC.seq ?_
   refine TC.region ?_
   refine TV rfl rfl rfl (Val.fieldAddrB Try.underlying24 rfl fsz22 rfl rfl rfl) ?_
   refine TV rfl rfl rfl (Val.loadB 4 agg22 rfl rfl rfl) ?_
   refine TK.new (Els.nil k24) ?_
   refine TK.sel (Ls:=[Row k24 24 (.slice A14 y12.1.f3.length c15) y12.1.f3,Els k24 [] [],Blk b1 [.slice A2 a0_0.length c3,VI y117.2,VI y12.2.2] 67,Blk b17 [VI y12.1.f0,.string y12.1.f1,VI y12.1.f2,.slice A14 y12.1.f3.length c15] 24,Blk b11 [VI 0,.string (⟨#[]⟩:ByteArray),VI 0,.slice none 0 0] 24,Blk b10 [VI 16,.string a1.f1,VI a1.f2,.slice (some ⟨b17,0,none⟩) 1 1] 24]) [3,0,1,2,4,5] 6 rfl rfl rfl ?_
   refine TK.conv (ch':=El k24 y12.1 [VI y12.1.f0,.string y12.1.f1,VI y12.1.f2,.slice A14 y12.1.f3.length c15]) (fun B W F hh=>k24_mkM W B F y12.1 hh) ?_
   refine TK.sel (Ls:=[Els k24 [] [],El k24 y12.1 [VI y12.1.f0,.string y12.1.f1,VI y12.1.f2,.slice A14 y12.1.f3.length c15],Blk b1 [.slice A2 a0_0.length c3,VI y117.2,VI y12.2.2] 67,Blk b17 [VI y12.1.f0,.string y12.1.f1,VI y12.1.f2,.slice A14 y12.1.f3.length c15] 24,Blk b11 [VI 0,.string (⟨#[]⟩:ByteArray),VI 0,.slice none 0 0] 24,Blk b10 [VI 16,.string a1.f1,VI a1.f2,.slice (some ⟨b17,0,none⟩) 1 1] 24]) [1,0,2,3,4,5] 6 rfl rfl rfl ?_
   refine TK.two (ch:=Els k24 [y12.1] [VI y12.1.f0,.string y12.1.f1,VI y12.1.f2,.slice A14 y12.1.f3.length c15]) (Els.snoc k24) ?_
   refine TK.sel (Ls:=[Blk b17 [VI y12.1.f0,.string y12.1.f1,VI y12.1.f2,.slice A14 y12.1.f3.length c15] 24,Els k24 [y12.1] [VI y12.1.f0,.string y12.1.f1,VI y12.1.f2,.slice A14 y12.1.f3.length c15],Blk b1 [.slice A2 a0_0.length c3,VI y117.2,VI y12.2.2] 67,Blk b11 [VI 0,.string (⟨#[]⟩:ByteArray),VI 0,.slice none 0 0] 24,Blk b10 [VI 16,.string a1.f1,VI a1.f2,.slice (some ⟨b17,0,none⟩) 1 1] 24]) [2,0,1,3,4] 5 rfl rfl rfl ?_
   refine TK.two (ch:=Row k24 24 (.slice (some ⟨b17,0,none⟩) 1 1) ([y12.1]:List S24)) (Row.lit k24 rfl rfl) ?_
   refine TK.share (fun G191 e192 hs193 hb194=>?_)
   have rd195:Rd G191 k24 (some ⟨b17,0,none⟩) ([y12.1]:List S24):=Rd.row hs193
   have le196:([y12.1]:List S24).length ≤ 1:=Row.le hs193
   obtain ⟨y197,hx198,h⟩:=bind_no h
   obtain ⟨ad199,cs205,hA200,hi201,hj202,hcl203,hK204⟩:=Rd.at rd195 hx198
   obtain ⟨A206,c207,rfl,hr208,hl209⟩:=k24_openR hK204
   refine TV rfl rfl rfl (Val.indexAddr Try.underlying22 fsz24 rfl hA200 rfl hi201 hj202) ?_
   refine TV rfl rfl rfl (Val.fieldAddrE Try.underlying24 rfl fsz3 rfl rfl) ?_
   refine TV rfl rfl rfl (Val.loadS agg3 rfl (hcl203 0 _ rfl)) ?_
   refine TV rfl rfl rfl (Val.cmp rfl rfl run_neq) ?_
   refine TV rfl rfl rfl (Val.assign rfl) ?_
   refine TL.nil ?_
   refine TQ.then_ ?_
   refine TC.back hb194 ?_
   refine TC.cond_b rfl h (fun hc213 h=>?_) (fun hc213 h=>?_)
   ·
    refine TC.region ?_
    refine TV rfl rfl rfl (Val.move rfl) ?_
    refine TK.sel (Ls:=[Blk b1 [.slice A2 a0_0.length c3,VI y117.2,VI y12.2.2] 67,Row k24 24 (.slice (some ⟨b17,0,none⟩) 1 1) ([y12.1]:List S24),Blk b11 [VI 0,.string (⟨#[]⟩:ByteArray),VI 0,.slice none 0 0] 24,Blk b10 [VI 16,.string a1.f1,VI a1.f2,.slice (some ⟨b17,0,none⟩) 1 1] 24]) [1,0,2,3] 4 rfl rfl rfl ?_
    obtain ⟨y214,hy215,h⟩:=bind_no h
    refine TL.cons (TL.callV (Lin:=[Blk b1 [.slice A2 a0_0.length c3,VI y117.2,VI y12.2.2] 67]) (args:=[VP b1 0,VI 2]) rfl rfl rfl hbd63 rfl rfl (parse_parser_wrong.calls (a0_0:=a0_0) (a0_1:=y117.2) (a0_2:=y12.2.2) (a1:=2) hr4 hl5 hy215) rfl ?_)
    rintro _ _ _ _ ⟨rfl,rfl,rfl⟩
    refine TL.nil ?_
    exact fun a W hF hO=>⟨y117.2,y214,16,([y12.1]:List S24),(some ⟨b17,0,none⟩),1,h,hF.sub ⟨rfl,rfl,trivial⟩,hO.selT (Ls:=[Blk b1 [.slice A2 a0_0.length c3,VI y117.2,VI y214] 67,Blk b10 [VI 16,.string a1.f1,VI a1.f2,.slice (some ⟨b17,0,none⟩) ([y12.1]:List S24).length 1] 24,Blk b11 [VI 0,.string (⟨#[]⟩:ByteArray),VI 0,.slice none 0 0] 24,Row k24 24 (.slice (some ⟨b17,0,none⟩) ([y12.1]:List S24).length 1) ([y12.1]:List S24)]) [0,3,2,1] 4 rfl rfl rfl⟩
   ·
    refine TC.skip ?_
    exact fun a W hF hO=>⟨y117.2,y12.2.2,16,([y12.1]:List S24),(some ⟨b17,0,none⟩),1,h,hF.sub ⟨rfl,rfl,trivial⟩,hO.selT (Ls:=[Blk b1 [.slice A2 a0_0.length c3,VI y117.2,VI y12.2.2] 67,Blk b10 [VI 16,.string a1.f1,VI a1.f2,.slice (some ⟨b17,0,none⟩) ([y12.1]:List S24).length 1] 24,Blk b11 [VI 0,.string (⟨#[]⟩:ByteArray),VI 0,.slice none 0 0] 24,Row k24 24 (.slice (some ⟨b17,0,none⟩) ([y12.1]:List S24).length 1) ([y12.1]:List S24)]) [1,3,2,0] 4 rfl rfl rfl⟩
end Go.Proofs.Ythlhmoocgjddpaa.Sy
