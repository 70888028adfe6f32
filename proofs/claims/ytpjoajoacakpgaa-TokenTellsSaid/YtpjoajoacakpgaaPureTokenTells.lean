/- The pure statement of the law TokenTells holds: what the code computes is true, whatever the numbers, texts and lists are. No condition beside the statement's own. -/
import Derived.Test.YtpjoajoacakpgaaTokD
import Derived.Test.YtpjoajoacakpgaaTokF
import Derived.Test.YtpjoajoacakpgaaQx5
set_option linter.unusedSimpArgs false
set_option linter.unusedVariables false
namespace Go.Proofs.Ytpjoajoacakpgaa.Pure
open Go.RowKit Go.Proofs.Ytpjoajoacakpgaa.Q Go.Proofs.Ytpjoajoacakpgaa.Tok Go.Proofs.Ytpjoajoacakpgaa.Given Go.Proofs.YtpjoajoacakpgaaW.PrintWords Go.Proofs.YtpjoajoacakpgaaW.PrintLast Go.Proofs.YtpjoajoacakpgaaW.PrintMore
theorem rd_at {l : List S30} {i : Nat} (h : i < l.length) : rd_T30 l (i : Int) = l[i] := by
  simp [rd_T30, List.getD, List.getElem?_eq_getElem h]
theorem name_run (s : ByteArray) (hs : s.size ≤ 1024) (d : Nat) : ∀ i : Nat, 0 < i → i + d = s.size → Ev (fun k => swageref09_Name.l0 k s i) (decide (runTo worB s i = s.size)) := by
  induction d with
  | zero =>
    intro i h0 hi
    obtain rfl : i = s.size := by omega
    rw [runTo_end worB s s.size (Nat.le_refl _), decide_eq_true rfl]
    refine Ev.step (f := fun _ => some true) (fun k => ?_) (Ev.now _)
    rw [swageref09_Name.l0, if_neg (by omega), decide_eq_true (by omega)]
  | succ d ih =>
    intro i h0 hi
    have hlt : i < s.size := by omega
    have c4 : i ≤ 140737488355328 := by omega
    have IH := ih (i + 1) (by omega) (by omega)
    cases hl : letB s[i]
    · cases hd : digB s[i]
      · rw [runTo_no worB s i hlt (by simp [worB, hl, hd]), decide_eq_false (by omega)]
        refine Ev.step (f := fun _ => some false) (fun k => ?_) (Ev.now _)
        rw [swageref09_Name.l0, if_pos (by omega), if_pos (by omega), btn_at hlt, ref_letter, hl, ref_digit, hd, Option.bind_some, if_neg (by decide), if_neg (by omega), Option.bind_some, if_neg (by decide)]
      · rw [runTo_yes worB s i hlt (by simp [worB, hd])]
        refine Ev.step (fun k => ?_) IH
        rw [swageref09_Name.l0, if_pos (by omega), if_pos (by omega), btn_at hlt, ref_letter, hl, ref_digit, hd, Option.bind_some, if_neg (by decide), if_neg (by omega), Option.bind_some, if_pos rfl, w1 c4]
    · rw [runTo_yes worB s i hlt (by simp [worB, hl])]
      refine Ev.step (fun k => ?_) IH
      rw [swageref09_Name.l0, if_pos (by omega), if_pos (by omega), btn_at hlt, ref_letter, hl, Option.bind_some, if_pos rfl, w1 c4]
theorem ref_name (s : ByteArray) (hs : s.size ≤ 1024) : Ev (fun k => swageref09_Name.f k s) (nameL s.data.toList) := by
  unfold swageref09_Name.f
  by_cases h0 : s.size = 0
  · have : s.data.toList = [] := by rw [← List.length_eq_zero_iff, data_length]; exact h0
    rw [this]
    refine Ev.step (f := fun _ => some false) (fun k => ?_) (Ev.now _)
    rw [swageref09_Name.l0, if_neg (by omega), decide_eq_false (by omega)]
  · have hlt : 0 < s.size := by omega
    rw [nameL_eq s hlt]
    have e := btn_at hlt
    rw [Int.natCast_zero] at e
    cases hl : letB s[0]
    · refine Ev.step (f := fun _ => some false) (fun k => ?_) (Ev.now _)
      rw [swageref09_Name.l0, if_pos (by omega), if_pos (by omega), e, ref_letter, hl, Option.bind_some, if_neg (by decide), if_pos rfl]
    · rw [runTo_yes worB s 0 hlt (by simp [worB, hl]), Bool.true_and]
      refine Ev.step (fun k => ?_) (name_run s hs (s.size - 1) 1 (by omega) (by omega))
      have w : wrap64 ((0 : Int) + 1) = ((1 : Nat) : Int) := by unfold wrap64; omega
      rw [swageref09_Name.l0, if_pos (by omega), if_pos (by omega), e, ref_letter, hl, Option.bind_some, if_pos rfl, w]
theorem joinB_size (l : List S30) : (joinB l).size = (Lib.join (textsL l) [32]).length := by
  rw [← data_length]; rfl
theorem joinB_take (x : S30) (r : List S30) (j : Nat) (y : S30) (h : r[j]? = some y) : joinB ((x :: r).take (j + 2)) = (joinB ((x :: r).take (j + 1)) ++ (⟨#[32]⟩ : ByteArray)) ++ y.f1 := by
  apply bytes_ext
  have h2 : (textsL r)[j]? = some y.f1.data.toList := by unfold textsL; rw [List.getElem?_map, h]; rfl
  have e : ∀ n, (joinB ((x :: r).take (n + 1))).data.toList = x.f1.data.toList ++ Lib.joinTail [32] ((textsL r).take n) := by
    intro n
    show Lib.join (textsL ((x :: r).take (n + 1))) [32] = _
    rw [List.take_succ_cons]
    have : textsL (x :: r.take n) = x.f1.data.toList :: (textsL r).take n := by unfold textsL; rw [List.map_cons, List.map_take]
    rw [this, Lib.join_cons]
  rw [e, Lib.joinTail_take_succ _ _ _ _ h2]
  have e2 : ∀ a b : ByteArray, (a ++ b).data.toList = a.data.toList ++ b.data.toList := fun a b => by simp
  rw [e2, e2, e]
  simp [List.append_assoc]
theorem joinB_le (l : List S30) (j : Nat) : (joinB (l.take j)).size ≤ (joinB l).size := by
  rw [joinB_size, joinB_size]
  cases l with
  | nil => simp
  | cons x r =>
    cases j with
    | zero => simp [textsL, Lib.join_nil]
    | succ j =>
      have e1 : textsL ((x :: r).take (j + 1)) = x.f1.data.toList :: (textsL r).take j := by unfold textsL; rw [List.take_succ_cons, List.map_cons, List.map_take]
      have e2 : textsL (x :: r) = x.f1.data.toList :: textsL r := rfl
      rw [e1, e2, Lib.join_cons, Lib.join_cons, List.length_append, List.length_append]
      have := Lib.joinTail_take_le [32] (textsL r) j
      omega
theorem join_run (l : List S30) (hl : l.length ≤ 60) (hj : (joinB l).size ≤ 65536) (d : Nat) : ∀ i : Nat, i + d = l.length → Ev (fun k => swageref09_Join.l0 k l (joinB (l.take i)) i) (joinB l) := by
  induction d with
  | zero =>
    intro i hi
    obtain rfl : i = l.length := by omega
    rw [List.take_length]
    refine Ev.step (f := fun _ => some (joinB l)) (fun k => ?_) (Ev.now _)
    rw [swageref09_Join.l0, if_neg (by omega)]
  | succ d ih =>
    intro i hi
    have hlt : i < l.length := by omega
    have c4 : i ≤ 140737488355328 := by omega
    have IH := ih (i + 1) (by omega)
    have hle := joinB_le l (i + 1)
    cases l with
    | nil => simp at hlt
    | cons x r =>
      cases i with
      | zero =>
        have e0 : joinB ((x :: r).take 0) = (⟨#[]⟩ : ByteArray) := rfl
        have e1 : joinB ((x :: r).take (0 + 1)) = x.f1 := by
          apply bytes_ext
          show Lib.join [x.f1.data.toList] [32] = _
          rw [Lib.join_one]
        have er : (rd_T30 (x :: r) ((0 : Nat) : Int)).f1 = x.f1 := by rw [rd_at hlt]; rfl
        rw [e1] at IH hle
        have es : (⟨#[]⟩ : ByteArray) ++ x.f1 = x.f1 := by apply bytes_ext; simp
        refine Ev.step (fun k => ?_) IH
        rw [e0, swageref09_Join.l0, if_pos (by omega), if_neg (by decide), if_pos (by omega), er, es, if_pos (by show 0 + _ ≤ _; omega), w1 c4]
      | succ j =>
        have hjr : j < r.length := by simp at hlt; omega
        have e := joinB_take x r j r[j] (List.getElem?_eq_getElem hjr)
        have er : (rd_T30 (x :: r) ((j + 1 : Nat) : Int)).f1 = r[j].f1 := by rw [rd_at hlt]; rfl
        rw [e] at IH hle
        rw [ByteArray.size_append] at hle
        have hs1 : (joinB ((x :: r).take (j + 1)) ++ (⟨#[32]⟩ : ByteArray)).size = (joinB ((x :: r).take (j + 1))).size + 1 := by rw [ByteArray.size_append]; rfl
        refine Ev.step (fun k => ?_) IH
        rw [swageref09_Join.l0, if_pos (by omega), if_pos (by omega), if_pos (by omega), if_pos (by omega), er, if_pos (by omega), w1 c4]
theorem ref_join (l : List S30) (hl : l.length ≤ 60) (hj : (joinB l).size ≤ 65536) : Ev (fun k => swageref09_Join.f k l) (joinB l) :=
  join_run l hl hj l.length 0 (by omega)
theorem tells_end (s : ByteArray) (hs : s.size ≤ 1024) (l : List S30) (hl : l.length ≤ 60) (hx : ∀ x ∈ l, x.f1.size ≤ 256) : Ev (fun k => swagelaw09_TokenTells.l0 k s l true l.length) true := by
  have hsum : ((textsL l).map fun t => t.length).sum ≤ 256 * l.length := by
    clear hl
    unfold textsL
    induction l with
    | nil => simp
    | cons x l ih =>
      have h1 := hx x List.mem_cons_self
      have h2 := ih (fun y hy => hx y (List.mem_cons_of_mem _ hy))
      simp only [List.map_cons, List.sum_cons, List.length_cons, data_length]
      omega
  have hjl := join_len (textsL l)
  have htx : (textsL l).length = l.length := by unfold textsL; rw [List.length_map]
  have hJ : (Lib.join (textsL l) [32]).length ≤ 65536 := by omega
  have hJs : (joinB l).size ≤ 65536 := by rw [joinB_size]; exact hJ
  have hja : token_Join.f l = some (joinB l) := by
    unfold token_Join.f
    rw [if_pos ⟨by omega, by show (Lib.join (textsL l) [32]).length ≤ _; omega⟩]
  refine Ev.step (f := fun k => ((swageref09_Number.f k s).bind fun bt179 => (if (numL s.data.toList).1 = bt179.1 then (if ((numL s.data.toList).2 == bt179.2) = true then ((swageref09_Name.f k s).bind fun t182 => (if (nameL s.data.toList == t182) = true then ((swageref09_Sign.f k s).bind fun t184 => (if (signL s.data.toList == t184) = true then ((swageref09_Join.f k l).bind fun t186 => (some ((joinB l).toList == t186.toList))) else (some false))) else (some false))) else (some false)) else (some false)))) (fun k => ?_) ?_
  · rw [swagelaw09_TokenTells.l0, if_neg (by omega)]
    unfold token_Number.f token_Name.f token_Sign.f
    rw [if_pos (by omega), if_pos (by omega), Option.bind_some, hja]
    simp only [if_true, Option.bind_some]
  · refine Ev.bind (ref_num s (by omega)) ?_
    refine Ev.congr (fun k => by rw [if_pos rfl, if_pos (by simp)]) (Ev.bind (ref_name s hs) ?_)
    refine Ev.congr (fun k => by rw [if_pos (by simp)]) (Ev.bind (ref_sign s) ?_)
    refine Ev.congr (fun k => by rw [if_pos (by simp)]) (Ev.bind (ref_join l hl hJs) ?_)
    refine Ev.congr (fun k => ?_) (Ev.now _)
    simp
theorem tells_run (s : ByteArray) (hs : s.size ≤ 1024) (l : List S30) (hl : l.length ≤ 60) (d : Nat) : ∀ i : Nat, i + d = l.length → (∀ x ∈ l.take i, x.f1.size ≤ 256) → Ev (fun k => swagelaw09_TokenTells.l0 k s l true i) true := by
  induction d with
  | zero =>
    intro i hi hx
    obtain rfl : i = l.length := by omega
    rw [List.take_length] at hx
    exact tells_end s hs l hl hx
  | succ d ih =>
    intro i hi hx
    have hlt : i < l.length := by omega
    have c4 : i ≤ 140737488355328 := by omega
    have er := rd_at hlt
    by_cases h : l[i].f1.size > 256
    · refine Ev.step (f := fun _ => some true) (fun k => ?_) (Ev.now _)
      rw [swagelaw09_TokenTells.l0, if_pos (by omega), if_pos (by omega), er, if_pos (by omega)]
    · refine Ev.step (fun k => ?_) (ih (i + 1) (by omega) ?_)
      · rw [swagelaw09_TokenTells.l0, if_pos (by omega), if_pos (by omega), er, if_neg (by omega), w1 c4]
      · intro x hm
        rw [List.take_succ_eq_append_getElem hlt] at hm
        rcases List.mem_append.1 hm with hm | hm
        · exact hx x hm
        · rw [List.mem_singleton.1 hm]; omega
theorem TokenTells (s : ByteArray) (l : List S30) : ∃ k, swagelaw09_TokenTells.f k s l = some true := by
  have key : Ev (fun k => swagelaw09_TokenTells.f k s l) true := by
    unfold swagelaw09_TokenTells.f
    refine Ev.bind small_ev ?_
    have big : Ev (fun k => swagelaw09_TokenTells.j0 k s l true true) true := Ev.step (f := fun _ => some true) (fun k => by rw [swagelaw09_TokenTells.j0, if_pos rfl]) (Ev.now _)
    by_cases h1 : s.size > 1024
    · exact Ev.congr (fun k => by rw [if_pos (by omega)]) big
    · by_cases h2 : l.length > 60
      · exact Ev.congr (fun k => by rw [if_neg (by omega), decide_eq_true (by omega)]) big
      · refine Ev.congr (fun k => by rw [if_neg (by omega), decide_eq_false (by omega)]) (Ev.step (f := fun k => swagelaw09_TokenTells.l0 k s l true ((0 : Nat) : Int)) (fun k => by rw [swagelaw09_TokenTells.j0, if_neg (by decide)]; rfl) (tells_run s (by omega) l (by omega) l.length 0 (by omega) (by simp)))
  exact key.rounds
end Go.Proofs.Ytpjoajoacakpgaa.Pure
