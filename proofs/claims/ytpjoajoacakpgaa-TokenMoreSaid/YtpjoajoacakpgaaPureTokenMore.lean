/- The pure statement of the law TokenMore holds: what the code computes is true, whatever the numbers, texts and lists are. No condition beside the statement's own. -/
import Derived.Test.YtpjoajoacakpgaaTokD
import Derived.Test.YtpjoajoacakpgaaTokF
import Derived.Test.YtpjoajoacakpgaaQx8
set_option linter.unusedSimpArgs false
set_option linter.unusedVariables false
namespace Go.Proofs.Ytpjoajoacakpgaa.Pure
open Go.RowKit Go.Proofs.Ytpjoajoacakpgaa.Q Go.Proofs.Ytpjoajoacakpgaa.Tok Go.Proofs.Ytpjoajoacakpgaa.Given Go.Proofs.YtpjoajoacakpgaaW.PrintWords Go.Proofs.YtpjoajoacakpgaaW.PrintLast Go.Proofs.YtpjoajoacakpgaaW.PrintMore
theorem rd_at {l : List S30} {i : Nat} (h : i < l.length) : rd_T30 l (i : Int) = l[i] := by
  simp [rd_T30, List.getD, List.getElem?_eq_getElem h]
theorem wsub {a b : Nat} (hb : b ≤ a) (h : a ≤ 140737488355328) : wrap64 ((a : Int) - (b : Int)) = ((a - b : Nat) : Int) := by unfold wrap64; omega
theorem wadd {a b : Nat} (h : a + b ≤ 140737488355328) : wrap64 ((a : Int) + (b : Int)) = ((a + b : Nat) : Int) := by unfold wrap64; omega
theorem wat {x : Int} {n : Nat} (h0 : 0 ≤ x) (h1 : x ≤ 65536) (hn : n ≤ 65536) : wrap64 (wrap64 (x + (n : Int)) + 1) = x + ((n + 1 : Nat) : Int) := by unfold wrap64; omega
theorem wat2 {x : Int} {n : Nat} (h0 : 0 ≤ x) (h1 : x ≤ 65536) (hn : n ≤ 65536) : wrap64 (wrap64 ((n : Int) + 1) + x) = x + ((n + 1 : Nat) : Int) := by unfold wrap64; omega
theorem more_run (s : ByteArray) (hs : s.size ≤ 2048) (a b : List S30) (ha : a.length ≤ 65536) (hb : b.length ≤ 65536) (hat : ∀ x ∈ b, 0 ≤ x.f2 ∧ x.f2 < 65536) (d : Nat) :
    ∀ i : Nat, i + d = a.length + b.length → Ev (fun k => swagelaw09_TokenMore.l0 k s true a b (a ++ b.map (shift (s.size + 1))) i) true := by
  have hlen : (a ++ b.map (shift (s.size + 1))).length = a.length + b.length := by rw [List.length_append, List.length_map]
  obtain ⟨c, hc⟩ : ∃ c, a ++ b.map (shift (s.size + 1)) = c := ⟨_, rfl⟩
  rw [hc] at hlen ⊢
  induction d with
  | zero =>
    intro i hi
    refine Ev.step (f := fun _ => some true) (fun k => ?_) (Ev.now _)
    rw [swagelaw09_TokenMore.l0, if_neg (by omega)]
  | succ d ih =>
    intro i hi
    have l1 : i < c.length := by omega
    have c4 : i ≤ 140737488355328 := by omega
    have IH := ih (i + 1) (by omega)
    by_cases h : i < a.length
    · have e : rd_T30 c i = rd_T30 a i := by
        rw [rd_at l1, rd_at h]
        subst hc
        exact List.getElem_append_left h
      refine Ev.step (fun k => ?_) IH
      rw [swagelaw09_TokenMore.l0, if_pos (by omega), if_pos (by omega), if_pos (by omega), e, if_neg (by simp), w1 c4]
    · have l2 : i - a.length < b.length := by omega
      have c5 : a.length ≤ i := by omega
      have e : rd_T30 c i = shift (s.size + 1) (rd_T30 b ((i - a.length : Nat) : Int)) := by
        rw [rd_at l1, rd_at l2]
        subst hc
        rw [List.getElem_append_right c5, List.getElem_map]
      have hx := hat (rd_T30 b ((i - a.length : Nat) : Int)) (by rw [rd_at l2]; exact List.getElem_mem _)
      generalize hT : rd_T30 b ((i - a.length : Nat) : Int) = T at e hx
      have hx0 : 0 ≤ T.f2 := hx.1
      have hx1 : T.f2 ≤ 65536 := by omega
      have hs6 : s.size ≤ 65536 := by omega
      refine Ev.step (f := fun k => swagelaw09_TokenMore.j3 k s true a b c i false) (fun k => ?_) (Ev.step (fun k => by rw [swagelaw09_TokenMore.j3, if_neg (by decide), w1 c4]) IH)
      rw [swagelaw09_TokenMore.l0, if_pos (by omega), if_pos (by omega), if_neg (by omega), wsub c5 c4, if_pos (by omega), if_pos (by omega), e, hT, if_pos (show (shift (s.size + 1) T).f0 = T.f0 from rfl), if_pos (show (shift (s.size + 1) T).f1.toList = T.f1.toList from rfl), wat hx0 hx1 hs6]
      simp [shift]
theorem more_stream (s t : ByteArray) : streamQ ((s ++ (⟨#[10]⟩ : ByteArray)) ++ t).size (skipL ((s ++ (⟨#[10]⟩ : ByteArray)) ++ t).data.toList) =
    streamQ s.size (skipL s.data.toList) ++ if (∀ x ∈ streamQ s.size (skipL s.data.toList), x.f0 ≠ 0) then (streamQ t.size (skipL t.data.toList)).map (shift (s.size + 1)) else [] := by
  have e1 : ((s ++ (⟨#[10]⟩ : ByteArray)) ++ t).data.toList = s.data.toList ++ 10 :: t.data.toList := by simp
  have e2 : ((s ++ (⟨#[10]⟩ : ByteArray)) ++ t).size = s.size + (1 + t.data.toList.length) := by
    rw [data_length, ByteArray.size_append, ByteArray.size_append]
    show s.size + 1 + t.size = _; omega
  have hid := skip_idem s.data.toList
  have h := stream_app s.size t.data.toList (skipL s.data.toList) hid
  have e3 : skipL (skipL s.data.toList ++ 10 :: t.data.toList) = skipL (s.data.toList ++ 10 :: t.data.toList) := by rw [skip_app, skip_app, hid]
  rw [e3] at h
  rw [e1, e2, h]
  have e4 : s.size + (1 + t.data.toList.length) = t.size + (s.size + 1) := by rw [data_length]; omega
  rw [e4, stream_shift]
theorem find_shift (d : Nat) (l : List S30) : (l.map (shift d)).find? (fun x => x.f0 == 0) = (l.find? (fun x => x.f0 == 0)).map (shift d) := by
  induction l with
  | nil => rfl
  | cons x l ih =>
    rw [List.map_cons, List.find?_cons, List.find?_cons, ih]
    show (match x.f0 == 0 with | true => _ | false => _) = _
    cases x.f0 == 0 <;> rfl
theorem more_in (s t : ByteArray) (hs : s.size ≤ 2048) (ht : t.size ≤ 2048) : Ev (fun k => swagelaw09_TokenMore.j0 k s t true false) true := by
  have hlen1 := streamQ_len s.size (skipL s.data.toList)
  have hle1 := skipL_le s.data.toList
  rw [data_length] at hle1
  have hlen2 := streamQ_len t.size (skipL t.data.toList)
  have hle2 := skipL_le t.data.toList
  rw [data_length] at hle2
  have hat := stream_at t.size _ hle2
  have hst := more_stream s t
  have hsz : ((s ++ (⟨#[10]⟩ : ByteArray)) ++ t).size = s.size + 1 + t.size := by rw [ByteArray.size_append, ByteArray.size_append]; rfl
  have hsz1 : (s ++ (⟨#[10]⟩ : ByteArray)).size = s.size + 1 := by rw [ByteArray.size_append]; rfl
  have hlx : lexL ((s ++ (⟨#[10]⟩ : ByteArray)) ++ t) = lexOf ((s ++ (⟨#[10]⟩ : ByteArray)) ++ t).size (streamQ s.size (skipL s.data.toList) ++ if (∀ x ∈ streamQ s.size (skipL s.data.toList), x.f0 ≠ 0) then (streamQ t.size (skipL t.data.toList)).map (shift (s.size + 1)) else []) := by
    rw [← hst]; unfold lexL; rw [if_neg (by omega)]
  rcases lex_cases s (by omega) with ⟨hl, hok⟩ | ⟨x, hx, h0, hl, hf⟩
  · rw [if_pos hok] at hlx
    rcases lex_cases t (by omega) with ⟨hl2, hok2⟩ | ⟨x, hx, h0, hl2, hf⟩
    · have hall : ∀ x ∈ streamQ s.size (skipL s.data.toList) ++ (streamQ t.size (skipL t.data.toList)).map (shift (s.size + 1)), x.f0 ≠ 0 := by
        intro x hx
        rcases List.mem_append.1 hx with h | h
        · exact hok x h
        · obtain ⟨y, hy, rfl⟩ := List.mem_map.1 h
          exact hok2 y hy
      rw [lexOf_ok _ hall] at hlx
      have hat' : ∀ x ∈ streamQ t.size (skipL t.data.toList), 0 ≤ x.f2 ∧ x.f2 < 65536 := fun x hx => ⟨(hat x hx).1, by have := (hat x hx).2; omega⟩
      generalize streamQ s.size (skipL s.data.toList) = a at *
      generalize streamQ t.size (skipL t.data.toList) = b at *
      have c1 : a.length + b.length ≤ 140737488355328 := by omega
      have hlc : (a ++ b.map (shift (s.size + 1))).length = a.length + b.length := by rw [List.length_append, List.length_map]
      have run := more_run s hs a b (by omega) (by omega) hat' (a.length + b.length) 0 (by omega)
      refine Ev.step (f := fun k => swagelaw09_TokenMore.j1 k s true a b (a ++ b.map (shift (s.size + 1))) false) (fun k => ?_) (Ev.step (fun k => by rw [swagelaw09_TokenMore.j1, if_neg (by decide)]; rfl) run)
      rw [swagelaw09_TokenMore.j0, if_neg (by decide)]
      unfold token_Lex.f
      rw [hl, hl2, hlx, Option.bind_some, Option.bind_some, Option.bind_some, if_pos (by omega), if_pos (by omega), if_pos rfl, if_pos rfl, if_pos rfl]
      simp only
      rw [wadd c1, hlc]
      simp
    · have hx2 := hat x hx
      have c0 : 0 ≤ x.f2 := hx2.1
      have c1 : x.f2 ≤ 65536 := by omega
      have c2 : s.size ≤ 65536 := by omega
      have hfa : (streamQ s.size (skipL s.data.toList)).find? (fun x => x.f0 == 0) = none := by
        rw [List.find?_eq_none]; intro y hy; simpa using hok y hy
      have hlx2 : lexL ((s ++ (⟨#[10]⟩ : ByteArray)) ++ t) = ([], x.f2 + ((s.size + 1 : Nat) : Int), 2) := by
        rw [hlx]; unfold lexOf
        rw [List.find?_append, hfa, Option.none_or, find_shift, hf]
        rfl
      refine Ev.step (f := fun _ => some true) (fun k => ?_) (Ev.now _)
      rw [swagelaw09_TokenMore.j0, if_neg (by decide)]
      unfold token_Lex.f
      rw [hl, hl2, hlx2, Option.bind_some, Option.bind_some, Option.bind_some, if_pos (by omega), if_pos (by omega), if_pos rfl, if_neg (by simp), if_pos rfl, if_pos rfl, wat2 c0 c1 c2]
      simp
  · have hno : ¬ ∀ x ∈ streamQ s.size (skipL s.data.toList), x.f0 ≠ 0 := fun h => h x hx h0
    rw [if_neg hno, List.append_nil] at hlx
    have hlx2 : lexL ((s ++ (⟨#[10]⟩ : ByteArray)) ++ t) = ([], x.f2, 2) := by
      rw [hlx]; unfold lexOf; rw [hf]
    refine Ev.step (f := fun _ => some true) (fun k => ?_) (Ev.now _)
    rw [swagelaw09_TokenMore.j0, if_neg (by decide)]
    unfold token_Lex.f
    rw [hl, hlx2, Option.bind_some, Option.bind_some, Option.bind_some, if_pos (by omega), if_pos (by omega), if_neg (by simp), if_pos rfl]
    rfl
theorem TokenMore : swagelaw09_TokenMore.Pure := by
  intro s t hs ht
  have key : Ev (fun k => swagelaw09_TokenMore.f k s t) true := by
    unfold swagelaw09_TokenMore.f
    refine Ev.bind small_ev ?_
    have big : Ev (fun k => swagelaw09_TokenMore.j0 k s t true true) true := Ev.step (f := fun _ => some true) (fun k => by rw [swagelaw09_TokenMore.j0, if_pos rfl]) (Ev.now _)
    by_cases h1 : s.size > 2048
    · exact Ev.congr (fun k => by rw [if_pos (by omega)]) big
    · by_cases h2 : t.size > 2048
      · exact Ev.congr (fun k => by rw [if_neg (by omega), decide_eq_true (by omega)]) big
      · exact Ev.congr (fun k => by rw [if_neg (by omega), decide_eq_false (by omega)]) (more_in s t (by omega) (by omega))
  exact key.rounds
end Go.Proofs.Ytpjoajoacakpgaa.Pure
