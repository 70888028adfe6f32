/- The pure statement of the law TokenNumbers holds: what the code computes is true, whatever the numbers, texts and lists are. No condition beside the statement's own. -/
import Derived.Test.YtpjoajoacakpgaaTokD
import Derived.Test.YtpjoajoacakpgaaTokF
import Derived.Test.YtpjoajoacakpgaaQx9
set_option linter.unusedSimpArgs false
set_option linter.unusedVariables false
namespace Go.Proofs.Ytpjoajoacakpgaa.Pure
open Go.RowKit Go.Proofs.Ytpjoajoacakpgaa.Q Go.Proofs.Ytpjoajoacakpgaa.Tok Go.Proofs.Ytpjoajoacakpgaa.Given Go.Proofs.YtpjoajoacakpgaaW.PrintWords Go.Proofs.YtpjoajoacakpgaaW.PrintLast Go.Proofs.YtpjoajoacakpgaaW.PrintMore
theorem dig_of {m : Nat} : digB (UInt8.ofNat (48 + m % 10)) = true ∧ ((UInt8.ofNat (48 + m % 10)).toNat : Int) = 48 + ((m % 10 : Nat) : Int) := by
  have h : (UInt8.ofNat (48 + m % 10)).toNat = 48 + m % 10 := UInt8.toNat_ofNat_of_lt' (by show 48 + m % 10 < 256; omega)
  refine ⟨?_, by rw [h]; omega⟩
  rw [digB_iff, h]; omega
theorem wdig {m : Nat} (h : m ≤ 9223372036854775807) : wrap64 (48 + Int.tmod (m : Int) 10) % 256 = ((48 + m % 10 : Nat) : Int) := by
  rw [Int.tmod_eq_emod_of_nonneg (by omega)]; unfold wrap64; omega
theorem wten {m : Nat} (h : m ≤ 9223372036854775807) : wrap64 (Int.tdiv (m : Int) 10) = ((m / 10 : Nat) : Int) := by
  rw [Int.tdiv_eq_ediv_of_nonneg (by omega)]; unfold wrap64; omega
/-- The digits laid so far: read from m on they give n. -/
structure Laid (n m : Nat) (l : List UInt8) : Prop where
  dig : ∀ c ∈ l, digB c = true
  go : numGo l m = some (n : Int)
  len : l.length ≤ 20
  room : m < 10 ^ (20 - l.length)
  head : m = 0 → l ≠ [] ∧ l.head? ≠ some 48 ∨ n = 0
theorem laid_step {n m : Nat} {l : List UInt8} (hn : n ≤ 9223372036854775807) (hm : m ≤ 9223372036854775807) (h0 : 0 < m) (h : Laid n m l) : Laid n (m / 10) (UInt8.ofNat (48 + m % 10) :: l) := by
  have hd := dig_of (m := m)
  have hlen : l.length < 20 := by
    by_cases hl : l.length = 20
    · have := h.room; rw [hl] at this; simp at this; omega
    · have := h.len; omega
  refine ⟨?_, ?_, by simp; omega, ?_, ?_⟩
  · intro c hc
    rcases List.mem_cons.1 hc with rfl | hc
    · exact hd.1
    · exact h.dig c hc
  · have e : 10 * ((m / 10 : Nat) : Int) + (48 + ((m % 10 : Nat) : Int) - 48) = (m : Int) := by omega
    rw [numGo, hd.2, if_pos ⟨hd.1, by omega⟩, e]
    exact h.go
  · have e : (20 - (UInt8.ofNat (48 + m % 10) :: l).length) + 1 = 20 - l.length := by simp; omega
    have r := h.room
    rw [← e, Nat.pow_succ] at r
    omega
  · intro hz
    left
    refine ⟨by simp, ?_⟩
    rw [List.head?_cons]
    intro hc
    injection hc with hc
    have h2 := hd.2
    rw [hc] at h2
    have : ((48 : UInt8).toNat : Int) = 48 := rfl
    omega
theorem num_of {n : Nat} {l : List UInt8} (hne : l ≠ []) (hh : l.head? ≠ some 48) (hg : numGo l 0 = some (n : Int)) : numL l = ((n : Int), true) := by
  unfold numL
  rw [if_neg (by rintro (h | ⟨_, h⟩); exact hne h; exact hh h), hg]
theorem tw_dig {l : List UInt8} (h : ∀ c ∈ l, digB c = true) : l.takeWhile digB = l ∧ l.dropWhile digB = [] := by
  induction l with
  | nil => exact ⟨rfl, rfl⟩
  | cons a l ih =>
    have ha := h a List.mem_cons_self
    obtain ⟨h1, h2⟩ := ih (fun c hc => h c (List.mem_cons_of_mem _ hc))
    simp [ha, h1, h2]
theorem tw_dig97 {l : List UInt8} (h : ∀ c ∈ l, digB c = true) : (l ++ [97]).takeWhile digB = l ∧ (l ++ [97]).dropWhile digB = [97] := by
  induction l with
  | nil => exact ⟨rfl, rfl⟩
  | cons a l ih =>
    have ha := h a List.mem_cons_self
    obtain ⟨h1, h2⟩ := ih (fun c hc => h c (List.mem_cons_of_mem _ hc))
    simp [ha, h1, h2]
theorem dig_clear {a : UInt8} (h : digB a = true) : letB a = false ∧ blaB a = false ∧ a ≠ 47 := by
  refine ⟨?_, ?_, ?_⟩
  · cases l0 : letB a
    · rfl
    · simp [letB, digB] at l0 h; omega
  · cases l0 : blaB a
    · rfl
    · simp [blaB, digB] at l0 h; omega
  · rintro rfl; cases h
theorem skip_dig {a : UInt8} {l : List UInt8} (h : digB a = true) : skipL (a :: l) = a :: l := by
  obtain ⟨_, h2, h3⟩ := dig_clear h
  refine skipL_id h2 ?_
  cases l with
  | nil => rfl
  | cons b l => simp [isSS, h3]
/-- A number's digits are one token. -/
theorem lex_num {s : ByteArray} {n : Int} (hs : s.size ≤ 20) (hne : s.data.toList ≠ []) (hd : ∀ c ∈ s.data.toList, digB c = true) (hn : numL s.data.toList = (n, true)) :
    lexL s = ([(⟨2, s, 0⟩ : S30)], (s.size : Int), 0) := by
  have hl := data_length s
  have ht := tw_dig hd
  have key : ∀ l : List UInt8, l = s.data.toList → skipL l = l ∧ cutL l = (s.size, 2) := by
    intro l he
    rw [← he] at hne hd hn ht hl
    cases l with
    | nil => exact absurd rfl hne
    | cons a l =>
      have ha := hd a List.mem_cons_self
      obtain ⟨h1, h2, h3⟩ := dig_clear ha
      refine ⟨skip_dig ha, ?_⟩
      rw [cutL, if_neg (by simp [h1]), if_pos ha, ht.1, ht.2, hn, if_pos ⟨rfl, rfl⟩, hl]
  obtain ⟨k1, k2⟩ := key _ rfl
  have htk : tokQ s.size s.data.toList = (⟨2, s, 0⟩ : S30) := by
    unfold tokQ
    rw [k2, hl]
    have : (⟨(s.data.toList.take s.size).toArray⟩ : ByteArray) = s := by
      apply bytes_ext
      show s.data.toList.take s.size = _
      rw [List.take_of_length_le (by omega)]
    simp only [this, Int.sub_self]
  unfold lexL
  rw [if_neg (by omega), k1, streamQ, dif_neg hne, dif_neg (by rw [k2]; simp), k2, List.drop_of_length_le (by omega), skipL_nil, streamQ, dif_pos rfl, htk]
  rfl
/-- With a letter behind it is none. -/
theorem lex_num97 {s : ByteArray} (hs : s.size ≤ 20) (hne : s.data.toList ≠ []) (hd : ∀ c ∈ s.data.toList, digB c = true) :
    lexL (s ++ (⟨#[97]⟩ : ByteArray)) = ([], 0, 2) := by
  have hl := data_length (s ++ (⟨#[97]⟩ : ByteArray))
  have e : (s ++ (⟨#[97]⟩ : ByteArray)).data.toList = s.data.toList ++ [97] := by simp
  have ht := tw_dig97 hd
  have hsz : (s ++ (⟨#[97]⟩ : ByteArray)).size = s.size + 1 := by rw [ByteArray.size_append]; rfl
  have key : ∀ l : List UInt8, l = s.data.toList → skipL (l ++ [97]) = l ++ [97] ∧ cutL (l ++ [97]) = (0, 0) := by
    intro l he
    rw [← he] at hne hd ht
    cases l with
    | nil => exact absurd rfl hne
    | cons a l =>
      have ha := hd a List.mem_cons_self
      obtain ⟨h1, h2, h3⟩ := dig_clear ha
      refine ⟨skip_dig ha, ?_⟩
      rw [List.cons_append] at ht ⊢
      rw [cutL, if_neg (by simp [h1]), if_pos ha, ht.1, ht.2, if_neg]
      rintro ⟨_, h⟩; cases h
  obtain ⟨k1, k2⟩ := key _ rfl
  have htk : tokQ (s ++ (⟨#[97]⟩ : ByteArray)).size (s ++ (⟨#[97]⟩ : ByteArray)).data.toList = (⟨0, ⟨#[]⟩, 0⟩ : S30) := by
    unfold tokQ
    rw [hl, Int.sub_self, e, k2]
    rfl
  unfold lexL
  rw [if_neg (by omega)]
  rw [← e] at k1 k2
  rw [k1, streamQ, dif_neg (by rw [e]; simp), dif_pos (by rw [k2]), htk]
  rfl
theorem str_one {m : Nat} (h : m < 256) : strOfNums [(m : Int)] = (⟨#[UInt8.ofNat m]⟩ : ByteArray) := by
  unfold strOfNums; simp
theorem cons_data (m : UInt8) (s : ByteArray) : ((⟨#[m]⟩ : ByteArray) ++ s).data.toList = m :: s.data.toList := by simp
theorem cons_size (m : UInt8) (s : ByteArray) : ((⟨#[m]⟩ : ByteArray) ++ s).size = 1 + s.size := by rw [ByteArray.size_append]; rfl
theorem numbers_end (n : Nat) (s : ByteArray) (hs : s.size ≤ 20) (hne : s.data.toList ≠ []) (hd : ∀ c ∈ s.data.toList, digB c = true) (hn : numL s.data.toList = ((n : Int), true)) :
    Ev (fun k => swagelaw09_TokenNumbers.j1 k n true s) true := by
  have h1 := lex_num hs hne hd hn
  have h2 := lex_num97 hs hne hd
  have h3 := cons_size 48 s
  have h4 : numL ((⟨#[48]⟩ : ByteArray) ++ s).data.toList = (0, false) := by
    rw [cons_data]
    unfold numL
    rw [if_pos (.inr ⟨by cases hh : s.data.toList; exact absurd hh hne; simp, rfl⟩)]
  refine Ev.step (f := fun _ => some true) (fun k => ?_) (Ev.now _)
  rw [swagelaw09_TokenNumbers.j1]
  unfold token_Number.f token_Lex.f
  rw [if_pos (by omega), Option.bind_some, h1, Option.bind_some, if_pos (by omega), if_pos (by omega), Option.bind_some, if_pos (by omega), h2, Option.bind_some, hn, h4]
  simp [rd_T30]
theorem numbers_run (n : Nat) (hn : n ≤ 9223372036854775807) : ∀ (m : Nat) (s : ByteArray), m ≤ n → Laid n m s.data.toList → Ev (fun k => swagelaw09_TokenNumbers.l0 k n true s m) true := by
  intro m
  induction m using Nat.strongRecOn with
  | _ m ih =>
    intro s hm h
    have hsl := h.len
    rw [data_length] at hsl
    by_cases h0 : 0 < m
    · have hmb : m ≤ 9223372036854775807 := by omega
      have hst := laid_step hn hmb h0 h
      have e1 := cons_data (UInt8.ofNat (48 + m % 10)) s
      have e2 := cons_size (UInt8.ofNat (48 + m % 10)) s
      rw [← e1] at hst
      have c1 : 48 + m % 10 < 256 := by omega
      refine Ev.step (fun k => ?_) (ih (m / 10) (by omega) _ (by omega) hst)
      rw [swagelaw09_TokenNumbers.l0, if_pos (by omega), Option.bind_some, wdig hmb, str_one c1, if_pos (by rw [← ByteArray.size_append, e2]; omega), wten hmb]
    · obtain rfl : m = 0 := by omega
      have hg := h.go
      by_cases hz : n = 0
      · subst hz
        have hq := numbers_end 0 (⟨#[48]⟩ : ByteArray) (by decide) (by decide) (by decide) (by decide +kernel)
        refine Ev.step (fun k => ?_) hq
        rw [swagelaw09_TokenNumbers.l0, if_neg (by decide), if_pos (by rfl)]
      · rcases h.head rfl with ⟨h1, h2⟩ | h1
        · refine Ev.step (fun k => ?_) (numbers_end n s hsl h1 h.dig (num_of h1 h2 hg))
          rw [swagelaw09_TokenNumbers.l0, if_neg (by decide), if_neg (by omega)]
        · exact absurd h1 hz
theorem TokenNumbers : swagelaw09_TokenNumbers.Pure := by
  intro a ha
  have key : Ev (fun k => swagelaw09_TokenNumbers.f k a) true := by
    unfold swagelaw09_TokenNumbers.f
    refine Ev.bind small_ev ?_
    by_cases h0 : a < 0
    · exact Ev.congr (fun k => by rw [if_pos h0]) (Ev.now _)
    · have hb : a ≤ 9223372036854775807 := by
        simp [Lit.wf, IntKind.min, IntKind.max, IntKind.signed, IntKind.bits] at ha; omega
      obtain ⟨n, rfl⟩ : ∃ n : Nat, a = n := ⟨a.toNat, by omega⟩
      have hn : n ≤ 9223372036854775807 := by omega
      refine Ev.congr (fun k => by rw [if_neg h0]) (numbers_run n hn n (⟨#[]⟩ : ByteArray) (Nat.le_refl _) ⟨by simp, rfl, by simp, ?_, ?_⟩)
      · show n < 10 ^ 20; omega
      · intro h; right; exact h
  exact key.rounds
end Go.Proofs.Ytpjoajoacakpgaa.Pure
