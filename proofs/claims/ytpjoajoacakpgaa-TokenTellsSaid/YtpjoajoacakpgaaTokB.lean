/- Plain facts on the cut of a text: what is told from a place on. No program in sight. -/
import Derived.Test.YtpjoajoacakpgaaTokA
set_option linter.unusedVariables false
set_option linter.unusedSimpArgs false
namespace Go.Proofs.Ytpjoajoacakpgaa.Tok
open Go.RowKit Go.Proofs.Ytpjoajoacakpgaa.Q Go.Proofs.Ytpjoajoacakpgaa.Given Go.Proofs.YtpjoajoacakpgaaW.PrintWords Go.Proofs.YtpjoajoacakpgaaW.PrintLast Go.Proofs.YtpjoajoacakpgaaW.PrintMore
theorem w1 {i : Nat} (h : i ≤ 140737488355328) : wrap64 ((i : Int) + 1) = ((i + 1 : Nat) : Int) := by unfold wrap64; omega
theorem w2 {i : Nat} (h : i ≤ 140737488355328) : wrap64 ((i : Int) + 2) = ((i + 2 : Nat) : Int) := by unfold wrap64; omega
theorem btn_at {s : ByteArray} {i : Nat} (h : i < s.size) : bt s (i : Int) = (s[i].toNat : Int) := by
  unfold bt; rw [Int.toNat_natCast, dif_pos h]
theorem u8_eq {c : UInt8} {n : Nat} (hn : n < 256) : ((c.toNat : Int) = (n : Int)) ↔ c = UInt8.ofNat n := by
  constructor
  · intro h; apply UInt8.toNat_inj.1; rw [UInt8.toNat_ofNat_of_lt' hn]; omega
  · rintro rfl; rw [UInt8.toNat_ofNat_of_lt' hn]
/-- What is told of what is left. -/
def lexAt (n : Nat) (q : List UInt8) : List S30 × Int × Int := lexOf n (streamQ n (skipL q))
def cont (acc : List S30) (r : List S30 × Int × Int) : List S30 × Int × Int := if r.2.2 = 0 then (acc ++ r.1, r.2.1, r.2.2) else r
theorem lex_end {n : Nat} {q : List UInt8} (h : skipL q = []) : lexAt n q = ([], (n : Int), 0) := by
  unfold lexAt; rw [h, streamQ, dif_pos rfl]; rfl
theorem lex_bad {n : Nat} {q : List UInt8} (h : skipL q ≠ []) (hk : (cutL (skipL q)).2 = 0) : lexAt n q = ([], (n : Int) - (skipL q).length, 2) := by
  unfold lexAt; rw [streamQ, dif_neg h, dif_pos hk]
  unfold lexOf
  simp [tokQ, hk]
theorem lexOf_cons (n : Nat) (t : S30) (ys : List S30) (ht : t.f0 ≠ 0) : lexOf n (t :: ys) = if (lexOf n ys).2.2 = 0 then (t :: (lexOf n ys).1, (lexOf n ys).2.1, (lexOf n ys).2.2) else lexOf n ys := by
  unfold lexOf
  rw [List.find?_cons_of_neg (by simpa using ht)]
  cases ys.find? (fun x => x.f0 == 0) <;> simp
theorem lex_tok {n : Nat} {q : List UInt8} (h : skipL q ≠ []) (hk : (cutL (skipL q)).2 ≠ 0) : lexAt n q =
    if (lexAt n ((skipL q).drop (cutL (skipL q)).1)).2.2 = 0 then (tokQ n (skipL q) :: (lexAt n ((skipL q).drop (cutL (skipL q)).1)).1, (lexAt n ((skipL q).drop (cutL (skipL q)).1)).2.1, (lexAt n ((skipL q).drop (cutL (skipL q)).1)).2.2) else lexAt n ((skipL q).drop (cutL (skipL q)).1) := by
  rw [lexAt, streamQ, dif_neg h, dif_neg hk, lexOf_cons _ _ _ hk]
  rfl
theorem cont_tok {n : Nat} {q : List UInt8} (acc : List S30) (h : skipL q ≠ []) (hk : (cutL (skipL q)).2 ≠ 0) : cont acc (lexAt n q) = cont (acc ++ [tokQ n (skipL q)]) (lexAt n ((skipL q).drop (cutL (skipL q)).1)) := by
  rw [lex_tok h hk]
  unfold cont
  split
  · rename_i h0; simp [h0]
  · rename_i h0; simp [h0]
theorem skipL_blank {c : UInt8} {r : List UInt8} (h : blaB c = true) : skipL (c :: r) = skipL r := by
  rw [skipL.eq_1 (c :: r), skipL.eq_1 r]
  simp only [List.dropWhile_cons, h, if_true]
theorem skipL_ss {l : List UInt8} (h : isSS l = true) : skipL l = skipL (l.dropWhile notLF) := by
  obtain ⟨r, rfl⟩ := isSS_cons h
  have hb : blaB 47 = false := by decide
  have : (47 :: 47 :: r).dropWhile blaB = 47 :: 47 :: r := by simp [hb]
  rw [skipL, dif_pos (by rw [this]; exact h), this]
theorem skipL_id {c : UInt8} {r : List UInt8} (hb : blaB c = false) (h : isSS (c :: r) = false) : skipL (c :: r) = c :: r := by
  have : (c :: r).dropWhile blaB = c :: r := by simp [hb]
  rw [skipL, dif_neg (by rw [this, h]; decide), this]
theorem skipL_nil : skipL [] = [] := by rw [skipL, dif_neg (by decide)]; rfl
theorem lexAt_skip {n : Nat} {q q' : List UInt8} (h : skipL q = skipL q') : lexAt n q = lexAt n q' := by unfold lexAt; rw [h]
theorem isSS_at (s : ByteArray) (p : Nat) (h : p + 1 < s.size) : isSS (s.data.toList.drop p) = (s[p] == 47 && s[p + 1] == 47) := by
  rw [drop_at s p (by omega), drop_at s (p + 1) h]; rfl
theorem isSS_last (s : ByteArray) (p : Nat) (h : p < s.size) (h' : s.size ≤ p + 1) : isSS (s.data.toList.drop p) = false := by
  rw [drop_at s p h, drop_end s (p + 1) h']; rfl
end Go.Proofs.Ytpjoajoacakpgaa.Tok
