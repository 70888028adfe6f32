/- Contracts, walked by hand, of the cut of a text into tokens: the iterator 'tokens', and 'Lex' that ranges over it. For every text of at most 65,536 bytes; a longer one is refused. -/
import Derived.RangeFuncNested
import Derived.RangeFuncBound
import Derived.RangeFuncCalls
import Derived.RangeFuncLeaves
import Derived.RangeFuncBox
import Derived.Shelf.Abstract
import Derived.Shelf.RegionOpen
import Derived.WalkKit
import Derived.OwnWalkIn
import Derived.TacticsInMore
import Derived.LoopNIn
import Derived.LoopIn
import Derived.Maps.AppendAt
import Derived.Outline
import Derived.Test.YtpjoajoacakpgaaGivenC
import Derived.Test.YtpjoajoacakpgaaQx0
set_option linter.unusedVariables false
set_option linter.unusedSimpArgs false
namespace Go.Proofs.Ytpjoajoacakpgaa.Given
open Go.RowKit Go.Shelf Go.Proofs.YtpjoajoacakpgaaW.PrintWords Go.Proofs.YtpjoajoacakpgaaW.PrintLast Go.Proofs.YtpjoajoacakpgaaW.PrintMore
open Go.Proofs.Ytpjoajoacakpgaa.Q (S30 k30)
attribute [local go_sem] Oper.semAt_some
theorem skipL_le (l : List UInt8) : (skipL l).length ≤ l.length := by
  fun_induction skipL l with
  | case1 l h ih =>
    have h1 := ss_shorter h
    have h2 := (List.dropWhile_suffix (l := l) blaB).length_le
    omega
  | case2 l h => exact (List.dropWhile_suffix (l := l) blaB).length_le
theorem skipL_suffix (l : List UInt8) : skipL l <:+ l := by
  fun_induction skipL l with
  | case1 l h ih => exact ih.trans ((List.dropWhile_suffix notLF).trans (List.dropWhile_suffix blaB))
  | case2 l h => exact List.dropWhile_suffix blaB
theorem skip_drop (s : ByteArray) (k : Nat) : s.data.toList.drop (skipTo s k) = skipL (s.data.toList.drop k) := by
  have h := List.suffix_iff_eq_drop.1 ((skipL_suffix (s.data.toList.drop k)).trans (List.drop_suffix k s.data.toList))
  rw [data_length] at h
  exact h.symm
theorem takeWhile_pos {p : UInt8 → Bool} {c : UInt8} {r : List UInt8} (h : p c = true) : 1 ≤ ((c :: r).takeWhile p).length := by simp [h]
theorem cutL_pos (q : List UInt8) (h : (cutL q).2 ≠ 0) : 1 ≤ (cutL q).1 := by
  cases q with
  | nil => simp [cutL] at h
  | cons c r =>
    simp only [cutL] at h ⊢
    by_cases h1 : letB c = true
    · rw [if_pos h1]; exact takeWhile_pos (by simp [worB, h1])
    · rw [if_neg h1] at h ⊢
      by_cases h2 : digB c = true
      · rw [if_pos h2] at h ⊢
        split
        · exact takeWhile_pos h2
        · rename_i h3; rw [if_neg h3] at h; simp at h
      · rw [if_neg h2] at h ⊢
        split
        · omega
        · split
          · omega
          · rename_i h3 h4; rw [if_neg h3, if_neg h4] at h; simp at h
theorem cutL_le (q : List UInt8) : (cutL q).1 ≤ q.length := by
  cases q with
  | nil => simp [cutL]
  | cons c r =>
    simp only [cutL]
    have h1 := (List.takeWhile_prefix (l := c :: r) worB).length_le
    have h2 := (List.takeWhile_prefix (l := c :: r) digB).length_le
    split
    · exact h1
    · split
      · split
        · exact h2
        · simp
      · split
        · rename_i h; exact h.1
        · split <;> simp
/-- The token that stands first in q; n: how long the text is. -/
def tokQ (n : Nat) (q : List UInt8) : S30 := ⟨(cutL q).2, ⟨(q.take (cutL q).1).toArray⟩, (n : Int) - q.length⟩
/-- The tokens from q on, where one begins; one of no kind ends them. -/
def streamQ (n : Nat) (q : List UInt8) : List S30 :=
  if h : q = [] then [] else if hk : (cutL q).2 = 0 then [tokQ n q] else tokQ n q :: streamQ n (skipL (q.drop (cutL q).1))
termination_by q.length
decreasing_by
  have h1 := skipL_le (q.drop (cutL q).1)
  have h2 := cutL_pos q hk
  have h3 : q.length ≠ 0 := fun e => h (List.length_eq_zero_iff.1 e)
  rw [List.length_drop] at h1
  omega
theorem bytes_ext {a b : ByteArray} (h : a.data.toList = b.data.toList) : a = b := by
  cases a; cases b; congr 1; exact Array.toList_inj.1 h
def enc30 (x : S30) : Array Value := #[.agg #[.int .i64 x.f0, .string x.f1, .int .i64 x.f2]]
/-- Only this block is asked for between two rounds. -/
def KeepB (B : Nat) (W W' : World) : Prop := W'.heap[B]? = W.heap[B]?
theorem KeepB.cell {B : Nat} {W W' : World} (h : KeepB B W W') {v : Value} (hc : W.cell? ⟨B, 0, none⟩ = some v) : W'.cell? ⟨B, 0, none⟩ = some v := by
  rw [← hc]; simp only [World.cell?, show W'.heap[B]? = W.heap[B]? from h]
theorem tokens_in (F : Fence) (n : Nat) (h22 : F.fn 22) (hro : F.round = none) (s : ByteArray) (w : World) :
    CallsIn F n Try.prog 22 #[.string s] w fun e w' => e = .returned (.func (.func 32) #[] #[.pointer (some ⟨w.heap.size, 0, none⟩)]) ∧ w' = w.alloc (.cells #[.string s] 9) := by
  refine callsIn_of_wp Try.func22 rfl h22 ?_ hro
  simp only [Try.ntmps22, List.size_toArray, List.length_cons, List.length_nil, Nat.reduceAdd, Nat.reduceSub, Array.replicate_succ, Array.replicate_zero, List.push_toArray, List.append_toArray, List.nil_append, List.cons_append]
  gi_wp2
  go_ret
  exact ⟨rfl, rfl⟩
theorem tok_text (s : ByteArray) (k : Nat) (hk : k ≤ s.size) : s.extract k (k + (cutL (s.data.toList.drop k)).1) = (tokQ s.size (s.data.toList.drop k)).f1 := by
  apply bytes_ext
  rw [sub_take, tokQ]
theorem tok_at (s : ByteArray) (k : Nat) (hk : k ≤ s.size) : (tokQ s.size (s.data.toList.drop k)).f2 = k := by
  simp only [tokQ, List.length_drop, data_length]
  omega
set_option maxRecDepth 100000 in
set_option maxHeartbeats 4000000 in
/-- The iterator's body, at every loop body that keeps the block in which the text stands. -/
theorem tokens1_in (n : Nat) (hn : 1 ≤ n) (s : ByteArray) (hs : s.size ≤ 140737488351232) (l Bn : Nat) (J Jx : List S30 → World → Prop)
    (hY : ∀ pre x W, J pre W → pre.length < (streamQ s.size (skipL s.data.toList)).length → YieldAt Fence.wide (n - 1) Try.prog l (enc30 x) W fun e W' =>
      (e = .returned (.bool true) ∧ J (pre ++ [x]) W' ∧ KeepB Bn W W') ∨ (e = .returned (.bool false) ∧ Jx (pre ++ [x]) W'))
    (W : World) (hBn : W.cell? ⟨Bn, 0, none⟩ = some (.string s)) (h0 : J [] W) :
    CallsIn Fence.wide n Try.prog 32 #[.func (.yield l) #[] #[], .pointer (some ⟨Bn, 0, none⟩)] W fun e W' => (∃ v, e = .returned v) ∧
      ((∃ ys, ys = streamQ s.size (skipL s.data.toList) ∧ J ys W') ∨ (∃ pre, pre <+: streamQ s.size (skipL s.data.toList) ∧ Jx pre W')) := by
  have hS0 := fun w => callsIn_wide (n := n - 1) |>.2 (skip_any s hs 0 (by omega) w)
  have hk0 : skipTo s 0 ≤ s.size := by unfold skipTo; omega
  have hd0 : s.data.toList.drop (skipTo s 0) = skipL s.data.toList := by rw [skip_drop, List.drop_zero]
  refine callsIn_of_wp Try.func32 rfl trivial ?_ rfl
  simp only [Try.ntmps32, List.size_toArray, List.length_cons, List.length_nil, Nat.reduceAdd, Nat.reduceSub, Array.replicate_succ, Array.replicate_zero, List.push_toArray, List.append_toArray, List.nil_append, List.cons_append]
  gi_wp2_with (refine ⟨trivial, ?_⟩; gi_at_call 33; refine (hS0 _).mono ?_; rintro e w' ⟨rfl, rfl⟩)
  gi_loopw [3] (fun p wr => ∃ (pre rest : List S30) (k : Nat), p = .int .i64 k ∧ k ≤ s.size ∧ Aside0 (streamQ s.size (skipL s.data.toList) = pre ++ rest) ∧ Aside0 (rest = streamQ s.size (s.data.toList.drop k)) ∧ J pre wr ∧ wr.cell? ⟨Bn, 0, none⟩ = some (.string s)) (fun p wr => s.size - (intOf p).toNat)
  case atStart => exact ⟨[], _, skipTo s 0, rfl, hk0, ⟨rfl⟩, ⟨by rw [hd0]⟩, h0, hBn⟩
  case round =>
    clear hS0 hd0 hk0 hBn h0
    obtain ⟨pre, rest, k, rfl, hk, hx, hr, hJ, hc⟩ := hrel
    by_cases hlt : k < s.size
    · have hq : s.data.toList.drop k ≠ [] := by rw [drop_at s k hlt]; simp
      have hC := fun w => callsIn_wide (n := n - 1) |>.2 (cut_any s hs k hlt w)
      have hle : k + (cutL (s.data.toList.drop k)).1 ≤ s.size := by
        have := cutL_le (s.data.toList.drop k)
        rw [List.length_drop, data_length] at this; omega
      have hpos := cutL_pos (s.data.toList.drop k)
      have hun : streamQ s.size (s.data.toList.drop k) = if (cutL (s.data.toList.drop k)).2 = 0 then [tokQ s.size (s.data.toList.drop k)] else tokQ s.size (s.data.toList.drop k) :: streamQ s.size (skipL ((s.data.toList.drop k).drop (cutL (s.data.toList.drop k)).1)) := by
        rw [streamQ, dif_neg hq]; split <;> rfl
      have htl : pre.length < (streamQ s.size (skipL s.data.toList)).length := by
        rw [hx.out, hr.out, hun, List.length_append]; split <;> simp
      obtain ⟨fn, tmps, assign, body, hy, hR⟩ := hY pre (tokQ s.size (s.data.toList.drop k)) wr hJ htl
      have e1 := tok_text s k hk
      have e2 := tok_at s k hk
      have e3 : (tokQ s.size (s.data.toList.drop k)).f0 = (cutL (s.data.toList.drop k)).2 := rfl
      unfold enc30 at hy
      rw [← e1, e2, e3] at hy
      unfold CutPost at hC
      have hSk := fun w => callsIn_wide (n := n - 1) |>.2 (skip_any s hs (k + (cutL (s.data.toList.drop k)).1) hle w)
      have hdk : s.data.toList.drop (skipTo s (k + (cutL (s.data.toList.drop k)).1)) = skipL ((s.data.toList.drop k).drop (cutL (s.data.toList.drop k)).1) := by
        rw [skip_drop, List.drop_drop]
      have hks : skipTo s (k + (cutL (s.data.toList.drop k)).1) ≤ s.size := by unfold skipTo; omega
      have hkg : (cutL (s.data.toList.drop k)).2 ≠ 0 → k < skipTo s (k + (cutL (s.data.toList.drop k)).1) := by
        intro h0
        have h1 := hpos h0
        have h2 := skipL_le (s.data.toList.drop (k + (cutL (s.data.toList.drop k)).1))
        rw [List.length_drop, data_length] at h2
        unfold skipTo; omega
      generalize ht : tokQ s.size (s.data.toList.drop k) = t at *
      generalize hcut : cutL (s.data.toList.drop k) = ck at *
      obtain ⟨len, kind⟩ := ck
      dsimp only at *
      clear e1 e2 e3 hpos hq htl hcut ht hJ
      replace hun := Aside0.mk hun
      replace hdk := Aside0.mk hdk
      replace hkg := Aside0.mk hkg
      generalize skipTo s (k + len) = k2 at *
      gi_wp2_with (refine ⟨trivial, ?_⟩; gi_at_call 34; refine (hC _).mono ?_; rintro e w' ⟨rfl, rfl⟩)
      refine hR.mono ?_
      rintro e W3 (⟨rfl, hJ3, hk3⟩ | ⟨rfl, hJx3⟩)
      · have hc3 := hk3.cell hc
        by_cases hz : kind = 0
        · have hz0 : ((kind : Int) == 0) = true := by simpa using hz
          have hX : streamQ s.size (skipL s.data.toList) = pre ++ [t] := by rw [hx.out, hr.out, hun.out, if_pos hz]
          replace hX := Aside0.mk hX
          clear hz
          gi_wp2
          refine bodyPost_ret (results_none rfl _ _ _) rfl ?_
          exact ⟨⟨_, rfl⟩, .inl ⟨pre ++ [t], hX.out.symm, hJ3⟩⟩
        · have hz0 : ((kind : Int) == 0) = false := by simpa using hz
          have hX : streamQ s.size (skipL s.data.toList) = (pre ++ [t]) ++ streamQ s.size (s.data.toList.drop k2) := by rw [hx.out, hr.out, hun.out, if_neg hz, hdk.out]; simp
          replace hX := Aside0.mk hX
          have hg := hkg.out hz
          clear hz
          gi_wp2_with (refine ⟨trivial, ?_⟩; gi_at_call 33; refine (hSk _).mono ?_; rintro e w' ⟨rfl, rfl⟩)
          go_roundw
          case rel => exact ⟨pre ++ [t], _, k2, rfl, hks, hX, ⟨rfl⟩, hJ3, hc3⟩
          case measure => simp [intOf]; omega
      · have hX : pre ++ [t] <+: streamQ s.size (skipL s.data.toList) := by
          rw [hx.out, hr.out, hun.out]
          split
          · exact List.prefix_rfl
          · exact ⟨streamQ s.size (skipL (List.drop len (List.drop k s.data.toList))), by rw [List.append_assoc]; rfl⟩
        replace hX := Aside0.mk hX
        gi_wp2
        refine bodyPost_ret (results_none rfl _ _ _) rfl ?_
        exact ⟨⟨_, rfl⟩, .inr ⟨pre ++ [t], hX.out, hJx3⟩⟩
    · have hX : streamQ s.size (skipL s.data.toList) = pre := by
        rw [hx.out, hr.out, drop_end s k (by omega), streamQ, dif_pos rfl, List.append_nil]
      replace hX := Aside0.mk hX
      gi_wp2
      go_end0
      exact ⟨⟨_, rfl⟩, .inl ⟨pre, hX.out.symm, hJ⟩⟩
theorem tokens_stops (n : Nat) (hn : 1 ≤ n) (s : ByteArray) (hs : s.size ≤ 140737488351232) (Bn : Nat) (w : World) (hBn : Bn < w.heap.size) (hc : w.cell? ⟨Bn, 0, none⟩ = some (.string s)) :
    SeqStopsK Fence.wide n Try.prog 32 #[.pointer (some ⟨Bn, 0, none⟩)] enc30 (KeepB Bn) (fun ys => ys = streamQ s.size (skipL s.data.toList)) (fun pre => pre <+: streamQ s.size (skipL s.data.toList)) (streamQ s.size (skipL s.data.toList)).length w := fun l J Jx W hW _ _ hY h0 =>
  tokens1_in n hn s hs l Bn J Jx hY W ((hW.cell (p := ⟨Bn, 0, none⟩) hBn).trans hc) h0
theorem info30 : (Try.prog.info? 30).map (fun i => (i.zero, i.size, i.bytes)) = some (some (.agg #[(.int .i64 0), (.string ⟨#[]⟩), (.int .i64 0)]), 3, 32) := by kernel_rfl
def cells30 (x : S30) : List Value := [.int .i64 x.f0, .string x.f1, .int .i64 x.f2]
/-- Of a stream: the tokens; where it goes wrong; the error. -/
def lexOf (n : Nat) (ys : List S30) : List S30 × Int × Int :=
  match ys.find? (fun x => x.f0 == 0) with
  | some x => ([], x.f2, 2)
  | none => (ys, n, 0)
/-- What Lex answers. -/
def lexL (s : ByteArray) : List S30 × Int × Int := if s.size > 65536 then ([], 65536, 5) else lexOf s.size (streamQ s.size (skipL s.data.toList))
theorem streamQ_len (n : Nat) (q : List UInt8) : (streamQ n q).length ≤ q.length := by
  fun_induction streamQ n q with
  | case1 => simp
  | case2 q h hk =>
    have h3 : q.length ≠ 0 := fun e => h (List.length_eq_zero_iff.1 e)
    simp; omega
  | case3 q h hk ih =>
    have h1 := skipL_le (q.drop (cutL q).1)
    have h2 := cutL_pos q hk
    have h3 : q.length ≠ 0 := fun e => h (List.length_eq_zero_iff.1 e)
    rw [List.length_drop] at h1
    simp; omega
theorem block_own {β : Type} (Bx : Nat) (o : β → Obj) (ho : ∀ s, (o s).isCells = true) : Own (fun s W => W.heap[Bx]? = some (o s)) := by
  intro s X Y row hs hg hrow
  have hlt : Bx < X.heap.size := (Array.getElem?_eq_some_iff.1 hs).1
  refine (hg.block Bx hlt ?_).trans hs
  intro e
  obtain ⟨o', h1, h2⟩ := hrow Bx e.symm
  rw [hs] at h1
  cases h1
  rw [ho s] at h2
  cases h2
theorem lexOf_ok (n : Nat) {ys : List S30} (h : ∀ x ∈ ys, x.f0 ≠ 0) : lexOf n ys = (ys, (n : Int), 0) := by
  have : ys.find? (fun x => x.f0 == 0) = none := by
    rw [List.find?_eq_none]; intro x hx; simpa using h x hx
  unfold lexOf; rw [this]
theorem lexOf_bad (n : Nat) {init ys : List S30} {x : S30} (hx : x.f0 = 0) (h : ∀ y ∈ init, y.f0 ≠ 0) (hp : init ++ [x] <+: ys) : lexOf n ys = ([], x.f2, 2) := by
  obtain ⟨t, rfl⟩ := hp
  have h1 : init.find? (fun x => x.f0 == 0) = none := by
    rw [List.find?_eq_none]; intro y hy; simpa using h y hy
  have : (init ++ [x] ++ t).find? (fun x => x.f0 == 0) = some x := by
    rw [List.append_assoc, List.find?_append, h1]; simp [hx]
  unfold lexOf; rw [this]
def lexI (B : Nat) (w : World) (s : ByteArray) (pre : List S30) (W : World) : Prop :=
  ((((Boxed W B 23 (.slice none 0 0) ∧ Boxed W (B + 1) 3 (.int .i64 0)) ∧ Boxed W (B + 1 + 1) 24 (.int .i64 0)) ∧ Boxed W (B + 1 + 1 + 1 + 1) 9 (.string s)) ∧
    (∃ v, Boxed W (B + 1 + 1 + 1) 23 v ∧ W.ownsRow B 30 3 v pre.length (pre.flatMap cells30) ∧ ∀ x ∈ pre, x.f0 ≠ 0)) ∧ Below B w W
def lexX (B : Nat) (w : World) (c : Code) (pre : List S30) (W : World) : Prop :=
  (((∃ init x, (pre = init ++ [x] ∧ x.f0 = 0 ∧ (∀ y ∈ init, y.f0 ≠ 0) ∧ c = .ret) ∧ Boxed W (B + 1) 3 (.int .i64 x.f2)) ∧ Boxed W B 23 (.slice none 0 0)) ∧ Boxed W (B + 1 + 1) 24 (.int .i64 2)) ∧ Below B w W
theorem lexI_own (B C : Nat) (w : World) (s : ByteArray) (h1 : B ≤ w.heap.size) (h2 : B ≤ C) : OwnFrom C (lexI B w s) :=
  OwnFrom.and (OwnFrom.and (OwnFrom.and (OwnFrom.and (OwnFrom.and (Own.from (boxed_own _ _ _) _) (Own.from (boxed_own _ _ _) _)) (Own.from (boxed_own _ _ _) _)) (Own.from (boxed_own _ _ _) _))
    (Own.from (holdsRow_own B (B + 1 + 1 + 1) 23 30 3 (fun pre : List S30 => pre.length) (fun pre => pre.flatMap cells30) (fun pre v => ∀ x ∈ pre, x.f0 ≠ 0)) _)) (ownFrom_below h1 h2)
theorem lexX_own (B C : Nat) (w : World) (c : Code) (h1 : B ≤ w.heap.size) (h2 : B ≤ C) : OwnFrom C (lexX B w c) :=
  OwnFrom.and (OwnFrom.and (OwnFrom.and (fun s W W' row hs hg hr => by
    obtain ⟨init, x, hp, hb⟩ := hs
    exact ⟨init, x, hp, boxed_own _ _ (fun (_ : Unit) => Value.int .i64 x.f2) () W W' row hb hg (fun r e => (hr r e).2)⟩) (Own.from (boxed_own _ _ _) _)) (Own.from (boxed_own _ _ _) _)) (ownFrom_below h1 h2)
def lexA (B : Nat) (s : ByteArray) (x : S30) (a' : Act) (W : World) : Prop :=
  ∃ Bx, B + 1 + 1 + 1 + 1 < Bx ∧ W.heap[Bx]? = some (.cells #[.int .i64 x.f0, .string x.f1, .int .i64 x.f2] 30 (0, 0)) ∧ a' = { tmps := #[.string s, undef, .pointer (some ⟨B, 0, none⟩), .pointer (some ⟨B + 1, 0, none⟩), .pointer (some ⟨B + 1 + 1, 0, none⟩), .pointer (some ⟨B + 1 + 1 + 1, 0, none⟩), .pointer (some ⟨Bx, 0, none⟩), .string s, .int .i64 s.size, .bool false, .string s, .func (.func 32) #[] #[.pointer (some ⟨B + 1 + 1 + 1 + 1, 0, none⟩)], .agg #[.int .i64 x.f0, .string x.f1, .int .i64 x.f2], undef, undef, undef, undef, undef, undef, undef, undef, undef, undef, undef, undef], defers := [] }
theorem lexA_own (B C : Nat) (s : ByteArray) (x : S30) (a' : Act) : OwnFrom C (fun (_ : Unit) W => lexA B s x a' W) := fun u W W' row hs hg hr => by
  obtain ⟨Bx, h1, h2, h3⟩ := hs
  exact ⟨Bx, h1, block_own Bx (fun (_ : Unit) => Obj.cells #[.int .i64 x.f0, .string x.f1, .int .i64 x.f2] 30 (0, 0)) (fun _ => rfl) () W W' row h2 hg (fun r e => (hr r e).2), h3⟩
set_option maxRecDepth 100000 in
set_option maxHeartbeats 4000000 in
theorem lex_in (s : ByteArray) (hs : s.size ≤ 65536) (w : World) :
    CallsIn Fence.wide 5 Try.prog 10 #[.string s] w fun e W' => ∃ v, e = .returned (.tuple #[v, .int .i64 (lexOf s.size (streamQ s.size (skipL s.data.toList))).2.1, .int .i64 (lexOf s.size (streamQ s.size (skipL s.data.toList))).2.2]) ∧
      W'.ownsRow w.heap.size 30 3 v (lexOf s.size (streamQ s.size (skipL s.data.toList))).1.length ((lexOf s.size (streamQ s.size (skipL s.data.toList))).1.flatMap cells30) ∧ Below w.heap.size w W' := by
  obtain ⟨i0, hi, hz0, hz1, hz2⟩ := info_parts info30
  have hu30 := Try.underlying30
  have hd9 : decide ((65536 : Int) < (s.size : Int)) = false := by simp; omega
  refine callsIn_of_wp_marks Try.func10 rfl trivial ?_ rfl
  simp only [Try.ntmps10, List.size_toArray, List.length_cons, List.length_nil, Nat.reduceAdd, Nat.reduceSub, Array.replicate_succ, Array.replicate_zero, List.push_toArray, List.append_toArray, List.nil_append, List.cons_append]
  gi_wp2_with (refine ⟨trivial, ?_⟩; gi_at_call 22; refine (tokens_in Fence.wide _ trivial rfl _ _).mono ?_; rintro e w' ⟨rfl, rfl⟩)
  clear hd9
  have b0 := ((((Boxed.new w 23 (.slice none 0 0)).alloc (.cells #[.int .i64 0] 3)).alloc (.cells #[.int .i64 0] 24)).alloc (.cells #[.slice none 0 0] 23)).alloc (.cells #[.string s] 9)
  have b1 := (((Boxed.new (w.alloc (.cells #[.slice none 0 0] 23)) 3 (.int .i64 0)).alloc (.cells #[.int .i64 0] 24)).alloc (.cells #[.slice none 0 0] 23)).alloc (.cells #[.string s] 9)
  have b2 := ((Boxed.new ((w.alloc (.cells #[.slice none 0 0] 23)).alloc (.cells #[.int .i64 0] 3)) 24 (.int .i64 0)).alloc (.cells #[.slice none 0 0] 23)).alloc (.cells #[.string s] 9)
  have b3 := (Boxed.new (((w.alloc (.cells #[.slice none 0 0] 23)).alloc (.cells #[.int .i64 0] 3)).alloc (.cells #[.int .i64 0] 24)) 23 (.slice none 0 0)).alloc (.cells #[.string s] 9)
  have b4 := Boxed.new ((((w.alloc (.cells #[.slice none 0 0] 23)).alloc (.cells #[.int .i64 0] 3)).alloc (.cells #[.int .i64 0] 24)).alloc (.cells #[.slice none 0 0] 23)) 9 (.string s)
  simp only [World.size_alloc] at b1 b2 b3 b4
  have hB0 : Below w.heap.size w (((((w.alloc (.cells #[.slice none 0 0] 23)).alloc (.cells #[.int .i64 0] 3)).alloc (.cells #[.int .i64 0] 24)).alloc (.cells #[.slice none 0 0] 23)).alloc (.cells #[.string s] 9)) :=
    (((((Below.refl _ w).alloc (Nat.le_refl _) _).alloc (by simp) _).alloc (by simp; omega) _).alloc (by simp; omega) _).alloc (by simp; omega) _
  have hsz : (((((w.alloc (.cells #[.slice none 0 0] 23)).alloc (.cells #[.int .i64 0] 3)).alloc (.cells #[.int .i64 0] 24)).alloc (.cells #[.slice none 0 0] 23)).alloc (.cells #[.string s] 9)).heap.size = w.heap.size + 5 := by simp
  obtain ⟨W0, hW0⟩ : ∃ W0, ((((w.alloc (.cells #[.slice none 0 0] 23)).alloc (.cells #[.int .i64 0] 3)).alloc (.cells #[.int .i64 0] 24)).alloc (.cells #[.slice none 0 0] 23)).alloc (.cells #[.string s] 9) = W0 := ⟨_, rfl⟩
  rw [hW0] at b0 b1 b2 b3 b4 hB0 hsz ⊢
  clear hW0
  refine wpIn_rangeFunc_ownH rfl (by decide) (gf := 32) (lb := #[.pointer (some ⟨w.heap.size + 1 + 1 + 1 + 1, 0, none⟩)]) rfl trivial (enters_of Try.func32 (by kernel_rfl) rfl)
    (tokens_stops (5 - 1) (by decide) s (by omega) (w.heap.size + 1 + 1 + 1 + 1) W0 (by omega) b4.cell) (fun {A B C} h1 h2 => Eq.trans h2 h1) (fun W l o o' hl _ _ _ => by
      show (W.putObj l o').heap[_]? = _
      simp only [World.putObj]
      rw [Array.getElem?_setIfInBounds, if_neg (by omega)]) (Below.refl _ _) (fun _ => rfl)
    (lexI w.heap.size w s) (lexX w.heap.size w) (lexI_own _ _ _ _ (Nat.le_refl _) (by omega)) (fun c => lexX_own _ _ _ _ (Nat.le_refl _) (by omega))
    ⟨⟨⟨⟨⟨b0, b1⟩, b2⟩, b4⟩, ⟨_, b3, World.ownsRow_nil _ _ _ _, by simp⟩⟩, hB0⟩
    (lexA w.heap.size s) (fun x a' => lexA_own _ _ _ _ _) ?assign ?body ?done ?stop
  case assign =>
    intro l pre x W K hI hK
    unfold enc30
    gi_wp2
    have hb := hI.1.1.2
    exact hK _ _ ((KeepsOthers.alloc _ _).from _) ((hb.alloc _).trans hb.symm) ((lexI_own w.heap.size W0.heap.size w s (Nat.le_refl _) (by omega)).alloc _ hI) ⟨W.heap.size, hb.lt, World.alloc_heap_new W _, rfl⟩
  case body =>
    rintro l pre x a' W hl _ ⟨⟨⟨⟨⟨c0, c1⟩, c2⟩, c4⟩, ⟨v, c3, hrow, hnz⟩⟩, hB⟩ ⟨Bx, hBx, hX, rfl⟩ hlen
    have hslen := streamQ_len s.size (skipL s.data.toList)
    have hsk := skipL_le s.data.toList
    rw [data_length] at hsk
    have hpl : pre.length + 1 ≤ 65536 := by omega
    clear hslen hsk hlen
    have x0 : W.cell? ⟨Bx, 0, none⟩ = some (.int .i64 x.f0) := by simp [World.cell?, hX]
    have x1 : W.cell? ⟨Bx, 1, none⟩ = some (.string x.f1) := by simp [World.cell?, hX]
    have x2 : W.cell? ⟨Bx, 2, none⟩ = some (.int .i64 x.f2) := by simp [World.cell?, hX]
    have hx' := Aside0.mk hX
    clear hX
    by_cases hz : x.f0 = 0
    · have hq0 : (x.f0 == 0) = true := by simpa using hz
      clear hz
      have d0 := c0.cell
      have d1 := c1.cell
      have d2 := c2.cell
      have e0 := c0.frozen
      have e1 := c1.frozen
      have e2 := c2.frozen
      gi_wp2
      have g0 := ((c0.set (.slice none 0 0)).other (B' := w.heap.size + 1) (by omega) (.int .i64 x.f2)).other (B' := w.heap.size + 1 + 1) (by omega) (.int .i64 2)
      have g1 := ((c1.other (B' := w.heap.size) (by omega) (.slice none 0 0)).set (.int .i64 x.f2)).other (B' := w.heap.size + 1 + 1) (by omega) (.int .i64 2)
      have g2 := ((c2.other (B' := w.heap.size) (by omega) (.slice none 0 0)).other (B' := w.heap.size + 1) (by omega) (.int .i64 x.f2)).set (.int .i64 2)
      have gB := (((hB.setCell (p := ⟨w.heap.size, 0, none⟩) (Nat.le_refl _) (.slice none 0 0)).setCell (p := ⟨w.heap.size + 1, 0, none⟩) (by simp) (.int .i64 x.f2)).setCell (p := ⟨w.heap.size + 1 + 1, 0, none⟩) (by simp; omega) (.int .i64 2)).drew
      gi_region
      all_goals gi_wp2
      all_goals exact ⟨((((KeepsOthers.setCell _ _ _).trans (KeepsOthers.setCell _ _ _)).trans (KeepsOthers.setCell _ _ _)).trans (KeepsOthers.drew _)).from _, ⟨⟨⟨pre, x, ⟨rfl, by simpa using hq0, hnz, rfl⟩, g1⟩, g0⟩, g2⟩, gB⟩
    · have hq0 : (x.f0 == 0) = false := by simpa using hz
      have hz := Aside0.mk hz
      have d3 := c3.cell
      gi_wp2_with (gi_at_builtin; refine wpListIn_append_own _ rfl _ _ 23 rfl w.heap.size 30 i0 (.agg #[(.int .i64 0), (.string ⟨#[]⟩), (.int .i64 0)]) 3 32 Try.underlying23 hi hz0 hz1 hz2 rfl (by decide) _ _ _ rfl (hrow.alloc _) ⟨W.heap.size, 0, none⟩ 1 1 (cells30 x) rfl rfl (by simpa [cells30] using World.news_of_block (cs := #[.int .i64 x.f0, .string x.f1, .int .i64 x.f2]) (t := 30) (fr := (0, 0)) (heap_alloc_new W (.cells #[.int .i64 x.f0, .string x.f1, .int .i64 x.f2] 30))) (by simp [cells30, Value.oneCell']) (by unfold maxLen; omega) (by omega) (by have := hB.size; simp; omega) ?_; intro v' w1 hown' hgrow _; obtain ⟨g', cap', rfl⟩ := ownsRow_succ hown'; obtain ⟨hv1, hv2, hr2, hk2, hb2⟩ := c3.appended (by decide) hrow hB.size (by omega) hown' hgrow; have hc1 := hv1.cell; have hf1 := hv1.frozen)
      have c0' := ((c0.alloc (.cells #[.int .i64 x.f0, .string x.f1, .int .i64 x.f2] 30)).kept hgrow (c0.not_row (by decide) hrow)).other (B' := w.heap.size + 1 + 1 + 1) (by omega) (.slice (some ⟨g', 0, none⟩) (pre.length + 1) cap')
      have c1' := ((c1.alloc (.cells #[.int .i64 x.f0, .string x.f1, .int .i64 x.f2] 30)).kept hgrow (c1.not_row (by decide) hrow)).other (B' := w.heap.size + 1 + 1 + 1) (by omega) (.slice (some ⟨g', 0, none⟩) (pre.length + 1) cap')
      have c2' := ((c2.alloc (.cells #[.int .i64 x.f0, .string x.f1, .int .i64 x.f2] 30)).kept hgrow (c2.not_row (by decide) hrow)).other (B' := w.heap.size + 1 + 1 + 1) (by omega) (.slice (some ⟨g', 0, none⟩) (pre.length + 1) cap')
      have c4' := ((c4.alloc (.cells #[.int .i64 x.f0, .string x.f1, .int .i64 x.f2] 30)).kept hgrow (c4.not_row (by decide) hrow)).other (B' := w.heap.size + 1 + 1 + 1) (by omega) (.slice (some ⟨g', 0, none⟩) (pre.length + 1) cap')
      refine ⟨hk2.from _, c4'.trans c4.symm, ⟨⟨⟨⟨c0', c1'⟩, c2'⟩, c4'⟩, ⟨_, hv2, ?_, ?_⟩⟩, hB.trans hb2⟩
      · rw [List.length_append, List.flatMap_append]
        simpa using hr2
      · intro y hy
        rcases List.mem_append.1 hy with h | h
        · exact hnz y h
        · rw [List.mem_singleton] at h
          rw [h]; exact hz.out
  case done =>
    rintro D ys W hD rfl ⟨⟨⟨⟨⟨c0, c1⟩, c2⟩, c4⟩, ⟨v, c3, hrow, hnz⟩⟩, hB⟩ hK
    obtain ⟨vA, vn, vc, rfl⟩ : ∃ A n c, v = .slice A n c := by
      rcases hrow.2 with ⟨rfl, _⟩ | ⟨g, cap, cur, rfl, _⟩
      · exact ⟨_, _, _, rfl⟩
      · exact ⟨_, _, _, rfl⟩
    have d3 := c3.cell
    have d0 := c0.cell
    have d1 := c1.cell
    have d2 := c2.cell
    have e0 := c0.frozen
    have e1 := c1.frozen
    have e2 := c2.frozen
    have hL := Aside0.mk (lexOf_ok s.size hnz)
    gi_wp2
    have g0 := ((c0.set (.slice vA vn vc)).other (B' := w.heap.size + 1) (by omega) (.int .i64 s.size)).other (B' := w.heap.size + 1 + 1) (by omega) (.int .i64 0)
    have g1 := ((c1.other (B' := w.heap.size) (by omega) (.slice vA vn vc)).set (.int .i64 s.size)).other (B' := w.heap.size + 1 + 1) (by omega) (.int .i64 0)
    have g2 := ((c2.other (B' := w.heap.size) (by omega) (.slice vA vn vc)).other (B' := w.heap.size + 1) (by omega) (.int .i64 s.size)).set (.int .i64 0)
    have gB := ((hB.setCell (p := ⟨w.heap.size, 0, none⟩) (Nat.le_refl _) (.slice vA vn vc)).setCell (p := ⟨w.heap.size + 1, 0, none⟩) (by simp) (.int .i64 s.size)).setCell (p := ⟨w.heap.size + 1 + 1, 0, none⟩) (by simp; omega) (.int .i64 0)
    have r1 := hrow.kept (grownBy_setCell' W w.heap.size (.slice vA vn vc)) (.inr (c0.not_row (by decide) hrow).symm)
    have r2 := r1.kept (grownBy_setCell' _ (w.heap.size + 1) (.int .i64 s.size)) (.inr ((c1.other (B' := w.heap.size) (by omega) (.slice vA vn vc)).not_row (by decide) r1).symm)
    have r3 := r2.kept (grownBy_setCell' _ (w.heap.size + 1 + 1) (.int .i64 0)) (.inr (((c2.other (B' := w.heap.size) (by omega) (.slice vA vn vc)).other (B' := w.heap.size + 1) (by omega) (.int .i64 s.size)).not_row (by decide) r2).symm)
    have hK' := (((KeepsOthers.setCell W ⟨w.heap.size, 0, none⟩ (.slice vA vn vc)).trans (KeepsOthers.setCell _ ⟨w.heap.size + 1, 0, none⟩ (.int .i64 s.size))).trans (KeepsOthers.setCell _ ⟨w.heap.size + 1 + 1, 0, none⟩ (.int .i64 0))).same D _ hK rfl
    refine ⟨by simp, .inl ⟨_, _, rfl, run_takeDeferred hK', ?_⟩⟩
    have q0 := (g0.kept (grownBy_putObj' _ D (.deferred none)) (by simp; omega)).cell
    have q1 := (g1.kept (grownBy_putObj' _ D (.deferred none)) (by simp; omega)).cell
    have q2 := (g2.kept (grownBy_putObj' _ D (.deferred none)) (by simp; omega)).cell
    refine ⟨.tuple #[.slice vA vn vc, .int .i64 s.size, .int .i64 0], ?_, .slice vA vn vc, ?_, ?_, gB.trans (belowK_b (w := w) (Nat.le_refl _) _ D _ _ (by omega) hK' rfl rfl)⟩
    · simp [results, Try.f10, go_sem, q0, q1, q2]
    · rw [hL.out]
    · rw [hL.out]; exact ownsRow_putObj r3 _ hK' rfl
  case stop =>
    rintro D c pre W hD hpre ⟨⟨⟨⟨init, x, ⟨rfl, hx, hnz, rfl⟩, c1⟩, c0⟩, c2⟩, hB⟩ hK
    have hL := Aside0.mk (lexOf_bad s.size hx hnz hpre)
    clear hx hnz hpre
    gi_wp2
    refine ⟨by simp, .inl ⟨_, _, rfl, run_takeDeferred hK, ?_⟩⟩
    have q0 := (c0.kept (grownBy_putObj' _ D (.deferred none)) (by simp; omega)).cell
    have q1 := (c1.kept (grownBy_putObj' _ D (.deferred none)) (by simp; omega)).cell
    have q2 := (c2.kept (grownBy_putObj' _ D (.deferred none)) (by simp; omega)).cell
    refine ⟨.tuple #[.slice none 0 0, .int .i64 x.f2, .int .i64 2], ?_, .slice none 0 0, ?_, ?_, hB.trans (belowK_b (w := w) (Nat.le_refl _) _ D _ _ (by omega) hK rfl rfl)⟩
    · simp [results, Try.f10, go_sem, q0, q1, q2]
    · rw [hL.out]
    · rw [hL.out]; exact World.ownsRow_nil _ _ _ _
set_option maxRecDepth 100000 in
set_option maxHeartbeats 4000000 in
theorem lex_big (s : ByteArray) (hs : 65536 < s.size) (w : World) :
    CallsIn Fence.wide 5 Try.prog 10 #[.string s] w fun e W' => e = .returned (.tuple #[.slice none 0 0, .int .i64 65536, .int .i64 5]) ∧ Below w.heap.size w W' := by
  have hd9 : decide ((65536 : Int) < (s.size : Int)) = true := by simp; omega
  refine callsIn_of_wp_marks Try.func10 rfl trivial ?_ rfl
  simp only [Try.ntmps10, List.size_toArray, List.length_cons, List.length_nil, Nat.reduceAdd, Nat.reduceSub, Array.replicate_succ, Array.replicate_zero, List.push_toArray, List.append_toArray, List.nil_append, List.cons_append]
  gi_wp2
  refine ⟨.tuple #[.slice none 0 0, .int .i64 65536, .int .i64 5], ?_, rfl, (((Below.refl _ w).alloc (Nat.le_refl _) _).alloc (by simp) _).alloc (by simp; omega) _⟩
  simp [results, Try.f10, go_sem]
/-- Lex, at every text. -/
theorem lex_any (s : ByteArray) (w : World) : Calls Try.prog 10 #[.string s] w fun e W' => ∃ v, e = .returned (.tuple #[v, .int .i64 (lexL s).2.1, .int .i64 (lexL s).2.2]) ∧
    W'.ownsRow w.heap.size 30 3 v (lexL s).1.length ((lexL s).1.flatMap cells30) ∧ Below w.heap.size w W' := by
  unfold lexL
  by_cases h : s.size > 65536
  · rw [if_pos h]
    refine (callsIn_wide.1 (lex_big s h w)).mono ?_
    rintro e w' ⟨rfl, hb⟩
    exact ⟨_, rfl, World.ownsRow_nil _ _ _ _, hb⟩
  · rw [if_neg h]
    exact callsIn_wide.1 (lex_in s (by omega) w)
end Go.Proofs.Ytpjoajoacakpgaa.Given
