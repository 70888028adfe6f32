/- Contract, walked by hand, of token.Join: the tokens' texts with a blank between, for every slice of tokens whose joined text has at most 2^47 bytes. -/
import Derived.OwnWalk
import Derived.Below
import Derived.WalkKit
import Derived.Maps.AppendAt
import Derived.RangeFuncBox
import Derived.Laws.OwnMore
import Derived.Outline
import Derived.Test.YtpjoajoacakpgaaShelf
import Derived.Test.YtpjoajoacakpgaaGivenA
import Derived.Test.YtpjoajoacakpgaaQx0
set_option linter.unusedVariables false
set_option linter.unusedSimpArgs false
namespace Go.Proofs.Ytpjoajoacakpgaa.Given
open Go.RowKit Go.Proofs.YtpjoajoacakpgaaW.PrintWords Go.Proofs.YtpjoajoacakpgaaW.PrintLast Go.Proofs.YtpjoajoacakpgaaW.PrintMore
open Go.Proofs.Ytpjoajoacakpgaa.Q (S30 k30 rd_T30 at_T30)
theorem infoS : (Try.prog.info? 9).map (fun i => (i.zero, i.size, i.bytes)) = some (some (.string ⟨#[]⟩), 1, 16) := by kernel_rfl
theorem infoT : (Try.prog.info? 30).map (fun i => (i.zero, i.size, i.bytes)) = some (some (.agg #[(.int .i64 0), (.string ⟨#[]⟩), (.int .i64 0)]), 3, 32) := by kernel_rfl
/-- The texts with blanks between. -/
def joinB (l : List S30) : ByteArray := ⟨(Lib.join (l.map fun x => x.f1.data.toList) [32]).toArray⟩
theorem take_map_snoc {l : List S30} {k : Nat} (h : k < l.length) : (l.take (k + 1)).map (fun x => Value.string x.f1) = (l.take k).map (fun x => Value.string x.f1) ++ [.string (rd_T30 l (k : Int)).f1] := by
  rw [List.take_succ_eq_append_getElem h, List.map_append]
  simp [rd_T30, List.getD, List.getElem?_eq_getElem h]
/-- The call of strings.Join over a row of the call's own. -/
theorem join_call (l : List S30) (v : Value) (B : Nat) (w : World) (hrow : w.ownsRow B 9 1 v l.length (l.map fun x => Value.string x.f1)) (hn : l.length ≤ 140737488355328)
    (hlen : (Lib.join (l.map fun x => x.f1.data.toList) [32]).length ≤ 140737488355328) :
    Calls Try.prog 31 #[v, .string ⟨#[32]⟩] w fun e w' => e = .returned (.string (joinB l)) ∧ Below w.heap.size w w' := by
  have hm : (l.map (·.f1)).map (·.data.toList) = l.map fun x => x.f1.data.toList := by rw [List.map_map]; rfl
  rcases hrow.2 with ⟨rfl, h0⟩ | ⟨g, cap, cur, rfl, h1, h2, h3⟩
  · have : l = [] := by
      cases l with
      | nil => rfl
      | cons a r => simp at h0
    subst this
    refine (Try.strings_Join_none none 0 ⟨#[32]⟩ w).mono ?_
    rintro e w' ⟨rfl, rfl⟩
    exact ⟨rfl, Below.refl _ _⟩
  · have hc : ∀ (j : Nat) x, (l.map (·.f1))[j]? = some x → w.cell? ⟨g, 0 + j, none⟩ = some (.string x) := by
      intro j x hx
      have hj : j < l.length := by
        have := (List.getElem?_eq_some_iff.1 hx).1
        simpa using this
      have := hrow.cellAt j (by omega)
      rw [Nat.zero_add, this]
      rw [List.getElem?_map] at hx ⊢
      rw [Option.map_eq_some_iff] at hx ⊢
      obtain ⟨y, hy, rfl⟩ := hx
      exact ⟨y, hy, rfl⟩
    have hcap : l.length ≤ cap := by
      obtain ⟨hcap, _⟩ := h3
      exact hcap
    have hg : g < w.heap.size := (Array.getElem?_eq_some_iff.1 h2).1
    have hJ := Try.strings_Join g 0 cap (l.map (·.f1)) ⟨#[32]⟩ w hc hg (by simpa using hn) (by simpa using hcap) (by rw [hm]; exact hlen)
    rw [hm, List.length_map] at hJ
    exact hJ
set_option maxHeartbeats 4000000 in
theorem join_any (A : Option Addr) (c : Nat) (l : List S30) (w : World) (hr : Kd.C k30 w A l.length l) (hc : l.length ≤ c) (hn : l.length ≤ 4398046511104)
    (hlen : (Lib.join (l.map fun x => x.f1.data.toList) [32]).length ≤ 140737488355328) :
    Calls Try.prog 19 #[.slice A l.length c] w fun e w' => e = .returned (.string (joinB l)) ∧ Below w.heap.size w w' := by
  obtain ⟨i0, hi, hz0, hz1, hz2⟩ := info_parts infoS
  have hu30 := Try.underlying30
  have HR := Aside0.mk hr
  clear hr
  go_enter Try.func19, Try.ntmps19
  go_wp2
  go_loopw [3, 8] (fun v3 v8 wr => ∃ (k : Nat) (v : Value), v = v3 ∧ k ≤ l.length ∧ v8 = .int .i64 k ∧ wr.ownsRow w.heap.size 9 1 v k ((l.take k).map (fun x => Value.string x.f1)) ∧ Below w.heap.size w wr) (fun _ v _ => l.length - (intOf v).toNat)
  case atStart => exact ⟨0, _, rfl, by omega, rfl, World.ownsRow_nil _ _ _ _, Below.refl _ _⟩
  case round =>
    obtain ⟨k, v, rfl, hk, rfl, hrow, hB⟩ := hrel
    by_cases hlt : k < l.length
    · obtain ⟨ad, hA, t0, t1, t2⟩ := at_T30 (Kd.C_below HR.out hB) (k : Int) (by omega) (by omega)
      subst hA
      rw [Int.toNat_natCast] at t0 t1 t2
      have hsn := Aside0.mk (take_map_snoc hlt)
      generalize rd_T30 l (k : Int) = t at *
      clear HR
      go_wp2_with (at_builtin; refine wpList_append_own _ rfl _ _ 44 rfl w.heap.size 9 i0 (.string ⟨#[]⟩) 1 16 Try.underlying44 hi hz0 hz1 hz2 rfl (by decide) _ _ _ rfl ((hrow.alloc _).alloc _) ⟨wr.heap.size + 1, 0, none⟩ 1 1 [.string t.f1] rfl rfl (by simpa using cell_one_new (wr.alloc (.cells #[.int .i64 t.f0, .string t.f1, .int .i64 t.f2] 30)) (.string t.f1) 9) (by simp [Value.oneCell']) (by unfold maxLen; omega) (by omega) (by have := hB.size; simp; omega) ?_; intro v' w1 hown' hgrow _)
      have hB1 : Below w.heap.size w w1 := ((hB.alloc hB.size _).alloc (by have := hB.size; simp; omega) _).grown hgrow (by have := hB.size; simp; omega) (own_base hrow)
      rw [← hsn.out] at hown'
      clear hgrow hrow hB t0 t1 t2
      go_wp2
      go_roundw
      case rel => exact ⟨k + 1, _, rfl, by omega, by go_num, hown', hB1⟩
      case measure => simp [intOf]; omega
    · obtain rfl : k = l.length := by omega
      rw [List.take_length] at hrow
      have hJ := join_call l v w.heap.size wr hrow (by omega) hlen
      clear HR
      go_wp2_with (go_at_call 31; refine hJ.mono ?_; rintro e w' ⟨rfl, hb⟩)
      go_ret
      exact ⟨rfl, hB.trans (hb.mono hB.size)⟩
end Go.Proofs.Ytpjoajoacakpgaa.Given
