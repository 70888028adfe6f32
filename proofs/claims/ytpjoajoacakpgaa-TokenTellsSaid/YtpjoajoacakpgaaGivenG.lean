/- Contract, walked by hand, of the helper 'gap' of the statements on tokens: blanks and // rows alone stand between two places. For every text of at most 2^47 bytes and every two places. -/
import Derived.Test.YtpjoajoacakpgaaGivenA
set_option linter.unusedVariables false
set_option linter.unusedSimpArgs false
namespace Go.Proofs.Ytpjoajoacakpgaa.Given
open Go.RowKit Go.Proofs.YtpjoajoacakpgaaW.PrintWords Go.Proofs.YtpjoajoacakpgaaW.PrintLast Go.Proofs.YtpjoajoacakpgaaW.PrintMore
/-- Is one within a // row behind this byte? -/
def rowB (row : Bool) (c : UInt8) (r : List UInt8) : Bool := row && c != 10 || c == 47 && r.head? == some 47
def gapGo : Bool → List UInt8 → Bool
  | _, [] => true
  | row, c :: r => if (rowB row c r || blaB c) = true then gapGo (rowB row c r) r else false
def seg (s : ByteArray) (t k : Nat) : List UInt8 := (s.data.toList.drop k).take (t - k)
theorem seg_end (s : ByteArray) (t k : Nat) (h : t ≤ k) : seg s t k = [] := by unfold seg; rw [show t - k = 0 from by omega, List.take_zero]
theorem seg_at (s : ByteArray) (t k : Nat) (h : k < t) (ht : t ≤ s.size) : seg s t k = s[k] :: seg s t (k + 1) := by
  unfold seg; rw [drop_at s k (by omega), show t - k = (t - (k + 1)) + 1 from by omega, List.take_succ_cons]
theorem u8_of {c : UInt8} {n : Nat} (h : (c.toNat : Int) = n) (hn : n < 256) : c = UInt8.ofNat n := by
  apply UInt8.toNat_inj.1
  rw [UInt8.toNat_ofNat_of_lt' hn]; omega
theorem gap_step {s : ByteArray} {t k : Nat} {row : Bool} (b : Bool) (R : Bool) (h : k < t) (ht : t ≤ s.size) (hR : rowB row s[k] (seg s t (k + 1)) = R) (hb : (R || blaB s[k]) = true) (hg : gapGo row (seg s t k) = b) : gapGo R (seg s t (k + 1)) = b := by
  rw [seg_at s t k h ht, gapGo, hR, if_pos hb] at hg; exact hg
theorem gap_stop {s : ByteArray} {t k : Nat} {row : Bool} (b : Bool) (h : k < t) (ht : t ≤ s.size) (hR : rowB row s[k] (seg s t (k + 1)) = false) (hb : blaB s[k] = false) (hg : gapGo row (seg s t k) = b) : b = false := by
  rw [seg_at s t k h ht, gapGo, hR, hb, if_neg (by decide)] at hg; exact hg.symm
theorem rowB_one {row : Bool} {c : UInt8} {r : List UInt8} (h10 : ((c.toNat : Int) == 10) = false) (h47 : ((c.toNat : Int) == 47) = false) : rowB row c r = row := by
  have e1 : (c != 10) = true := by simp only [bne_iff_ne, ne_eq]; rintro rfl; exact absurd h10 (by decide)
  have e2 : (c == 47) = false := by simp only [beq_eq_false_iff_ne, ne_eq]; rintro rfl; exact absurd h47 (by decide)
  simp [rowB, e1, e2]
theorem rowB_ten {row : Bool} {r : List UInt8} : rowB row 10 r = false := by simp [rowB]
theorem rowB_slash {row : Bool} {r : List UInt8} : rowB row 47 r = (row || r.head? == some 47) := by simp [rowB]
set_option maxHeartbeats 16000000 in
theorem gap_in (s : ByteArray) (hs : s.size ≤ 140737488351232) (f t : Nat) (hf : f ≤ t) (ht : t ≤ s.size) (w : World) :
    Calls Try.prog 21 #[.string s, .int .i64 f, .int .i64 t] w fun e w' => e = .returned (.bool (gapGo false (seg s t f))) ∧ w = w' := by
  generalize hg : gapGo false (seg s t f) = b
  replace hg := Aside0.mk hg
  have d0 : decide ((f : Int) < 0) = false := by simp
  have d1 : decide (t < f) = false := by simp; omega
  have d2 : decide (s.size < t) = false := by simp; omega
  go_enter Try.func21, Try.ntmps21
  go_wp2
  go_loop [7, 8] (fun v7 v8 => ∃ (row : Bool) (k : Nat), k ≤ t ∧ v7 = .bool row ∧ v8 = .int .i64 k ∧ Aside0 (gapGo row (seg s t k) = b)) (fun _ v => t - (intOf v).toNat)
  case atStart => exact ⟨false, f, hf, rfl, rfl, hg⟩
  case round =>
    clear hg
    obtain ⟨row, k, hk, rfl, rfl, HG⟩ := hrel
    by_cases hlt : k < t
    · have hks : k < s.size := by omega
      have hx8 := s[k].toNat_lt

      cases row
      · skip
        by_cases x10 : (s[k].toNat : Int) = 10
        · have e10 : s[k] = 10 := (u8_of x10 (by decide)).trans (by decide)
          have z10 : ((s[k].toNat : Int) == 10) = true := by rw [x10]; rfl
          have u10 : ((s[k].toNat : Int) != 10) = false := by rw [x10]; rfl
          have z47 : ((s[k].toNat : Int) == 47) = false := by rw [x10]; rfl
          have u47 : ((s[k].toNat : Int) != 47) = true := by rw [x10]; rfl
          have z32 : ((s[k].toNat : Int) == 32) = false := by rw [x10]; rfl
          have u32 : ((s[k].toNat : Int) != 32) = true := by rw [x10]; rfl
          have z9 : ((s[k].toNat : Int) == 9) = false := by rw [x10]; rfl
          have u9 : ((s[k].toNat : Int) != 9) = true := by rw [x10]; rfl
          have z13 : ((s[k].toNat : Int) == 13) = false := by rw [x10]; rfl
          have u13 : ((s[k].toNat : Int) != 13) = true := by rw [x10]; rfl
          have HE := Aside0.mk (gap_step b false hlt ht (by rw [e10]; exact rowB_ten) (by rw [e10]; rfl) HG.out)
          clear HG e10 x10
          go_wp2
          go_round
          case rel => first | exact ⟨false, k + 1, by omega, rfl, by go_num, HE⟩ | (refine ⟨trivial, ?_⟩; (repeat apply Exists.intro); rfl)
          case measure => simp [intOf]; omega
        by_cases x32 : (s[k].toNat : Int) = 32
        · have e32 : s[k] = 32 := (u8_of x32 (by decide)).trans (by decide)
          have z10 : ((s[k].toNat : Int) == 10) = false := by rw [x32]; rfl
          have u10 : ((s[k].toNat : Int) != 10) = true := by rw [x32]; rfl
          have z47 : ((s[k].toNat : Int) == 47) = false := by rw [x32]; rfl
          have u47 : ((s[k].toNat : Int) != 47) = true := by rw [x32]; rfl
          have z32 : ((s[k].toNat : Int) == 32) = true := by rw [x32]; rfl
          have u32 : ((s[k].toNat : Int) != 32) = false := by rw [x32]; rfl
          have z9 : ((s[k].toNat : Int) == 9) = false := by rw [x32]; rfl
          have u9 : ((s[k].toNat : Int) != 9) = true := by rw [x32]; rfl
          have z13 : ((s[k].toNat : Int) == 13) = false := by rw [x32]; rfl
          have u13 : ((s[k].toNat : Int) != 13) = true := by rw [x32]; rfl
          have HE := Aside0.mk (gap_step b false hlt ht (rowB_one z10 z47) (by rw [e32]; simp [blaB]) HG.out)
          clear HG e32 x32
          go_wp2
          go_round
          case rel => first | exact ⟨false, k + 1, by omega, rfl, by go_num, HE⟩ | (refine ⟨trivial, ?_⟩; (repeat apply Exists.intro); rfl)
          case measure => simp [intOf]; omega
        by_cases x9 : (s[k].toNat : Int) = 9
        · have e9 : s[k] = 9 := (u8_of x9 (by decide)).trans (by decide)
          have z10 : ((s[k].toNat : Int) == 10) = false := by rw [x9]; rfl
          have u10 : ((s[k].toNat : Int) != 10) = true := by rw [x9]; rfl
          have z47 : ((s[k].toNat : Int) == 47) = false := by rw [x9]; rfl
          have u47 : ((s[k].toNat : Int) != 47) = true := by rw [x9]; rfl
          have z32 : ((s[k].toNat : Int) == 32) = false := by rw [x9]; rfl
          have u32 : ((s[k].toNat : Int) != 32) = true := by rw [x9]; rfl
          have z9 : ((s[k].toNat : Int) == 9) = true := by rw [x9]; rfl
          have u9 : ((s[k].toNat : Int) != 9) = false := by rw [x9]; rfl
          have z13 : ((s[k].toNat : Int) == 13) = false := by rw [x9]; rfl
          have u13 : ((s[k].toNat : Int) != 13) = true := by rw [x9]; rfl
          have HE := Aside0.mk (gap_step b false hlt ht (rowB_one z10 z47) (by rw [e9]; simp [blaB]) HG.out)
          clear HG e9 x9
          go_wp2
          go_round
          case rel => first | exact ⟨false, k + 1, by omega, rfl, by go_num, HE⟩ | (refine ⟨trivial, ?_⟩; (repeat apply Exists.intro); rfl)
          case measure => simp [intOf]; omega
        by_cases x13 : (s[k].toNat : Int) = 13
        · have e13 : s[k] = 13 := (u8_of x13 (by decide)).trans (by decide)
          have z10 : ((s[k].toNat : Int) == 10) = false := by rw [x13]; rfl
          have u10 : ((s[k].toNat : Int) != 10) = true := by rw [x13]; rfl
          have z47 : ((s[k].toNat : Int) == 47) = false := by rw [x13]; rfl
          have u47 : ((s[k].toNat : Int) != 47) = true := by rw [x13]; rfl
          have z32 : ((s[k].toNat : Int) == 32) = false := by rw [x13]; rfl
          have u32 : ((s[k].toNat : Int) != 32) = true := by rw [x13]; rfl
          have z9 : ((s[k].toNat : Int) == 9) = false := by rw [x13]; rfl
          have u9 : ((s[k].toNat : Int) != 9) = true := by rw [x13]; rfl
          have z13 : ((s[k].toNat : Int) == 13) = true := by rw [x13]; rfl
          have u13 : ((s[k].toNat : Int) != 13) = false := by rw [x13]; rfl
          have HE := Aside0.mk (gap_step b false hlt ht (rowB_one z10 z47) (by rw [e13]; simp [blaB]) HG.out)
          clear HG e13 x13
          go_wp2
          go_round
          case rel => first | exact ⟨false, k + 1, by omega, rfl, by go_num, HE⟩ | (refine ⟨trivial, ?_⟩; (repeat apply Exists.intro); rfl)
          case measure => simp [intOf]; omega
        by_cases x47 : (s[k].toNat : Int) = 47
        · have e47 : s[k] = 47 := (u8_of x47 (by decide)).trans (by decide)
          have z10 : ((s[k].toNat : Int) == 10) = false := by rw [x47]; rfl
          have u10 : ((s[k].toNat : Int) != 10) = true := by rw [x47]; rfl
          have z47 : ((s[k].toNat : Int) == 47) = true := by rw [x47]; rfl
          have u47 : ((s[k].toNat : Int) != 47) = false := by rw [x47]; rfl
          have z32 : ((s[k].toNat : Int) == 32) = false := by rw [x47]; rfl
          have u32 : ((s[k].toNat : Int) != 32) = true := by rw [x47]; rfl
          have z9 : ((s[k].toNat : Int) == 9) = false := by rw [x47]; rfl
          have u9 : ((s[k].toNat : Int) != 9) = true := by rw [x47]; rfl
          have z13 : ((s[k].toNat : Int) == 13) = false := by rw [x47]; rfl
          have u13 : ((s[k].toNat : Int) != 13) = true := by rw [x47]; rfl
          have hbl : blaB s[k] = false := by rw [e47]; rfl
          by_cases hn : k + 1 < t
          · have hks1 : k + 1 < s.size := by omega
            have hh : (seg s t (k + 1)).head? = some s[k + 1] := by rw [seg_at s t (k + 1) hn ht]; rfl
            by_cases y47 : (s[k + 1].toNat : Int) = 47
            · have f47 : s[k + 1] = 47 := (u8_of y47 (by decide)).trans (by decide)
              have y1 : ((s[k + 1].toNat : Int) == 47) = true := by rw [y47]; rfl
              have HE := Aside0.mk (gap_step b true hlt ht (by rw [e47, rowB_slash, hh, f47]; simp) (by simp) HG.out)
              clear HG e47 x47 f47 hh y47 hbl
              go_wp2
              go_round
              case rel => first | exact ⟨true, k + 1, by omega, rfl, by go_num, HE⟩ | (refine ⟨trivial, ?_⟩; (repeat apply Exists.intro); rfl)
              case measure => simp [intOf]; omega
            · have y1 : ((s[k + 1].toNat : Int) == 47) = false := by simpa using y47
              have f47 : s[k + 1] ≠ 47 := fun h => y47 (by rw [h]; rfl)
              have HE := Aside0.mk (gap_stop b hlt ht (by rw [e47, rowB_slash, hh]; simpa using f47) (hbl) HG.out)
              clear HG e47 x47 f47 hh y47 hbl
              go_wp2
              go_ret
              exact ⟨ret_bool HE.out.symm, rfl⟩
          · have hh : seg s t (k + 1) = [] := seg_end s t (k + 1) (by omega)
            have HE := Aside0.mk (gap_stop b hlt ht (by rw [e47, rowB_slash, hh]; rfl) (hbl) HG.out)
            clear HG e47 x47 hh hbl
            go_wp2
            go_ret
            exact ⟨ret_bool HE.out.symm, rfl⟩
        have z10 : ((s[k].toNat : Int) == 10) = false := by simpa using x10
        have u10 : ((s[k].toNat : Int) != 10) = true := by simpa using x10
        have z32 : ((s[k].toNat : Int) == 32) = false := by simpa using x32
        have u32 : ((s[k].toNat : Int) != 32) = true := by simpa using x32
        have z9 : ((s[k].toNat : Int) == 9) = false := by simpa using x9
        have u9 : ((s[k].toNat : Int) != 9) = true := by simpa using x9
        have z13 : ((s[k].toNat : Int) == 13) = false := by simpa using x13
        have u13 : ((s[k].toNat : Int) != 13) = true := by simpa using x13
        have z47 : ((s[k].toNat : Int) == 47) = false := by simpa using x47
        have u47 : ((s[k].toNat : Int) != 47) = true := by simpa using x47
        have HE := Aside0.mk (gap_stop b hlt ht (rowB_one z10 z47) (by simp [blaB, x10, x32, x9, x13]) HG.out)
        clear HG x10 x32 x9 x13 x47
        go_wp2
        go_ret
        exact ⟨ret_bool HE.out.symm, rfl⟩
      · skip
        by_cases x10 : (s[k].toNat : Int) = 10
        · have e10 : s[k] = 10 := (u8_of x10 (by decide)).trans (by decide)
          have z10 : ((s[k].toNat : Int) == 10) = true := by rw [x10]; rfl
          have u10 : ((s[k].toNat : Int) != 10) = false := by rw [x10]; rfl
          have z47 : ((s[k].toNat : Int) == 47) = false := by rw [x10]; rfl
          have u47 : ((s[k].toNat : Int) != 47) = true := by rw [x10]; rfl
          have z32 : ((s[k].toNat : Int) == 32) = false := by rw [x10]; rfl
          have u32 : ((s[k].toNat : Int) != 32) = true := by rw [x10]; rfl
          have z9 : ((s[k].toNat : Int) == 9) = false := by rw [x10]; rfl
          have u9 : ((s[k].toNat : Int) != 9) = true := by rw [x10]; rfl
          have z13 : ((s[k].toNat : Int) == 13) = false := by rw [x10]; rfl
          have u13 : ((s[k].toNat : Int) != 13) = true := by rw [x10]; rfl
          have HE := Aside0.mk (gap_step b false hlt ht (by rw [e10]; exact rowB_ten) (by rw [e10]; rfl) HG.out)
          clear HG e10 x10
          go_wp2
          go_round
          case rel => first | exact ⟨false, k + 1, by omega, rfl, by go_num, HE⟩ | (refine ⟨trivial, ?_⟩; (repeat apply Exists.intro); rfl)
          case measure => simp [intOf]; omega
        by_cases x32 : (s[k].toNat : Int) = 32
        · have e32 : s[k] = 32 := (u8_of x32 (by decide)).trans (by decide)
          have z10 : ((s[k].toNat : Int) == 10) = false := by rw [x32]; rfl
          have u10 : ((s[k].toNat : Int) != 10) = true := by rw [x32]; rfl
          have z47 : ((s[k].toNat : Int) == 47) = false := by rw [x32]; rfl
          have u47 : ((s[k].toNat : Int) != 47) = true := by rw [x32]; rfl
          have z32 : ((s[k].toNat : Int) == 32) = true := by rw [x32]; rfl
          have u32 : ((s[k].toNat : Int) != 32) = false := by rw [x32]; rfl
          have z9 : ((s[k].toNat : Int) == 9) = false := by rw [x32]; rfl
          have u9 : ((s[k].toNat : Int) != 9) = true := by rw [x32]; rfl
          have z13 : ((s[k].toNat : Int) == 13) = false := by rw [x32]; rfl
          have u13 : ((s[k].toNat : Int) != 13) = true := by rw [x32]; rfl
          have HE := Aside0.mk (gap_step b true hlt ht (rowB_one z10 z47) (by rw [e32]; simp [blaB]) HG.out)
          clear HG e32 x32
          go_wp2
          go_round
          case rel => first | exact ⟨true, k + 1, by omega, rfl, by go_num, HE⟩ | (refine ⟨trivial, ?_⟩; (repeat apply Exists.intro); rfl)
          case measure => simp [intOf]; omega
        by_cases x9 : (s[k].toNat : Int) = 9
        · have e9 : s[k] = 9 := (u8_of x9 (by decide)).trans (by decide)
          have z10 : ((s[k].toNat : Int) == 10) = false := by rw [x9]; rfl
          have u10 : ((s[k].toNat : Int) != 10) = true := by rw [x9]; rfl
          have z47 : ((s[k].toNat : Int) == 47) = false := by rw [x9]; rfl
          have u47 : ((s[k].toNat : Int) != 47) = true := by rw [x9]; rfl
          have z32 : ((s[k].toNat : Int) == 32) = false := by rw [x9]; rfl
          have u32 : ((s[k].toNat : Int) != 32) = true := by rw [x9]; rfl
          have z9 : ((s[k].toNat : Int) == 9) = true := by rw [x9]; rfl
          have u9 : ((s[k].toNat : Int) != 9) = false := by rw [x9]; rfl
          have z13 : ((s[k].toNat : Int) == 13) = false := by rw [x9]; rfl
          have u13 : ((s[k].toNat : Int) != 13) = true := by rw [x9]; rfl
          have HE := Aside0.mk (gap_step b true hlt ht (rowB_one z10 z47) (by rw [e9]; simp [blaB]) HG.out)
          clear HG e9 x9
          go_wp2
          go_round
          case rel => first | exact ⟨true, k + 1, by omega, rfl, by go_num, HE⟩ | (refine ⟨trivial, ?_⟩; (repeat apply Exists.intro); rfl)
          case measure => simp [intOf]; omega
        by_cases x13 : (s[k].toNat : Int) = 13
        · have e13 : s[k] = 13 := (u8_of x13 (by decide)).trans (by decide)
          have z10 : ((s[k].toNat : Int) == 10) = false := by rw [x13]; rfl
          have u10 : ((s[k].toNat : Int) != 10) = true := by rw [x13]; rfl
          have z47 : ((s[k].toNat : Int) == 47) = false := by rw [x13]; rfl
          have u47 : ((s[k].toNat : Int) != 47) = true := by rw [x13]; rfl
          have z32 : ((s[k].toNat : Int) == 32) = false := by rw [x13]; rfl
          have u32 : ((s[k].toNat : Int) != 32) = true := by rw [x13]; rfl
          have z9 : ((s[k].toNat : Int) == 9) = false := by rw [x13]; rfl
          have u9 : ((s[k].toNat : Int) != 9) = true := by rw [x13]; rfl
          have z13 : ((s[k].toNat : Int) == 13) = true := by rw [x13]; rfl
          have u13 : ((s[k].toNat : Int) != 13) = false := by rw [x13]; rfl
          have HE := Aside0.mk (gap_step b true hlt ht (rowB_one z10 z47) (by rw [e13]; simp [blaB]) HG.out)
          clear HG e13 x13
          go_wp2
          go_round
          case rel => first | exact ⟨true, k + 1, by omega, rfl, by go_num, HE⟩ | (refine ⟨trivial, ?_⟩; (repeat apply Exists.intro); rfl)
          case measure => simp [intOf]; omega
        by_cases x47 : (s[k].toNat : Int) = 47
        · have e47 : s[k] = 47 := (u8_of x47 (by decide)).trans (by decide)
          have z10 : ((s[k].toNat : Int) == 10) = false := by rw [x47]; rfl
          have u10 : ((s[k].toNat : Int) != 10) = true := by rw [x47]; rfl
          have z47 : ((s[k].toNat : Int) == 47) = true := by rw [x47]; rfl
          have u47 : ((s[k].toNat : Int) != 47) = false := by rw [x47]; rfl
          have z32 : ((s[k].toNat : Int) == 32) = false := by rw [x47]; rfl
          have u32 : ((s[k].toNat : Int) != 32) = true := by rw [x47]; rfl
          have z9 : ((s[k].toNat : Int) == 9) = false := by rw [x47]; rfl
          have u9 : ((s[k].toNat : Int) != 9) = true := by rw [x47]; rfl
          have z13 : ((s[k].toNat : Int) == 13) = false := by rw [x47]; rfl
          have u13 : ((s[k].toNat : Int) != 13) = true := by rw [x47]; rfl
          have hbl : blaB s[k] = false := by rw [e47]; rfl
          by_cases hn : k + 1 < t
          · have hks1 : k + 1 < s.size := by omega
            have hh : (seg s t (k + 1)).head? = some s[k + 1] := by rw [seg_at s t (k + 1) hn ht]; rfl
            by_cases y47 : (s[k + 1].toNat : Int) = 47
            · have f47 : s[k + 1] = 47 := (u8_of y47 (by decide)).trans (by decide)
              have y1 : ((s[k + 1].toNat : Int) == 47) = true := by rw [y47]; rfl
              have HE := Aside0.mk (gap_step b true hlt ht (by rw [e47, rowB_slash, hh, f47]; simp) (by simp) HG.out)
              clear HG e47 x47 f47 hh y47 hbl
              go_wp2
              go_round
              case rel => first | exact ⟨true, k + 1, by omega, rfl, by go_num, HE⟩ | (refine ⟨trivial, ?_⟩; (repeat apply Exists.intro); rfl)
              case measure => simp [intOf]; omega
            · have y1 : ((s[k + 1].toNat : Int) == 47) = false := by simpa using y47
              have f47 : s[k + 1] ≠ 47 := fun h => y47 (by rw [h]; rfl)
              have HE := Aside0.mk (gap_step b true hlt ht (by rw [e47, rowB_slash]; simp) (by simp) HG.out)
              clear HG e47 x47 f47 hh y47 hbl
              go_wp2
              go_round
              case rel => first | exact ⟨true, k + 1, by omega, rfl, by go_num, HE⟩ | (refine ⟨trivial, ?_⟩; (repeat apply Exists.intro); rfl)
              case measure => simp [intOf]; omega
          · have hh : seg s t (k + 1) = [] := seg_end s t (k + 1) (by omega)
            have HE := Aside0.mk (gap_step b true hlt ht (by rw [e47, rowB_slash]; simp) (by simp) HG.out)
            clear HG e47 x47 hh hbl
            go_wp2
            go_round
            case rel => first | exact ⟨true, k + 1, by omega, rfl, by go_num, HE⟩ | (refine ⟨trivial, ?_⟩; (repeat apply Exists.intro); rfl)
            case measure => simp [intOf]; omega
        have z10 : ((s[k].toNat : Int) == 10) = false := by simpa using x10
        have u10 : ((s[k].toNat : Int) != 10) = true := by simpa using x10
        have z32 : ((s[k].toNat : Int) == 32) = false := by simpa using x32
        have u32 : ((s[k].toNat : Int) != 32) = true := by simpa using x32
        have z9 : ((s[k].toNat : Int) == 9) = false := by simpa using x9
        have u9 : ((s[k].toNat : Int) != 9) = true := by simpa using x9
        have z13 : ((s[k].toNat : Int) == 13) = false := by simpa using x13
        have u13 : ((s[k].toNat : Int) != 13) = true := by simpa using x13
        have z47 : ((s[k].toNat : Int) == 47) = false := by simpa using x47
        have u47 : ((s[k].toNat : Int) != 47) = true := by simpa using x47
        have HE := Aside0.mk (gap_step b true hlt ht (rowB_one z10 z47) (by simp) HG.out)
        clear HG x10 x32 x9 x13 x47
        go_wp2
        go_round
        case rel => first | exact ⟨true, k + 1, by omega, rfl, by go_num, HE⟩ | (refine ⟨trivial, ?_⟩; (repeat apply Exists.intro); rfl)
        case measure => simp [intOf]; omega
    · have HE : Aside0 (b = true) := ⟨by rw [← HG.out, seg_end s t k (by omega), gapGo]⟩
      clear HG
      go_wp2
      go_ret
      exact ⟨ret_bool HE.out.symm, rfl⟩
theorem gap_out (s : ByteArray) (hs : s.size ≤ 140737488351232) (a b : Int) (h : a < 0 ∨ b < a ∨ (s.size : Int) < b) (w : World) :
    Calls Try.prog 21 #[.string s, .int .i64 a, .int .i64 b] w fun e w' => e = .returned (.bool false) ∧ w = w' := by
  by_cases h1 : a < 0
  · clear h
    go_enter Try.func21, Try.ntmps21
    go_wp2
    go_ret
    exact ⟨rfl, rfl⟩
  · by_cases h2 : b < a
    · clear h
      go_enter Try.func21, Try.ntmps21
      go_wp2
      go_ret
      exact ⟨rfl, rfl⟩
    · have h3 : (s.size : Int) < b := by omega
      clear h
      go_enter Try.func21, Try.ntmps21
      go_wp2
      go_ret
      exact ⟨rfl, rfl⟩
end Go.Proofs.Ytpjoajoacakpgaa.Given

namespace Go.Proofs.Ytpjoajoacakpgaa.Q
open Go.RowKit Go.Proofs.YtpjoajoacakpgaaW.PrintWords Go.Proofs.YtpjoajoacakpgaaW.PrintLast Go.Proofs.YtpjoajoacakpgaaW.PrintMore
def swagelaw09_gap.f (a0 : ByteArray) (a1 : Int) (a2 : Int) : Option (Bool) := if a0.size ≤ 140737488351232 then some (if 0 ≤ a1 ∧ a1 ≤ a2 ∧ a2 ≤ (a0.size : Int) then Given.gapGo false (Given.seg a0 a2.toNat a1.toNat) else false) else none
theorem swagelaw09_gap.calls (a0 : ByteArray) (a1 : Int) (a2 : Int) (r : Bool) (w : World) (h : swagelaw09_gap.f a0 a1 a2 = some r) :
    Calls Try.prog 21 #[.string a0, .int .i64 a1, .int .i64 a2] w fun e w' => e = .returned (.bool r) ∧ Drawn0 w w' := by
  unfold swagelaw09_gap.f at h
  split at h
  · rename_i hs
    injection h with h
    subst h
    split
    · rename_i hr
      obtain ⟨h1, h2, h3⟩ := hr
      have := Given.gap_in a0 hs a1.toNat a2.toNat (by omega) (by omega) w
      rw [Int.toNat_of_nonneg h1, Int.toNat_of_nonneg (by omega)] at this
      refine this.mono ?_
      rintro e w' ⟨rfl, rfl⟩
      exact ⟨rfl, Drawn0.refl _⟩
    · rename_i hr
      refine (Given.gap_out a0 hs a1 a2 (by omega) w).mono ?_
      rintro e w' ⟨rfl, rfl⟩
      exact ⟨rfl, Drawn0.refl _⟩
  · cases h
end Go.Proofs.Ytpjoajoacakpgaa.Q
