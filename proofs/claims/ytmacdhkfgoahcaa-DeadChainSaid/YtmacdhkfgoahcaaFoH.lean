/- Contract, walked by hand: an operation reckoned by what is known (reckon). For every map, every operation. -/
import Derived.Test.YtmacdhkfgoahcaaFoF
import Derived.Test.YtmacdhkfgoahcaaFoG
set_option linter.unusedVariables false
set_option linter.unusedSimpArgs false
namespace Go.Proofs.Ytmacdhkfgoahcaa.Fo
open Go Go.RowKit Go.Maps Go.Proofs.Ytmacdhkfgoahcaa.Q Go.Proofs.YtmacdhkfgoahcaaW.PrintWords Go.Proofs.YtmacdhkfgoahcaaW.PrintLast Go.Proofs.YtmacdhkfgoahcaaW.PrintMore
/-- What reckon answers. -/
def reckonV (m : Fn) (x : S30) (v : Value) : Value :=
  if (bothR m x).2 = true then opV (constS x (bothR m x).1) (.slice none 0 0)
  else if neutralB m x.f4 x.f3 = true then opV (moveS x x.f2) (.slice none 0 0)
  else if (turB x.f4 && neutralB m x.f4 x.f2) = true then opV (moveS x x.f3) (.slice none 0 0)
  else if ((x.f4 == 3 || x.f4 == 6) && (m x.f2 == some 0 || m x.f3 == some 0)) = true then opV (constS x 0) (.slice none 0 0)
  else if (x.f2 == x.f3 && (x.f4 == 6 || x.f4 == 7)) = true then opV (moveS x x.f2) (.slice none 0 0)
  else if (x.f2 == x.f3 && (folR x.f4).2) = true then opV (constS x (folR x.f4).1) (.slice none 0 0)
  else opV x v
theorem reckon_any (nb cnt : Nat) (m : Fn) (x : S30) (A : Option Addr) (l c : Nat) (h2 : wf x.f2) (h3 : wf x.f3) (w : World) (hm : MapI w nb cnt m) :
    Calls Try.prog 78 #[.map (some nb), opV x (.slice A l c)] w fun e w' => e = .returned (reckonV m x (.slice A l c)) ∧ Below w.heap.size w w' := by
  rcases Bool.eq_false_or_eq_true ((bothR m x).2) with hp | hp
  · skip
    have e_ : reckonV m x (.slice A l c) = opV (constS x (bothR m x).1) (.slice none 0 0) := by unfold reckonV; simp [hp]
    rw [e_]; exact reckon1 nb cnt m x A l c h2 h3 w hm hp
  rcases Bool.eq_false_or_eq_true (neutralB m x.f4 x.f3) with hn3 | hn3
  · skip
    have e_ : reckonV m x (.slice A l c) = opV (moveS x x.f2) (.slice none 0 0) := by unfold reckonV; simp [hp, hn3]
    rw [e_]; exact reckon2 nb cnt m x A l c h2 h3 w hm hp hn3
  rcases Bool.eq_false_or_eq_true (turB x.f4) with htu | htu
  · skip
    rcases Bool.eq_false_or_eq_true (neutralB m x.f4 x.f2) with hn2 | hn2
    · skip
      have e_ : reckonV m x (.slice A l c) = opV (moveS x x.f3) (.slice none 0 0) := by unfold reckonV; simp [hp, hn3, htu, hn2]
      rw [e_]; exact reckon3 nb cnt m x A l c h2 h3 w hm hp hn3 htu hn2
    by_cases f3 : x.f4 = 3
    · skip
      have hq3 : (x.f4 == 3) = true := by rw [f3]; rfl
      have hq6 : (x.f4 == 6) = false := by rw [f3]; rfl
      have hq7 : (x.f4 == 7) = false := by rw [f3]; rfl
      have hfo : (folR x.f4).2 = false := by rw [f3]; rfl
      rcases Bool.eq_false_or_eq_true (m x.f2 == some 0) with hz2 | hz2
      · skip
        have e_ : reckonV m x (.slice A l c) = opV (constS x 0) (.slice none 0 0) := by unfold reckonV; simp [hp, hn3, htu, hn2, hq3, hq6, hq7, hz2]
        rw [e_]; exact reckon4 nb cnt m x A l c h2 h3 w hm hp hn3 htu hn2 hq3 hq6 hq7 hz2
      rcases Bool.eq_false_or_eq_true (m x.f3 == some 0) with hz3 | hz3
      · skip
        have e_ : reckonV m x (.slice A l c) = opV (constS x 0) (.slice none 0 0) := by unfold reckonV; simp [hp, hn3, htu, hn2, hq3, hq6, hq7, hz2, hz3]
        rw [e_]; exact reckon5 nb cnt m x A l c h2 h3 w hm hp hn3 htu hn2 hq3 hq6 hq7 hz2 hz3
      rcases Bool.eq_false_or_eq_true (x.f2 == x.f3) with hal | hal
      · skip
        have e_ : reckonV m x (.slice A l c) = opV x (.slice A l c) := by unfold reckonV; simp [hp, hn3, htu, hn2, hq3, hq6, hq7, hz2, hz3, hal, hfo]
        rw [e_]; exact reckon7 nb cnt m x A l c h2 h3 w hm hp hn3 htu hn2 hq3 hq6 hq7 hz2 hz3 hal hfo
      have e_ : reckonV m x (.slice A l c) = opV x (.slice A l c) := by unfold reckonV; simp [hp, hn3, htu, hn2, hq3, hq6, hq7, hz2, hz3, hal]
      rw [e_]; exact reckon6 nb cnt m x A l c h2 h3 w hm hp hn3 htu hn2 hq3 hq6 hq7 hz2 hz3 hal
    by_cases f6 : x.f4 = 6
    · skip
      have hq3 : (x.f4 == 3) = false := by rw [f6]; rfl
      have hq6 : (x.f4 == 6) = true := by rw [f6]; rfl
      have hq7 : (x.f4 == 7) = false := by rw [f6]; rfl
      rcases Bool.eq_false_or_eq_true (m x.f2 == some 0) with hz2 | hz2
      · skip
        have e_ : reckonV m x (.slice A l c) = opV (constS x 0) (.slice none 0 0) := by unfold reckonV; simp [hp, hn3, htu, hn2, hq3, hq6, hq7, hz2]
        rw [e_]; exact reckon8 nb cnt m x A l c h2 h3 w hm hp hn3 htu hn2 hq3 hq6 hq7 hz2
      rcases Bool.eq_false_or_eq_true (m x.f3 == some 0) with hz3 | hz3
      · skip
        have e_ : reckonV m x (.slice A l c) = opV (constS x 0) (.slice none 0 0) := by unfold reckonV; simp [hp, hn3, htu, hn2, hq3, hq6, hq7, hz2, hz3]
        rw [e_]; exact reckon9 nb cnt m x A l c h2 h3 w hm hp hn3 htu hn2 hq3 hq6 hq7 hz2 hz3
      rcases Bool.eq_false_or_eq_true (x.f2 == x.f3) with hal | hal
      · skip
        have e_ : reckonV m x (.slice A l c) = opV (moveS x x.f2) (.slice none 0 0) := by unfold reckonV; simp [hp, hn3, htu, hn2, hq3, hq6, hq7, hz2, hz3, hal]
        rw [e_]; exact reckon11 nb cnt m x A l c h2 h3 w hm hp hn3 htu hn2 hq3 hq6 hq7 hz2 hz3 hal
      have e_ : reckonV m x (.slice A l c) = opV x (.slice A l c) := by unfold reckonV; simp [hp, hn3, htu, hn2, hq3, hq6, hq7, hz2, hz3, hal]
      rw [e_]; exact reckon10 nb cnt m x A l c h2 h3 w hm hp hn3 htu hn2 hq3 hq6 hq7 hz2 hz3 hal
    have hq3 : (x.f4 == 3) = false := by simpa using f3
    have hq6 : (x.f4 == 6) = false := by simpa using f6
    rcases Bool.eq_false_or_eq_true (x.f2 == x.f3) with hal | hal
    · skip
      rcases Bool.eq_false_or_eq_true (x.f4 == 7) with hq7 | hq7
      · skip
        have e_ : reckonV m x (.slice A l c) = opV (moveS x x.f2) (.slice none 0 0) := by unfold reckonV; simp [hp, hn3, htu, hn2, hq3, hq6, hq7, hal]
        rw [e_]; exact reckon13 nb cnt m x A l c h2 h3 w hm hp hn3 htu hn2 hq3 hq6 hq7 hal
      rcases Bool.eq_false_or_eq_true ((folR x.f4).2) with hfo | hfo
      · skip
        have e_ : reckonV m x (.slice A l c) = opV (constS x (folR x.f4).1) (.slice none 0 0) := by unfold reckonV; simp [hp, hn3, htu, hn2, hq3, hq6, hq7, hal, hfo]
        rw [e_]; exact reckon14 nb cnt m x A l c h2 h3 w hm hp hn3 htu hn2 hq3 hq6 hq7 hal hfo
      have e_ : reckonV m x (.slice A l c) = opV x (.slice A l c) := by unfold reckonV; simp [hp, hn3, htu, hn2, hq3, hq6, hq7, hal, hfo]
      rw [e_]; exact reckon15 nb cnt m x A l c h2 h3 w hm hp hn3 htu hn2 hq3 hq6 hq7 hal hfo
    have e_ : reckonV m x (.slice A l c) = opV x (.slice A l c) := by unfold reckonV; simp [hp, hn3, htu, hn2, hq3, hq6, hal]
    rw [e_]; exact reckon12 nb cnt m x A l c h2 h3 w hm hp hn3 htu hn2 hq3 hq6 hal
  have hq3 : (x.f4 == 3) = false := by cases h_ : (x.f4 == 3) <;> simp_all [turB]
  have hq6 : (x.f4 == 6) = false := by cases h_ : (x.f4 == 6) <;> simp_all [turB]
  rcases Bool.eq_false_or_eq_true (x.f2 == x.f3) with hal | hal
  · skip
    rcases Bool.eq_false_or_eq_true (x.f4 == 7) with hq7 | hq7
    · skip
      have e_ : reckonV m x (.slice A l c) = opV (moveS x x.f2) (.slice none 0 0) := by unfold reckonV; simp [hp, hn3, htu, hq3, hq6, hq7, hal]
      rw [e_]; exact reckon17 nb cnt m x A l c h2 h3 w hm hp hn3 htu hq3 hq6 hq7 hal
    rcases Bool.eq_false_or_eq_true ((folR x.f4).2) with hfo | hfo
    · skip
      have e_ : reckonV m x (.slice A l c) = opV (constS x (folR x.f4).1) (.slice none 0 0) := by unfold reckonV; simp [hp, hn3, htu, hq3, hq6, hq7, hal, hfo]
      rw [e_]; exact reckon18 nb cnt m x A l c h2 h3 w hm hp hn3 htu hq3 hq6 hq7 hal hfo
    have e_ : reckonV m x (.slice A l c) = opV x (.slice A l c) := by unfold reckonV; simp [hp, hn3, htu, hq3, hq6, hq7, hal, hfo]
    rw [e_]; exact reckon19 nb cnt m x A l c h2 h3 w hm hp hn3 htu hq3 hq6 hq7 hal hfo
  have e_ : reckonV m x (.slice A l c) = opV x (.slice A l c) := by unfold reckonV; simp [hp, hn3, htu, hq3, hq6, hal]
  rw [e_]; exact reckon16 nb cnt m x A l c h2 h3 w hm hp hn3 htu hq3 hq6 hal
end Go.Proofs.Ytmacdhkfgoahcaa.Fo
