/- The contracts that were walked by hand, in the form in which the printed texts ask for them. -/
import Derived.Test.YtpjoajoacakpgaaGivenD
import Derived.Test.YtpjoajoacakpgaaGivenE
set_option linter.unusedVariables false
set_option linter.unusedSimpArgs false
namespace Go.Proofs.Ytpjoajoacakpgaa.Q
open Go.RowKit Go.Proofs.YtpjoajoacakpgaaW.PrintWords Go.Proofs.YtpjoajoacakpgaaW.PrintLast Go.Proofs.YtpjoajoacakpgaaW.PrintMore
def token_Name.f (a0 : ByteArray) : Option (Bool) := if a0.size ≤ 140737488351232 then some (Given.nameL a0.data.toList) else none
theorem token_Name.calls (a0 : ByteArray) (r : Bool) (w : World) (h : token_Name.f a0 = some r) :
    Calls Try.prog 15 #[.string a0] w fun e w' => e = .returned (.bool r) ∧ Drawn0 w w' := by
  unfold token_Name.f at h
  split at h
  · rename_i hs
    injection h with h
    subst h
    refine (Given.name_any a0 w hs).mono ?_
    rintro e w' ⟨rfl, rfl⟩
    exact ⟨rfl, Drawn0.refl _⟩
  · cases h
def token_Number.f (a0 : ByteArray) : Option (Int × Bool) := if a0.size ≤ 140737488351232 then some (Given.numL a0.data.toList) else none
theorem token_Number.calls (a0 : ByteArray) (r1 : Int) (r2 : Bool) (w : World) (h : token_Number.f a0 = some (r1, r2)) :
    Calls Try.prog 13 #[.string a0] w fun e w' => e = .returned (.tuple #[.int .i64 r1, .bool r2]) ∧ Drawn0 w w' := by
  unfold token_Number.f at h
  split at h
  · rename_i hs
    injection h with h
    refine (Given.number_any a0 w hs).mono ?_
    rw [h]
    rintro e w' ⟨rfl, rfl⟩
    exact ⟨rfl, Drawn0.refl _⟩
  · cases h
def token_Sign.f (a0 : ByteArray) : Option (Bool) := some (Given.signL a0.data.toList)
theorem token_Sign.calls (a0 : ByteArray) (r : Bool) (w : World) (h : token_Sign.f a0 = some r) :
    Calls Try.prog 17 #[.string a0] w fun e w' => e = .returned (.bool r) ∧ Drawn0 w w' := by
  injection h with h
  subst h
  refine (Given.sign_any a0 w).mono ?_
  rintro e w' ⟨rfl, rfl⟩
  exact ⟨rfl, Drawn0.refl _⟩
def token_Lex.f (a0 : ByteArray) : Option (List S30 × Int × Int) := some (Given.lexL a0)
theorem reps30_on (w : World) (base : Nat) (ok : Nat → Prop) : ∀ (l p : List S30) (cs : List Value), Reps (k30.M w base ok) 3 p cs → Reps (k30.M w base ok) 3 (p ++ l) (cs ++ l.flatMap Given.cells30)
  | [], p, cs, h => by simpa using h
  | x :: l, p, cs, h => by
    have := reps30_on w base ok l (p ++ [x]) (cs ++ Given.cells30 x) (h.snoc (k30_mkM w base ok x) rfl)
    simpa [List.append_assoc] using this
theorem reps30 (w : World) (base : Nat) (ok : Nat → Prop) (l : List S30) : Reps (k30.M w base ok) 3 l (l.flatMap Given.cells30) := by
  simpa using reps30_on w base ok l [] [] (Reps.none _ _)
theorem token_Lex.calls (a0 : ByteArray) (r1 : List (S30)) (r2 : Int) (r3 : Int) (w : World) (h : token_Lex.f a0 = some (r1, r2, r3)) :
    Calls Try.prog 10 #[.string a0] w fun e w' => ∃ v0_ : Value, e = .returned (.tuple #[v0_, .int .i64 r2, .int .i64 r3]) ∧ Kd.R k30 30 w' w.heap.size (fun _ => True) v0_ r1 ∧ Below w.heap.size w w' := by
  injection h with h
  refine (Given.lex_any a0 w).mono ?_
  rw [h]
  rintro e w' ⟨v, rfl, ho, hb⟩
  exact ⟨v, rfl, ⟨fun _ _ => trivial, _, ho, reps30 _ _ _ _⟩, hb⟩
def token_Join.f (l0 : List (S30)) : Option (ByteArray) := if l0.length ≤ 4398046511104 ∧ (Lib.join (l0.map fun x => x.f1.data.toList) [32]).length ≤ 140737488355328 then some (Given.joinB l0) else none
theorem token_Join.calls (A0 : Option Addr) (c0 : Nat) (l0 : List (S30)) (r : ByteArray) (w : World) (hr0 : Kd.C k30 w A0 l0.length l0) (hc0 : l0.length ≤ c0) (h : token_Join.f l0 = some r) :
    Calls Try.prog 19 #[.slice A0 l0.length c0] w fun e w' => e = .returned (.string r) ∧ Below w.heap.size w w' := by
  unfold token_Join.f at h
  split at h
  · rename_i hs
    injection h with h
    subst h
    exact Given.join_any A0 c0 l0 w hr0 hc0 hs.1 hs.2
  · cases h
end Go.Proofs.Ytpjoajoacakpgaa.Q
