/- Texts of this work, joined: PaV, SyF19, SyF8, PaW, SyF13, PaX, SyF54, SyF70, SyF55, SyF56, SyF41, SyF57, SyF59, SyF58, SyF60, SyF61, SyF42, SyF17, SyF7, PaS, SyF6, PaJ. -/
import Derived.Test.YthlhmoocgjddpaaSyNParseJoinsUptod
set_option linter.unusedVariables false
set_option linter.unusedSimpArgs false
namespace Go.Proofs.Ythlhmoocgjddpaa.Sy
open Go Go.RowKit Go.Proofs.YthlhmoocgjddpaaW.PrintWords
/-! #### Sizes -/
def psz (l : List ByteArray) : Nat := (l.map fun b => b.size + 1).sum
theorem psz_app (a b : List ByteArray) : psz (a ++ b) = psz a + psz b := by simp [psz]
theorem psz_len (a : List ByteArray) : a.length ≤ psz a := by
  induction a with
  | nil => simp
  | cons x r ih => simp [psz] at ih ⊢; omega
theorem psz_wl (l : List ByteArray) : psz (wl l) ≤ psz l := by
  induction l with
  | nil => simp [wl, psz]
  | cons b l ih =>
    have : wl (b :: l) = ws b ++ wl l := by simp [wl]
    rw [this, psz_app]
    have h2 : psz (b :: l) = b.size + 1 + psz l := by simp [psz]
    have h3 : psz (ws b) ≤ b.size + 1 := by unfold ws; split <;> simp [psz]
    omega
theorem psz_one (b : ByteArray) : psz [b] = b.size + 1 := by simp [psz]
theorem psz_cons (b : ByteArray) (l : List ByteArray) : psz (b :: l) = b.size + 1 + psz l := by simp [psz]
theorem psz_nil : psz [] = 0 := rfl
section
variable {p : S24 → List ByteArray} {c : S24 → Nat} {x : S24}
theorem psz_lsp {sep : ByteArray} (hs : sep.size ≤ 1) : ∀ {ys : List S24}, (∀ y ∈ ys, psz (p y) + 8 ≤ c y) → psz (lsp sep p ys) ≤ sm c ys := by
  intro ys
  induction ys with
  | nil => intro _; simp [lsp, psz]
  | cons y r ih =>
    intro h
    have h1 := h y List.mem_cons_self
    have ih := ih (fun z hz => h z (List.mem_cons_of_mem _ hz))
    cases r with
    | nil => simp [lsp, sm]; omega
    | cons z r =>
      have h2 := psz_wl [sep]
      rw [psz_one] at h2
      simp only [lsp, psz_app, sm, List.map_cons, List.sum_cons] at ih ⊢
      omega
theorem psz_kd0 (h : ∀ y ∈ x.f3, psz (p y) + 8 ≤ c y) : psz (kd p x 0) + psz (kd p x 1) ≤ sm c x.f3 := by
  obtain ⟨f0, f1, f2, ks⟩ := x
  rcases ks with _ | ⟨y, _ | ⟨z, r⟩⟩
  · simp [kd, psz]
  · have := h y (by simp); simp [kd, sm, psz_nil]; omega
  · have := h y (by simp); have := h z (by simp); simp [kd, sm]; omega
theorem psz_kd2 (h : ∀ y ∈ x.f3, psz (p y) + 8 ≤ c y) : sm c (x.f3.take 2) + psz (kd p x 2) ≤ sm c x.f3 := by
  obtain ⟨f0, f1, f2, ks⟩ := x
  rcases ks with _ | ⟨y, _ | ⟨z, _ | ⟨u, r⟩⟩⟩
  · simp [kd, psz]
  · simp [kd, psz_nil]
  · simp [kd, psz_nil]
  · have := h u (by simp); simp [kd, sm]; omega
theorem psz_aro (a : ByteArray) (y l : List ByteArray) : psz (aro a y l) ≤ a.size + 1 + psz y + psz l := by
  have h1 := psz_wl [a]
  have h2 := psz_wl l
  rw [psz_one] at h1
  simp only [aro, psz_app]; omega
theorem join_len (l : List (List UInt8)) : (Lib.join l [32]).length ≤ (l.map fun b => b.length + 1).sum := by
  unfold Lib.join
  induction l with
  | nil => simp [List.intercalate]
  | cons x r ih =>
    cases r with
    | nil => simp [List.intercalate]
    | cons y r =>
      simp [List.intercalate, List.intersperse] at ih ⊢
      omega
theorem jb_size (l : List ByteArray) : (jb l).size ≤ psz l := by
  have h := join_len (l.map (·.data.toList))
  have h1 : (jb l).size = (Lib.join (l.map (·.data.toList)) [32]).length := by simp [jb, ByteArray.size]
  rw [h1]
  refine Nat.le_trans h (Nat.le_of_eq ?_)
  unfold psz
  rw [List.map_map]
  rfl
theorem bsz (l : List UInt8) : (⟨l.toArray⟩ : ByteArray).size = l.length := by simp [ByteArray.size]
theorem bsd (b : ByteArray) : b.data.toList.length = b.size := rfl
theorem pg_size (l : List ByteArray) : (pg l).size = psz l := by
  induction l with
  | nil => rfl
  | cons t r ih =>
    rw [psz_cons, ← ih]
    show (⟨(t.data.toList ++ 10 :: (pg r).data.toList).toArray⟩ : ByteArray).size = _
    rw [bsz, List.length_append, List.length_cons, bsd, bsd]; omega
theorem pgm_size (h : ∀ y ∈ x.f3, psz (p y) + 8 ≤ c y) : psz (x.f3.map fun y => jb (p y)) ≤ sm c x.f3 := by
  generalize x.f3 = ks at h
  induction ks with
  | nil => simp [psz]
  | cons y r ih =>
    have h1 := h y List.mem_cons_self
    have h2 := jb_size (p y)
    have := ih (fun z hz => h z (List.mem_cons_of_mem _ hz))
    have e1 : psz ((y :: r).map fun y => jb (p y)) = (jb (p y)).size + 1 + psz (r.map fun y => jb (p y)) := by rw [List.map_cons, psz_cons]
    have e2 : sm c (y :: r) = c y + sm c r := by simp [sm]
    omega
theorem tyP_s (h : ∀ y ∈ x.f3, psz (p y) + 8 ≤ c y) : psz (tyP p x) ≤ 40 + x.f1.size + sm c x.f3 := by
  have k0 := psz_kd0 h
  have k2 := psz_kd2 h
  have l0 : ∀ sep : ByteArray, sep.size ≤ 1 → psz (lsp sep p x.f3) ≤ sm c x.f3 := fun sep hs => psz_lsp hs h
  have lt : ∀ (sep : ByteArray) (i : Nat), sep.size ≤ 1 → psz (lsp sep p (x.f3.take i)) ≤ sm c (x.f3.take i) := fun sep i hs => psz_lsp hs fun y hy => h y (List.mem_of_mem_take hy)
  have s1 := sm_take c x.f3 1
  have s2 := sm_take c x.f3 2
  unfold tyP
  split
  · have q1 := psz_wl [(⟨#[105, 110, 116]⟩ : ByteArray)]
    simp only [psz_cons, psz_nil] at q1
    have z0 : (⟨#[105, 110, 116]⟩ : ByteArray).size = 3 := rfl
    omega
  split
  · have q1 := psz_aro (⟨#[42]⟩ : ByteArray) (kd p x 0) []
    simp only [psz_cons, psz_nil] at q1
    have z0 : (⟨#[42]⟩ : ByteArray).size = 1 := rfl
    omega
  split
  · have q1 := psz_wl [(⟨#[91]⟩ : ByteArray), x.f1]
    simp only [psz_cons, psz_nil] at q1
    have q2 := psz_aro (⟨#[93]⟩ : ByteArray) (kd p x 0) []
    simp only [psz_cons, psz_nil] at q2
    have z0 : (⟨#[91]⟩ : ByteArray).size = 1 := rfl
    have z1 : (⟨#[93]⟩ : ByteArray).size = 1 := rfl
    simp only [psz_app]
    omega
  split
  · have q1 := psz_wl [(⟨#[40]⟩ : ByteArray)]
    simp only [psz_cons, psz_nil] at q1
    have q2 := l0 (⟨#[44]⟩ : ByteArray) (by decide)
    have q3 := psz_wl [(⟨#[41]⟩ : ByteArray)]
    simp only [psz_cons, psz_nil] at q3
    have z0 : (⟨#[40]⟩ : ByteArray).size = 1 := rfl
    have z1 : (⟨#[41]⟩ : ByteArray).size = 1 := rfl
    simp only [psz_app]
    omega
  rw [psz_nil]; omega
theorem stP_s (h : ∀ y ∈ x.f3, psz (p y) + 8 ≤ c y) : psz (stP p x) ≤ 40 + x.f1.size + sm c x.f3 := by
  have k0 := psz_kd0 h
  have k2 := psz_kd2 h
  have l0 : ∀ sep : ByteArray, sep.size ≤ 1 → psz (lsp sep p x.f3) ≤ sm c x.f3 := fun sep hs => psz_lsp hs h
  have lt : ∀ (sep : ByteArray) (i : Nat), sep.size ≤ 1 → psz (lsp sep p (x.f3.take i)) ≤ sm c (x.f3.take i) := fun sep i hs => psz_lsp hs fun y hy => h y (List.mem_of_mem_take hy)
  have s1 := sm_take c x.f3 1
  have s2 := sm_take c x.f3 2
  unfold stP
  split
  · have q1 := psz_wl [(⟨#[123]⟩ : ByteArray)]
    simp only [psz_cons, psz_nil] at q1
    have q2 := l0 (⟨#[]⟩ : ByteArray) (by decide)
    have q3 := psz_wl [(⟨#[125]⟩ : ByteArray)]
    simp only [psz_cons, psz_nil] at q3
    have z0 : (⟨#[123]⟩ : ByteArray).size = 1 := rfl
    have z1 : (⟨#[125]⟩ : ByteArray).size = 1 := rfl
    simp only [psz_app]
    omega
  split
  · have q1 := psz_wl [(⟨#[118, 97, 114]⟩ : ByteArray)]
    simp only [psz_cons, psz_nil] at q1
    have q2 := psz_aro x.f1 (kd p x 0) [(⟨#[59]⟩ : ByteArray)]
    simp only [psz_cons, psz_nil] at q2
    have z0 : (⟨#[59]⟩ : ByteArray).size = 1 := rfl
    have z1 : (⟨#[118, 97, 114]⟩ : ByteArray).size = 3 := rfl
    simp only [psz_app]
    omega
  split
  · have q1 := psz_aro (⟨#[]⟩ : ByteArray) (kd p x 0) [(⟨#[61]⟩ : ByteArray)]
    simp only [psz_cons, psz_nil] at q1
    have q2 := psz_aro (⟨#[]⟩ : ByteArray) (kd p x 1) [(⟨#[59]⟩ : ByteArray)]
    simp only [psz_cons, psz_nil] at q2
    have z0 : (⟨#[]⟩ : ByteArray).size = 0 := rfl
    have z1 : (⟨#[59]⟩ : ByteArray).size = 1 := rfl
    have z2 : (⟨#[61]⟩ : ByteArray).size = 1 := rfl
    simp only [psz_app]
    omega
  split
  · have q1 := psz_wl [(⟨#[105, 102]⟩ : ByteArray)]
    simp only [psz_cons, psz_nil] at q1
    have q2 := lt (⟨#[]⟩ : ByteArray) 2 (by decide)
    have q9 := psz_aro (⟨#[101, 108, 115, 101]⟩ : ByteArray) (kd p x 2) []
    rw [psz_nil] at q9
    have z0 : (⟨#[101, 108, 115, 101]⟩ : ByteArray).size = 4 := rfl
    have z1 : (⟨#[105, 102]⟩ : ByteArray).size = 2 := rfl
    simp only [psz_app]
    split
    · omega
    · rw [psz_nil]; omega
  split
  · have q1 := psz_wl [(⟨#[102, 111, 114]⟩ : ByteArray)]
    simp only [psz_cons, psz_nil] at q1
    have q2 := lt (⟨#[]⟩ : ByteArray) 2 (by decide)
    have z0 : (⟨#[102, 111, 114]⟩ : ByteArray).size = 3 := rfl
    simp only [psz_app]
    omega
  split
  · have q1 := psz_wl [(⟨#[114, 101, 116, 117, 114, 110]⟩ : ByteArray)]
    simp only [psz_cons, psz_nil] at q1
    have q2 := lt (⟨#[]⟩ : ByteArray) 1 (by decide)
    have q3 := psz_wl [(⟨#[59]⟩ : ByteArray)]
    simp only [psz_cons, psz_nil] at q3
    have z0 : (⟨#[59]⟩ : ByteArray).size = 1 := rfl
    have z1 : (⟨#[114, 101, 116, 117, 114, 110]⟩ : ByteArray).size = 6 := rfl
    simp only [psz_app]
    omega
  split
  · have q1 := psz_aro (⟨#[112, 114, 105, 110, 116]⟩ : ByteArray) (kd p x 0) [(⟨#[59]⟩ : ByteArray)]
    simp only [psz_cons, psz_nil] at q1
    have z0 : (⟨#[59]⟩ : ByteArray).size = 1 := rfl
    have z1 : (⟨#[112, 114, 105, 110, 116]⟩ : ByteArray).size = 5 := rfl
    omega
  split
  · have q1 := psz_aro (⟨#[]⟩ : ByteArray) (kd p x 0) [(⟨#[59]⟩ : ByteArray)]
    simp only [psz_cons, psz_nil] at q1
    have z0 : (⟨#[]⟩ : ByteArray).size = 0 := rfl
    have z1 : (⟨#[59]⟩ : ByteArray).size = 1 := rfl
    omega
  rw [psz_nil]; omega
theorem exP_s (h : ∀ y ∈ x.f3, psz (p y) + 8 ≤ c y) : psz (exP p x) ≤ 40 + x.f1.size + sm c x.f3 := by
  have k0 := psz_kd0 h
  have k2 := psz_kd2 h
  have l0 : ∀ sep : ByteArray, sep.size ≤ 1 → psz (lsp sep p x.f3) ≤ sm c x.f3 := fun sep hs => psz_lsp hs h
  have lt : ∀ (sep : ByteArray) (i : Nat), sep.size ≤ 1 → psz (lsp sep p (x.f3.take i)) ≤ sm c (x.f3.take i) := fun sep i hs => psz_lsp hs fun y hy => h y (List.mem_of_mem_take hy)
  have s1 := sm_take c x.f3 1
  have s2 := sm_take c x.f3 2
  unfold exP
  split
  · have q1 := psz_wl [x.f1]
    simp only [psz_cons, psz_nil] at q1
    omega
  split
  · have q1 := psz_aro (⟨#[40]⟩ : ByteArray) (kd p x 0) [x.f1]
    simp only [psz_cons, psz_nil] at q1
    have q2 := psz_aro (⟨#[]⟩ : ByteArray) (kd p x 1) [(⟨#[41]⟩ : ByteArray)]
    simp only [psz_cons, psz_nil] at q2
    have z0 : (⟨#[]⟩ : ByteArray).size = 0 := rfl
    have z1 : (⟨#[40]⟩ : ByteArray).size = 1 := rfl
    have z2 : (⟨#[41]⟩ : ByteArray).size = 1 := rfl
    simp only [psz_app]
    omega
  split
  · have q1 := psz_wl [(⟨#[40]⟩ : ByteArray)]
    simp only [psz_cons, psz_nil] at q1
    have q2 := psz_aro (⟨#[45]⟩ : ByteArray) (kd p x 0) [(⟨#[41]⟩ : ByteArray)]
    simp only [psz_cons, psz_nil] at q2
    have z0 : (⟨#[40]⟩ : ByteArray).size = 1 := rfl
    have z1 : (⟨#[41]⟩ : ByteArray).size = 1 := rfl
    have z2 : (⟨#[45]⟩ : ByteArray).size = 1 := rfl
    simp only [psz_app]
    omega
  split
  · have q1 := psz_wl [(⟨#[40]⟩ : ByteArray)]
    simp only [psz_cons, psz_nil] at q1
    have q2 := psz_aro (⟨#[42]⟩ : ByteArray) (kd p x 0) [(⟨#[41]⟩ : ByteArray)]
    simp only [psz_cons, psz_nil] at q2
    have z0 : (⟨#[40]⟩ : ByteArray).size = 1 := rfl
    have z1 : (⟨#[41]⟩ : ByteArray).size = 1 := rfl
    have z2 : (⟨#[42]⟩ : ByteArray).size = 1 := rfl
    simp only [psz_app]
    omega
  split
  · have q1 := psz_wl [(⟨#[40]⟩ : ByteArray)]
    simp only [psz_cons, psz_nil] at q1
    have q2 := psz_aro (⟨#[38]⟩ : ByteArray) (kd p x 0) [(⟨#[41]⟩ : ByteArray)]
    simp only [psz_cons, psz_nil] at q2
    have z0 : (⟨#[38]⟩ : ByteArray).size = 1 := rfl
    have z1 : (⟨#[40]⟩ : ByteArray).size = 1 := rfl
    have z2 : (⟨#[41]⟩ : ByteArray).size = 1 := rfl
    simp only [psz_app]
    omega
  split
  · have q1 := psz_aro (⟨#[]⟩ : ByteArray) (kd p x 0) [(⟨#[91]⟩ : ByteArray)]
    simp only [psz_cons, psz_nil] at q1
    have q2 := psz_aro (⟨#[]⟩ : ByteArray) (kd p x 1) [(⟨#[93]⟩ : ByteArray)]
    simp only [psz_cons, psz_nil] at q2
    have z0 : (⟨#[]⟩ : ByteArray).size = 0 := rfl
    have z1 : (⟨#[91]⟩ : ByteArray).size = 1 := rfl
    have z2 : (⟨#[93]⟩ : ByteArray).size = 1 := rfl
    simp only [psz_app]
    omega
  split
  · have q1 := psz_aro (⟨#[]⟩ : ByteArray) (kd p x 0) [(⟨#[46]⟩ : ByteArray), x.f1]
    simp only [psz_cons, psz_nil] at q1
    have z0 : (⟨#[]⟩ : ByteArray).size = 0 := rfl
    have z1 : (⟨#[46]⟩ : ByteArray).size = 1 := rfl
    omega
  split
  · have q1 := psz_wl [x.f1, (⟨#[40]⟩ : ByteArray)]
    simp only [psz_cons, psz_nil] at q1
    have q2 := l0 (⟨#[44]⟩ : ByteArray) (by decide)
    have q3 := psz_wl [(⟨#[41]⟩ : ByteArray)]
    simp only [psz_cons, psz_nil] at q3
    have z0 : (⟨#[40]⟩ : ByteArray).size = 1 := rfl
    have z1 : (⟨#[41]⟩ : ByteArray).size = 1 := rfl
    simp only [psz_app]
    omega
  split
  · have q1 := psz_wl [(⟨#[110, 101, 119]⟩ : ByteArray), (⟨#[40]⟩ : ByteArray)]
    simp only [psz_cons, psz_nil] at q1
    have q2 := psz_aro (⟨#[]⟩ : ByteArray) (kd p x 0) [(⟨#[41]⟩ : ByteArray)]
    simp only [psz_cons, psz_nil] at q2
    have z0 : (⟨#[]⟩ : ByteArray).size = 0 := rfl
    have z1 : (⟨#[40]⟩ : ByteArray).size = 1 := rfl
    have z2 : (⟨#[41]⟩ : ByteArray).size = 1 := rfl
    have z3 : (⟨#[110, 101, 119]⟩ : ByteArray).size = 3 := rfl
    simp only [psz_app]
    omega
  split
  · have q1 := psz_wl [(⟨#[114, 101, 97, 100]⟩ : ByteArray)]
    simp only [psz_cons, psz_nil] at q1
    have z0 : (⟨#[114, 101, 97, 100]⟩ : ByteArray).size = 4 := rfl
    omega
  rw [psz_nil]; omega
theorem ndP_size (h : ∀ y ∈ x.f3, psz (p y) + 8 ≤ c y) : psz (ndP p x) + 8 ≤ 64 + x.f1.size + sm c x.f3 := by
  have k0 := psz_kd0 h
  have k2 := psz_kd2 h
  have l0 : ∀ sep : ByteArray, sep.size ≤ 1 → psz (lsp sep p x.f3) ≤ sm c x.f3 := fun sep hs => psz_lsp hs h
  have lt : ∀ (sep : ByteArray) (i : Nat), sep.size ≤ 1 → psz (lsp sep p (x.f3.take i)) ≤ sm c (x.f3.take i) := fun sep i hs => psz_lsp hs fun y hy => h y (List.mem_of_mem_take hy)
  have ld : ∀ (sep : ByteArray) (i : Nat), sep.size ≤ 1 → psz (lsp sep p (x.f3.drop i)) ≤ sm c (x.f3.drop i) := fun sep i hs => psz_lsp hs fun y hy => h y (List.mem_of_mem_drop hy)
  have st := sm_take c x.f3
  have s1 := st 1
  have s2 := st 2
  have pg1 := pgm_size h
  unfold ndP
  split
  · have := psz_wl [(⟨#[63]⟩ : ByteArray)]
    simp only [psz_one] at this
    have e : (⟨#[63]⟩ : ByteArray).size = 1 := rfl
    omega
  split
  · have := psz_wl [pg (x.f3.map fun y => jb (p y))]
    rw [psz_one, pg_size] at this
    omega
  split
  · have a1 := psz_wl [(⟨#[102, 117, 110, 99]⟩ : ByteArray), x.f1, (⟨#[40]⟩ : ByteArray)]
    have a2 := psz_wl [(⟨#[41]⟩ : ByteArray)]
    have a3 := lt (⟨#[44]⟩ : ByteArray) (x.f3.length - 2) (by decide)
    have a4 := ld (⟨#[]⟩ : ByteArray) (x.f3.length - 2) (by decide)
    have a5 := st (x.f3.length - 2)
    simp only [psz_cons, psz_nil] at a1 a2
    simp only [psz_app]
    have e1 : (⟨#[102, 117, 110, 99]⟩ : ByteArray).size = 4 := rfl
    have e2 : (⟨#[40]⟩ : ByteArray).size = 1 := rfl
    have e3 : (⟨#[41]⟩ : ByteArray).size = 1 := rfl
    omega
  split
  · have := psz_aro x.f1 (kd p x 0) []
    rw [psz_nil] at this
    omega
  have q1 := tyP_s h
  have q2 := stP_s h
  have q3 := exP_s h
  split
  · omega
  split
  · omega
  · omega
theorem head_g' {r1 : N1} {r2 r3 : N2} {r4 : N4} {r5 r6 r7 : N2} {r8 : N8} (hL : LisOk r8 p c x.f3) (hN : ∀ y ∈ x.f3, (p y).length + 4 ≤ c y) (hk : 2 ≤ x.f3.length) {acc : List ByteArray} (ha : acc.length + 64 + sm c x.f3 + x.f3.length ≤ MX) :
    parse_writer_head.g r1 r2 r3 r4 r5 r6 r7 r8 acc x = some (acc ++ (wl [(⟨#[102, 117, 110, 99]⟩ : ByteArray), x.f1, (⟨#[40]⟩ : ByteArray)] ++ (lsp (⟨#[44]⟩ : ByteArray) p (x.f3.take (x.f3.length - 2)) ++ (wl [(⟨#[41]⟩ : ByteArray)] ++ lsp (⟨#[]⟩ : ByteArray) p (x.f3.drop (x.f3.length - 2)))))) := by
  have q1 := wl_len [(⟨#[102, 117, 110, 99]⟩ : ByteArray), x.f1, (⟨#[40]⟩ : ByteArray)]
  have q2 := wl_len [(⟨#[41]⟩ : ByteArray)]
  simp only [List.length_cons, List.length_nil] at q1 q2
  have q3 : (lsp (⟨#[44]⟩ : ByteArray) p (x.f3.take (x.f3.length - 2))).length ≤ sm c (x.f3.take (x.f3.length - 2)) := lsp_len (fun y h => hN y (List.mem_of_mem_take h))
  have q4 := sm_take c x.f3 (x.f3.length - 2)
  have q5 : (x.f3.take (x.f3.length - 2)).length ≤ x.f3.length := by rw [List.length_take]; omega
  have q6 : (x.f3.drop (x.f3.length - 2)).length ≤ x.f3.length := by rw [List.length_drop]; omega
  have q7 : (x.f3.take (x.f3.length - 2)).length + (x.f3.drop (x.f3.length - 2)).length = x.f3.length := by rw [← List.length_append, List.take_append_drop]
  have hm : x.f3.length ≤ MX := by omega
  have e1 : IntKind.i64.wrap ((x.f3.length : Int) - 2) = ((x.f3.length - 2 : Nat) : Int) := by rw [wt (by omega) (by unfold MX at hm; omega)]; omega
  have c1 : cut? x.f3 (0 : Int) ((x.f3.length - 2 : Nat) : Int) = some (x.f3.take (x.f3.length - 2)) := by
    unfold cut?; rw [if_pos ⟨by omega, by omega, by omega⟩]; rfl
  have c2 : cut? x.f3 ((x.f3.length - 2 : Nat) : Int) (x.f3.length : Int) = some (x.f3.drop (x.f3.length - 2)) := by
    unfold cut?; rw [if_pos ⟨by omega, by omega, by omega⟩]
    congr 2
    exact List.take_of_length_le (by omega)
  unfold parse_writer_head.g
  rw [put_f (by lenT), Option.bind_some, e1, c1, Option.bind_some, hL _ _ _ (fun y h => List.mem_of_mem_take h) (by lenT), Option.bind_some, put_f (by lenT), Option.bind_some, c2, Option.bind_some,
    hL _ _ _ (fun y h => List.mem_of_mem_drop h) (by lenT), Option.bind_some]
  simp only [List.append_assoc]
theorem node_g' {r1 : N1} {r2 r3 : N2} {r4 : N4} {r5 r6 r7 : N2} {r8 : N8} (hA : AroOk r4 p c x.f3) (hN : ∀ y ∈ x.f3, (p y).length + 4 ≤ c y)
    (hT : x.f0 = 1 → r1 x = some (pg (x.f3.map fun y => jb (p y))))
    (hH : 2 ≤ x.f3.length → ∀ acc : List ByteArray, acc.length + 64 + sm c x.f3 + x.f3.length ≤ MX → r3 acc x = some (acc ++ (wl [(⟨#[102, 117, 110, 99]⟩ : ByteArray), x.f1, (⟨#[40]⟩ : ByteArray)] ++ (lsp (⟨#[44]⟩ : ByteArray) p (x.f3.take (x.f3.length - 2)) ++ (wl [(⟨#[41]⟩ : ByteArray)] ++ lsp (⟨#[]⟩ : ByteArray) p (x.f3.drop (x.f3.length - 2)))))))
    (h5 : lst x.f0 ≤ x.f3.length → ∀ acc : List ByteArray, acc.length + 64 + sm c x.f3 + x.f3.length ≤ MX → r5 acc x = some (acc ++ tyP p x))
    (h6 : lst x.f0 ≤ x.f3.length → ∀ acc : List ByteArray, acc.length + 64 + sm c x.f3 + x.f3.length ≤ MX → r6 acc x = some (acc ++ stP p x))
    (h7 : lst x.f0 ≤ x.f3.length → ∀ acc : List ByteArray, acc.length + 64 + sm c x.f3 + x.f3.length ≤ MX → r7 acc x = some (acc ++ exP p x))
    {acc : List ByteArray} (ha : acc.length + 64 + sm c x.f3 + x.f3.length ≤ MX) :
    parse_writer_node.g r1 r2 r3 r4 r5 r6 r7 r8 acc x = some (acc ++ ndP p x) := by
  unfold parse_writer_node.g ndP
  rw [least_f, Option.bind_some]
  dsimp only [jn]
  by_cases hb : lst x.f0 < 0 ∨ (x.f3.length : Int) < lst x.f0
  · rw [if_pos hb]
    by_cases h : lst x.f0 < 0
    · rw [if_pos h, if_pos rfl, put_f (by simp; omega)]; rfl
    · rw [if_neg h, if_pos (decide_eq_true (hb.resolve_left h)), put_f (by simp; omega)]; rfl
  · have hl : lst x.f0 ≤ x.f3.length := by omega
    rw [if_neg hb, if_neg (by omega : ¬ lst x.f0 < 0), if_neg (by simp; omega)]
    by_cases h1 : x.f0 = 1
    · rw [if_pos h1, if_pos h1, hT h1, Option.bind_some, put_f (by simp; omega)]; rfl
    rw [if_neg h1, if_neg h1]
    by_cases h2 : x.f0 = 2
    · have : 2 ≤ x.f3.length := by
        rw [h2, show lst 2 = 2 from by decide] at hl; omega
      rw [if_pos h2, if_pos h2, hH this acc ha]; rfl
    rw [if_neg h2, if_neg h2]
    by_cases h3 : x.f0 = 3
    · have : 1 ≤ x.f3.length := by
        rw [h3, show lst 3 = 1 from by decide] at hl; omega
      obtain ⟨y0, m0, a0, e0, b0⟩ := kid0 (p := p) (c := c) (x := x) this
      rw [if_pos h3, if_pos h3, a0, Option.bind_some, hA y0 m0 _ _ _ (by simp; omega), e0]; rfl
    rw [if_neg h3, if_neg h3]
    by_cases h9 : x.f0 < 9
    · rw [if_pos h9, if_pos h9, h5 hl acc ha]; rfl
    rw [if_neg h9, if_neg h9]
    by_cases h17 : x.f0 < 17
    · rw [if_pos h17, if_pos h17, h6 hl acc ha]; rfl
    rw [if_neg h17, if_neg h17, h7 hl acc ha]; rfl
theorem join_f {l : List ByteArray} (h : psz l ≤ MX) : strings_Join.f l (⟨#[32]⟩ : ByteArray) = some (jb l) := by
  have h1 := psz_len l
  have h2 := join_len (l.map (·.data.toList))
  have h3 : ((l.map (·.data.toList)).map fun b => b.length + 1).sum = psz l := by
    unfold psz; rw [List.map_map]; rfl
  unfold strings_Join.f
  rw [if_pos ⟨by unfold MX at h; omega, by
    show (Lib.join (l.map (·.data.toList)) [32]).length ≤ _
    unfold MX at h; omega⟩]
  rfl
theorem prog_g {r1 : N1} {r2 r3 : N2} {r4 : N4} {r5 r6 r7 : N2} {r8 : N8} (h1 : x.f0 = 1) (hN : ∀ y ∈ x.f3, psz (p y) + 8 ≤ c y ∧ r1 y = some (jb (p y))) (hs : sm c x.f3 + x.f3.length ≤ MX) :
    parse_Text.g r1 r2 r3 r4 r5 r6 r7 r8 x = some (pg (x.f3.map fun y => jb (p y))) := by
  have loop : ∀ (ys : List S24) (n i : Nat) (acc : ByteArray), x.f3.drop i = ys → ys.length < n → (∀ y ∈ ys, psz (p y) + 8 ≤ c y ∧ r1 y = some (jb (p y))) → acc.size + sm c ys ≤ MX → i + ys.length ≤ MX →
      parse_Text.l0 r1 x n i acc = some (cat acc (pg (ys.map fun y => jb (p y)))) := by
    intro ys
    induction ys with
    | nil =>
      intro n i acc hd hn _ _ _
      obtain ⟨n, rfl⟩ : ∃ m, n = m + 1 := ⟨n - 1, by simp at hn; omega⟩
      rw [parse_Text.l0, if_neg ((drop_cases hd).1 rfl)]
      simp [cat, pg]
    | cons y ys ih =>
      intro n i acc hd hn hN ha hi
      obtain ⟨n, rfl⟩ : ∃ m, n = m + 1 := ⟨n - 1, by simp at hn; omega⟩
      obtain ⟨g1, g2, g3⟩ := (drop_cases hd).2 y ys rfl
      simp only [List.length_cons] at hn hi
      have e2 : sm c (y :: ys) = c y + sm c ys := by simp [sm]
      have e1 : IntKind.i64.wrap ((i : Int) + 1) = ((i + 1 : Nat) : Int) := by rw [wt (by omega) (by unfold MX at hi; omega)]; omega
      obtain ⟨k1, k2⟩ := hN y List.mem_cons_self
      have k3 := jb_size (p y)
      have cs : ∀ a b : ByteArray, (cat a b).size = a.size + b.size := fun a b => by rw [cat, bsz, List.length_append, bsd, bsd]
      have e3 : (⟨#[10]⟩ : ByteArray).size = 1 := rfl
      rw [parse_Text.l0, if_pos g1, g2, Option.bind_some, k2, Option.bind_some, if_pos (by unfold MX at ha; omega), if_pos (by rw [cs]; unfold MX at ha; omega), e1,
        ih n (i + 1) _ g3 (by omega) (fun z hz => hN z (List.mem_cons_of_mem _ hz)) (by rw [cs, cs]; omega) (by omega)]
      simp [cat, pg]
  have h2 := loop x.f3 (x.f3.length + 1) 0 ⟨#[]⟩ rfl (by omega) hN (by have : (⟨#[]⟩ : ByteArray).size = 0 := rfl
                                                                       omega) (by omega)
  rw [show ((0 : Nat) : Int) = 0 from rfl] at h2
  unfold parse_Text.g
  rw [if_neg (by simp [h1]), h2, Option.bind_some]
  simp [cat]
end
theorem join_one (t : ByteArray) : jb (wl [t]) = t := by
  have : wl [t] = ws t := by simp [wl]
  rw [this]
  unfold ws jb
  by_cases h : t.data.toList = []
  · rw [if_pos h]
    have : t.data = #[] := by simpa using h
    show (⟨#[]⟩ : ByteArray) = t
    rw [← this]
  · rw [if_neg h]
    simp [Lib.join, List.intercalate]
def cs : Nat → S24 → Nat
  | 0, _ => 8
  | k + 1, x => 64 + x.f1.size + x.f3.length + sm (cs k) x.f3
theorem pt_size : ∀ (k : Nat) (x : S24), psz (pt k x) + 8 ≤ cs k x := by
  intro k
  induction k with
  | zero => intro x; simp [pt, psz, cs]
  | succ k ih =>
    intro x
    have := ndP_size (p := pt k) (c := cs k) (x := x) (fun y _ => ih y)
    simp only [pt, cs]; omega
theorem pt_len (k : Nat) (x : S24) : (pt k x).length + 4 ≤ cs k x := by
  have := pt_size k x
  have := psz_len (pt k x)
  omega
theorem sm_mem {c : S24 → Nat} {ks : List S24} {y : S24} (h : y ∈ ks) : c y ≤ sm c ks := by
  induction ks with
  | nil => cases h
  | cons z r ih =>
    have e : sm c (z :: r) = c z + sm c r := by simp [sm]
    rcases List.mem_cons.1 h with rfl | h
    · omega
    · have := ih h; omega
theorem text_fix : ∀ (k : Nat) (x : S24), Dp k x → cs k x ≤ MX →
    (∀ n, 4 * k ≤ n → ∀ acc : List ByteArray, acc.length + cs k x ≤ MX → (parse_Text.fix n).2.1 acc x = some (acc ++ pt k x)) ∧
    (∀ n, 4 * k + 1 ≤ n → (parse_Text.fix n).1 x = some (jb (pt k x))) := by
  intro k
  induction k with
  | zero => intro x h; exact h.elim
  | succ k ih =>
    intro x h hs
    have hs' : 64 + x.f1.size + x.f3.length + sm (cs k) x.f3 ≤ MX := hs
    have ihk : ∀ y ∈ x.f3, cs k y ≤ MX := fun y hy => by have := sm_mem (c := cs k) hy; omega
    have hN : ∀ n, 4 * k ≤ n → NodeOk (parse_Text.fix n).2.1 (pt k) (cs k) x.f3 := fun n hn y hy => ⟨pt_len k y, fun acc ha => (ih y (h.2 y hy) (ihk y hy)).1 n hn acc ha⟩
    have hP : ∀ n, 4 * k + 1 ≤ n → ∀ y ∈ x.f3, psz (pt k y) + 8 ≤ cs k y ∧ (parse_Text.fix n).1 y = some (jb (pt k y)) := fun n hn y hy => ⟨pt_size k y, (ih y (h.2 y hy) (ihk y hy)).2 n hn⟩
    have hl := fun y (_ : y ∈ x.f3) => pt_len k y
    have hnode : ∀ n, 4 * (k + 1) ≤ n → ∀ acc : List ByteArray, acc.length + cs (k + 1) x ≤ MX → (parse_Text.fix n).2.1 acc x = some (acc ++ pt (k + 1) x) := by
      intro n hn acc ha
      obtain ⟨m, rfl⟩ : ∃ m, n = m + 3 := ⟨n - 3, by omega⟩
      have ha' : acc.length + (64 + x.f1.size + x.f3.length + sm (cs k) x.f3) ≤ MX := ha
      have A1 : AroOk (parse_Text.fix (m + 1)).2.2.2.1 (pt k) (cs k) x.f3 := by
        simp only [parse_Text.fix]; exact around_g (hN m (by omega))
      have A2 : AroOk (parse_Text.fix (m + 2)).2.2.2.1 (pt k) (cs k) x.f3 := by
        simp only [parse_Text.fix]; exact around_g (hN (m + 1) (by omega))
      have L1 : LisOk (parse_Text.fix (m + 1)).2.2.2.2.2.2.2 (pt k) (cs k) x.f3 := by
        simp only [parse_Text.fix]; exact list_g (hN m (by omega))
      have e : (parse_Text.fix (m + 3)).2.1 acc x = parse_writer_node.g (parse_Text.fix (m + 2)).1 (parse_Text.fix (m + 2)).2.1 (parse_Text.fix (m + 2)).2.2.1 (parse_Text.fix (m + 2)).2.2.2.1 (parse_Text.fix (m + 2)).2.2.2.2.1 (parse_Text.fix (m + 2)).2.2.2.2.2.1 (parse_Text.fix (m + 2)).2.2.2.2.2.2.1 (parse_Text.fix (m + 2)).2.2.2.2.2.2.2 acc x := rfl
      rw [e]
      refine node_g' (p := pt k) (c := cs k) A2 hl (fun h1 => ?_) (fun hk a hA => ?_) (fun hk a hA => ?_) (fun hk a hA => ?_) (fun hk a hA => ?_) (by omega)
      · exact prog_g (r1 := (parse_Text.fix (m + 1)).1) (r2 := (parse_Text.fix (m + 1)).2.1) (r3 := (parse_Text.fix (m + 1)).2.2.1) (r4 := (parse_Text.fix (m + 1)).2.2.2.1) (r5 := (parse_Text.fix (m + 1)).2.2.2.2.1) (r6 := (parse_Text.fix (m + 1)).2.2.2.2.2.1) (r7 := (parse_Text.fix (m + 1)).2.2.2.2.2.2.1) (r8 := (parse_Text.fix (m + 1)).2.2.2.2.2.2.2) h1 (hP (m + 1) (by omega)) (by omega)
      · exact head_g' (r1 := (parse_Text.fix (m + 1)).1) (r2 := (parse_Text.fix (m + 1)).2.1) (r3 := (parse_Text.fix (m + 1)).2.2.1) (r4 := (parse_Text.fix (m + 1)).2.2.2.1) (r5 := (parse_Text.fix (m + 1)).2.2.2.2.1) (r6 := (parse_Text.fix (m + 1)).2.2.2.2.2.1) (r7 := (parse_Text.fix (m + 1)).2.2.2.2.2.2.1) (r8 := (parse_Text.fix (m + 1)).2.2.2.2.2.2.2) L1 hl hk hA
      · exact (typ_g' (r1 := (parse_Text.fix (m + 1)).1) (r2 := (parse_Text.fix (m + 1)).2.1) (r3 := (parse_Text.fix (m + 1)).2.2.1) (r4 := (parse_Text.fix (m + 1)).2.2.2.1) (r5 := (parse_Text.fix (m + 1)).2.2.2.2.1) (r6 := (parse_Text.fix (m + 1)).2.2.2.2.2.1) (r7 := (parse_Text.fix (m + 1)).2.2.2.2.2.2.1) (r8 := (parse_Text.fix (m + 1)).2.2.2.2.2.2.2) A1 L1 hl hk hA).1
      · exact (statement_g' (r1 := (parse_Text.fix (m + 1)).1) (r2 := (parse_Text.fix (m + 1)).2.1) (r3 := (parse_Text.fix (m + 1)).2.2.1) (r4 := (parse_Text.fix (m + 1)).2.2.2.1) (r5 := (parse_Text.fix (m + 1)).2.2.2.2.1) (r6 := (parse_Text.fix (m + 1)).2.2.2.2.2.1) (r7 := (parse_Text.fix (m + 1)).2.2.2.2.2.2.1) (r8 := (parse_Text.fix (m + 1)).2.2.2.2.2.2.2) A1 L1 hl hk hA).1
      · exact (expr_g' (r1 := (parse_Text.fix (m + 1)).1) (r2 := (parse_Text.fix (m + 1)).2.1) (r3 := (parse_Text.fix (m + 1)).2.2.1) (r4 := (parse_Text.fix (m + 1)).2.2.2.1) (r5 := (parse_Text.fix (m + 1)).2.2.2.2.1) (r6 := (parse_Text.fix (m + 1)).2.2.2.2.2.1) (r7 := (parse_Text.fix (m + 1)).2.2.2.2.2.2.1) (r8 := (parse_Text.fix (m + 1)).2.2.2.2.2.2.2) A1 L1 hl hk hA).1
    refine ⟨hnode, fun n hn => ?_⟩
    obtain ⟨m, rfl⟩ : ∃ m, n = m + 1 := ⟨n - 1, by omega⟩
    by_cases h1 : x.f0 = 1
    · have e := prog_g (r1 := (parse_Text.fix m).1) (r2 := (parse_Text.fix m).2.1) (r3 := (parse_Text.fix m).2.2.1) (r4 := (parse_Text.fix m).2.2.2.1) (r5 := (parse_Text.fix m).2.2.2.2.1) (r6 := (parse_Text.fix m).2.2.2.2.2.1) (r7 := (parse_Text.fix m).2.2.2.2.2.2.1) (r8 := (parse_Text.fix m).2.2.2.2.2.2.2) h1 (hP m (by omega)) (by omega)
      refine Eq.trans e ?_
      have : ¬ (lst x.f0 < 0 ∨ (x.f3.length : Int) < lst x.f0) := by
        rw [h1, show lst 1 = 0 from by decide]; omega
      simp only [pt, ndP]
      rw [if_neg this, if_pos h1]
      rw [join_one]
    · have e := hnode m (by omega) [] (by simpa using hs)
      show parse_Text.g (parse_Text.fix m).1 (parse_Text.fix m).2.1 (parse_Text.fix m).2.2.1 (parse_Text.fix m).2.2.2.1 (parse_Text.fix m).2.2.2.2.1 (parse_Text.fix m).2.2.2.2.2.1 (parse_Text.fix m).2.2.2.2.2.2.1 (parse_Text.fix m).2.2.2.2.2.2.2 x = _
      unfold parse_Text.g
      rw [if_pos (by simp [h1]), e, Option.bind_some, List.nil_append, join_f (by have := pt_size (k + 1) x; omega)]
      rfl
end Go.Proofs.Ythlhmoocgjddpaa.Sy
set_option linter.unusedVariables false
set_option linter.unusedSimpArgs false
set_option maxRecDepth 100000
set_option maxHeartbeats 4000000
namespace Go.Proofs.Ythlhmoocgjddpaa.Sy
open Go Go.RowKit Go.Proofs.YthlhmoocgjddpaaW.PrintWords 
def swagelaw10_count.post (G:Gd)  (r:Int) (v:Value) (G':Gd) (Lr:List Ch):Prop:=G=G'∧v=VI r∧Lr=[]
def swagelaw10_count.l0 (rec19:(S24 → Int → Int → Option Int)) (a0:S24) (a1:Int) (a2:Int):Nat → Int → Int → Option (Sum Int (Int))
 | 0,_,_=>none
 | n144 + 1,x96,x97=>jn (γ:=(Sum Int (Int))) (fun (x192:Bool)=>(if x192=true then (if a2 < 1 then some (.inl (IntKind.i64.wrap (a1 + 1))) else (at? a0.f3 x97).bind fun y215=>(rec19 y215 a1 (IntKind.i64.wrap (a2 - 1))).bind fun (y228:Int)=>swagelaw10_count.l0 rec19 a0 a1 a2 n144 (IntKind.i64.wrap (x96 + y228)) (IntKind.i64.wrap (x97 + 1))) else some (.inr x96))) (fun (j193:(Bool → Option (Sum Int (Int))))=>(if x97 < (a0.f3.length:Int) then j193 (decide (x96 ≤ a1)) else j193 false))
def swagelaw10_count.g (rec19:(S24 → Int → Int → Option Int)) (a0:S24) (a1:Int) (a2:Int):Option Int:=(swagelaw10_count.l0 rec19 a0 a1 a2 (a0.f3.length + 1) 1 0).bind fun | .inl q_=>some q_ | .inr x142=>(some x142)
theorem swagelaw10_count.step (rec19:(S24 → Int → Int → Option Int)) (ih19:∀ {G:Gd} {r:Int} {a0:S24} {a1:Int} {a2:Int} {A1:Option Addr} {c2:Nat} (hr3:Rd G k24 A1 a0.f3) (hl4:a0.f3.length ≤ c2),rec19 a0 a1 a2=some r → Fn Try.prog 19 G [] [.agg #[VI a0.f0,.string a0.f1,VI a0.f2,.slice A1 a0.f3.length c2],VI a1,VI a2] (swagelaw10_count.post G  r)) {G:Gd} {r:Int} {a0:S24} {a1:Int} {a2:Int} {A1:Option Addr} {c2:Nat} (hr3:Rd G k24 A1 a0.f3) (hl4:a0.f3.length ≤ c2) (h:swagelaw10_count.g rec19 a0 a1 a2=some r):Fn Try.prog 19 G [] [.agg #[VI a0.f0,.string a0.f1,VI a0.f2,.slice A1 a0.f3.length c2],VI a1,VI a2] (swagelaw10_count.post G  r):=by
 refine Fn.intro (e:=[(0,.agg #[VI a0.f0,.string a0.f1,VI a0.f2,.slice A1 a0.f3.length c2]),(1,VI a1),(2,VI a2)]) 37 Try.func19 rfl Try.ntmps19 rfl rfl (Nat.le_of_ble_eq_true rfl) (fun L=>?_)
 unfold swagelaw10_count.g at h
 refine TC.seq ?_
 refine TC.region ?_
 refine TL.cons (TL.box (cs:=[VI a0.f0,.string a0.f1,VI a0.f2,.slice A1 a0.f3.length c2]) rfl rfl rfl rfl (fun b5=>?_))
 refine TV rfl rfl rfl (Val.assign rfl) ?_
 refine TL.nil ?_
 refine TQ.then_ ?_
 refine TC.seq ?_
 refine TC.region ?_
 refine TV rfl rfl rfl (Val.assign rfl) ?_
 refine TL.nil ?_
 refine TQ.then_ ?_
 refine TC.seq ?_
 refine TC.seq ?_
 refine TC.region ?_
 refine TV rfl rfl rfl (Val.assign rfl) ?_
 refine TL.nil ?_
 refine TQ.then_ ?_
 obtain ⟨o143,ho143,ko143⟩:=bind_no h
 clear h
 refine TC.tail (fun a W=>∃ (x142:Int),(.inr x142)=o143∧Fr 37 a [(7,VI x142)]∧Own G (L) W) ?_ ?_
 ·
  rintro a W ⟨x142,rfl,hF,hO⟩
  have h:=ko143
  clear ko143 ho143
  refine TQ.use ?_ hF hO
  clear hF hO
  refine TQ.then_ ?_
  refine TC.seq ?_
  refine TC.region ?_
  refine TV rfl rfl rfl (Val.move rfl) ?_
  refine TV rfl rfl rfl (Val.assign rfl) ?_
  refine TL.nil ?_
  refine TQ.then_ ?_
  refine TC.ret ?_
  obtain rfl:=Option.some.inj h
  exact TQ.fin (.inl rfl) rfl Try.results19 (.tmp rfl .nil) rfl (FRel.mk (Ls:=[]) [] 0 (Gd.le.refl _) rfl rfl rfl ⟨rfl,rfl,rfl⟩)
 ·
  refine TC.block ?_
  intro a W hF hO
  have hS:∃ (x96:Int) (x97:Int),swagelaw10_count.l0 rec19 a0 a1 a2 (a0.f3.length + 1) x96 x97=some o143∧Fr 37 a [(1,VI a1),(2,VI a2),(3,VP b5 0),(7,VI x96),(8,VI x97)]∧Own G (Blk b5 [VI a0.f0,.string a0.f1,VI a0.f2,.slice A1 a0.f3.length c2] 24::L) W:=by
   exact ⟨1,0,ho143,hF.sub ⟨rfl,rfl,rfl,rfl,rfl,trivial⟩,hO.selT (Ls:=[Blk b5 [VI a0.f0,.string a0.f1,VI a0.f2,.slice A1 a0.f3.length c2] 24]) [0] 1 rfl rfl rfl⟩
  clear hF hO ho143
  refine TC.loop (fun n144 a W=>∃ (x96:Int) (x97:Int),swagelaw10_count.l0 rec19 a0 a1 a2 n144 x96 x97=some o143∧Fr 37 a [(1,VI a1),(2,VI a2),(3,VP b5 0),(7,VI x96),(8,VI x97)]∧Own G (Blk b5 [VI a0.f0,.string a0.f1,VI a0.f2,.slice A1 a0.f3.length c2] 24::L) W) ?_ ?_ hS
  ·
   rintro a W ⟨x96,x97,h,hF,hO⟩
   exact none_no h
  ·
   clear hS
   rintro n144 a W ⟨x96,x97,h,hF,hO⟩
   rw [swagelaw10_count.l0] at h
   refine TC.use ?_ hF hO
   clear hF hO
   refine TC.seq ?_
   refine TC.seq ?_
   obtain ⟨j193,hj193,h⟩:=jn_no h
   refine TC.tail (fun a W=>∃ (x192:Bool),j193 x192=some o143∧Fr 37 a [(1,VI a1),(2,VI a2),(3,VP b5 0),(7,VI x96),(8,VI x97),(18,.bool x192)]∧Own G (Blk b5 [VI a0.f0,.string a0.f1,VI a0.f2,.slice A1 a0.f3.length c2] 24::L) W) ?_ ?_
   ·
    rintro a W ⟨x192,h,hF,hO⟩
    rw [hj193] at h
    refine TQ.use ?_ hF hO
    clear hF hO
    refine TQ.then_ ?_
    refine TC.cond_b rfl h (fun hc195 h=>?_) (fun hc195 h=>?_)
    ·
     refine TC.skip ?_
     refine TQ.then_ ?_
     refine TC.seq ?_
     refine TC.block ?_
     refine TC.seq ?_
     refine TC.seq ?_
     refine TC.region ?_
     refine TV rfl rfl rfl (Val.move rfl) ?_
     refine TV rfl rfl rfl (Val.cmp rfl rfl run_lss) ?_
     refine TL.nil ?_
     refine TQ.then_ ?_
     refine TC.cond_p rfl h (fun hc214 h=>?_) (fun hc214 h=>?_)
     ·
      refine TC.seq ?_
      refine TC.region ?_
      refine TV rfl rfl rfl (Val.move rfl) ?_
      refine TV rfl rfl rfl (Val.cmp rfl rfl run_add) ?_
      refine TV rfl rfl rfl (Val.assign rfl) ?_
      refine TL.nil ?_
      refine TQ.then_ ?_
      refine TC.ret ?_
      refine TQ.thenR ?_
      refine TQ.inBR ?_
      refine TQ.thenR ?_
      refine TQ.thenR ?_
      refine TQ.inBR ?_
      refine TQ.thenR ?_
      refine TQ.thenR ?_
      obtain rfl:=Option.some.inj h
      have h:=ko143
      obtain rfl:=Option.some.inj h
      exact TQ.fin (.inl rfl) rfl Try.results19 (.tmp rfl .nil) rfl (FRel.mk (Ls:=[]) [] 1 (Gd.le.refl _) rfl rfl rfl ⟨rfl,rfl,rfl⟩)
     ·
      refine TC.skip ?_
      refine TQ.then_ ?_
      refine TC.region ?_
      refine TV rfl rfl rfl (Val.move rfl) ?_
      refine TV rfl rfl rfl (Val.fieldAddrB Try.underlying24 rfl fsz22 rfl rfl rfl) ?_
      refine TV rfl rfl rfl (Val.loadB 0 agg22 rfl rfl rfl) ?_
      refine TV rfl rfl rfl (Val.move rfl) ?_
      obtain ⟨y215,hx216,h⟩:=bind_no h
      obtain ⟨ad217,cs223,hA218,hi219,hj220,hcl221,hK222⟩:=Rd.at hr3 hx216
      obtain ⟨A224,c225,rfl,hr226,hl227⟩:=k24_openR hK222
      refine TV rfl rfl rfl (Val.indexAddr Try.underlying22 fsz24 rfl hA218 rfl hi219 hj220) ?_
      refine TV rfl rfl rfl (Val.loadsS (cs:=[VI y215.f0,.string y215.f1,VI y215.f2,.slice A224 y215.f3.length c225]) agg24 fsz24 rfl rfl (Cl.sub (off:=0) (n:=4) hcl221 rfl)) ?_
      refine TV rfl rfl rfl (Val.move rfl) ?_
      refine TV rfl rfl rfl (Val.move rfl) ?_
      refine TV rfl rfl rfl (Val.cmp rfl rfl run_sub) ?_
      obtain ⟨y228,hy229,h⟩:=bind_no h
      refine TL.cons (TL.callV (Lin:=[]) (args:=[.agg #[VI y215.f0,.string y215.f1,VI y215.f2,.slice A224 y215.f3.length c225],VI a1,VI (IntKind.i64.wrap (a2 - 1))]) rfl rfl rfl hbd19 rfl rfl (ih19 (a0:=y215) (a1:=a1) (a2:=IntKind.i64.wrap (a2 - 1)) hr226 hl227 hy229) rfl ?_)
      rintro _ _ _ _ ⟨rfl,rfl,rfl⟩
      refine TV rfl rfl rfl (Val.cmp rfl rfl run_add) ?_
      refine TV rfl rfl rfl (Val.assign rfl) ?_
      refine TL.nil ?_
      refine TQ.inB ?_
      refine TQ.then_ ?_
      refine TC.region ?_
      refine TV rfl rfl rfl (Val.move rfl) ?_
      refine TV rfl rfl rfl (Val.cmp rfl rfl run_add) ?_
      refine TV rfl rfl rfl (Val.assign rfl) ?_
      refine TL.nil ?_
      exact fun a W hF hO=>⟨IntKind.i64.wrap (x96 + y228),IntKind.i64.wrap (x97 + 1),h,hF.sub ⟨rfl,rfl,rfl,rfl,rfl,trivial⟩,hO.selT (Ls:=[Blk b5 [VI a0.f0,.string a0.f1,VI a0.f2,.slice A1 a0.f3.length c2] 24]) [0] 1 rfl rfl rfl⟩
    ·
     refine TC.exit ?_
     refine TQ.thenX ?_
     refine TQ.thenX ?_
     refine TQ.inBX ?_
     exact fun a W hF hO=>⟨x96,Option.some.inj h,hF.sub ⟨rfl,trivial⟩,hO.selT (Ls:=[]) [] 1 rfl rfl rfl⟩
   ·
    refine TC.region ?_
    refine TV rfl rfl rfl (Val.move rfl) ?_
    refine TV rfl rfl rfl (Val.fieldAddrB Try.underlying24 rfl fsz22 rfl rfl rfl) ?_
    refine TV rfl rfl rfl (Val.loadB 0 agg22 rfl rfl rfl) ?_
    refine TV rfl rfl rfl (Val.len Try.underlying22 rfl) ?_
    refine TV rfl rfl rfl (Val.cmp rfl rfl run_lss) ?_
    refine TV rfl rfl rfl (Val.move rfl) ?_
    refine TK.split (p:=x97 < (a0.f3.length:Int)) h (fun hg230 h=>?_) (fun hg230 h=>?_)
    ·
     have hk231:decide (x97 < (a0.f3.length:Int))=true:=decide_eq_true hg230
     refine TV (Wt.yes rfl rfl rfl hk231) rfl rfl (Val.move rfl) ?_
     refine TV (Wt.yes rfl rfl rfl hk231) rfl rfl (Val.move rfl) ?_
     refine TV (Wt.yes rfl rfl rfl hk231) rfl rfl (Val.cmp rfl rfl run_leq) ?_
     refine TV rfl rfl rfl (Val.pickY rfl hk231 rfl) ?_
     refine TL.nil ?_
     exact fun a W hF hO=>⟨decide (x96 ≤ a1),h,hF.sub ⟨rfl,rfl,rfl,rfl,rfl,rfl,trivial⟩,hO.selT (Ls:=[Blk b5 [VI a0.f0,.string a0.f1,VI a0.f2,.slice A1 a0.f3.length c2] 24]) [0] 1 rfl rfl rfl⟩
    ·
     have hk232:decide (x97 < (a0.f3.length:Int))=false:=decide_eq_false hg230
     refine TL.cons (TL.not (Wt.no rfl rfl rfl hk232) rfl ?_)
     refine TL.cons (TL.not (Wt.no rfl rfl rfl hk232) rfl ?_)
     refine TL.cons (TL.not (Wt.no rfl rfl rfl hk232) rfl ?_)
     refine TV rfl rfl rfl (Val.pickN rfl hk232 rfl) ?_
     refine TL.nil ?_
     exact fun a W hF hO=>⟨false,h,hF.sub ⟨rfl,rfl,rfl,rfl,rfl,rfl,trivial⟩,hO.selT (Ls:=[Blk b5 [VI a0.f0,.string a0.f1,VI a0.f2,.slice A1 a0.f3.length c2] 24]) [0] 1 rfl rfl rfl⟩
def swagelaw10_count.fix:Nat → (S24 → Int → Int → Option Int)
 | 0=>(fun _ _ _=>none)
 | n + 1=>swagelaw10_count.g (swagelaw10_count.fix n)
theorem swagelaw10_count.fixc:∀ k,(∀ {G:Gd} {r:Int} {a0:S24} {a1:Int} {a2:Int} {A1:Option Addr} {c2:Nat} (hr3:Rd G k24 A1 a0.f3) (hl4:a0.f3.length ≤ c2),(swagelaw10_count.fix k) a0 a1 a2=some r → Fn Try.prog 19 G [] [.agg #[VI a0.f0,.string a0.f1,VI a0.f2,.slice A1 a0.f3.length c2],VI a1,VI a2] (swagelaw10_count.post G  r))∧True
 | 0=>⟨(by intros; contradiction),trivial⟩
 | k + 1=>by
  have ih:=swagelaw10_count.fixc k
  exact ⟨(by
   intro G r a0 a1 a2 A1 c2 hr3 hl4 h
   exact swagelaw10_count.step _ ih.1 hr3 hl4 h),trivial⟩
def swagelaw10_count.f (a0:S24) (a1:Int) (a2:Int):Option Int:=(swagelaw10_count.fix 100000) a0 a1 a2
theorem swagelaw10_count.calls {G:Gd} {r:Int} {a0:S24} {a1:Int} {a2:Int} {A1:Option Addr} {c2:Nat} (hr3:Rd G k24 A1 a0.f3) (hl4:a0.f3.length ≤ c2) (h:swagelaw10_count.f a0 a1 a2=some r):Fn Try.prog 19 G [] [.agg #[VI a0.f0,.string a0.f1,VI a0.f2,.slice A1 a0.f3.length c2],VI a1,VI a2] (swagelaw10_count.post G  r):=(swagelaw10_count.fixc 100000).1 hr3 hl4 h
def swagelaw10_Few.f (a0:S24):Option Bool:=(swagelaw10_count.f a0 400 60).bind fun (y6:Int)=>some (decide (y6 ≤ 400))
def swagelaw10_Few.post (G:Gd)  (r:Bool) (v:Value) (G':Gd) (Lr:List Ch):Prop:=G=G'∧v=.bool r∧Lr=[]
theorem swagelaw10_Few.calls {G:Gd} {r:Bool} {a0:S24} {A1:Option Addr} {c2:Nat} (hr3:Rd G k24 A1 a0.f3) (hl4:a0.f3.length ≤ c2) (h:swagelaw10_Few.f a0=some r):Fn Try.prog 8 G [] [.agg #[VI a0.f0,.string a0.f1,VI a0.f2,.slice A1 a0.f3.length c2]] (swagelaw10_Few.post G  r):=by
 refine Fn.intro (e:=[(0,.agg #[VI a0.f0,.string a0.f1,VI a0.f2,.slice A1 a0.f3.length c2])]) 8 Try.func8 rfl Try.ntmps8 rfl rfl (Nat.le_of_ble_eq_true rfl) (fun L=>?_)
 unfold swagelaw10_Few.f at h
 refine TC.seq ?_
 refine TC.region ?_
 refine TL.cons (TL.box (cs:=[VI a0.f0,.string a0.f1,VI a0.f2,.slice A1 a0.f3.length c2]) rfl rfl rfl rfl (fun b5=>?_))
 refine TV rfl rfl rfl (Val.assign rfl) ?_
 refine TL.nil ?_
 refine TQ.then_ ?_
 refine TC.seq ?_
 refine TC.region ?_
 refine TV rfl rfl rfl (Val.loadsB 0 (cs:=[VI a0.f0,.string a0.f1,VI a0.f2,.slice A1 a0.f3.length c2]) agg24 fsz24 rfl rfl rfl rfl) ?_
 obtain ⟨y6,hy7,h⟩:=bind_no h
 refine TL.cons (TL.callV (Lin:=[]) (args:=[.agg #[VI a0.f0,.string a0.f1,VI a0.f2,.slice A1 a0.f3.length c2],VI 400,VI 60]) rfl rfl rfl hbd19 rfl rfl (swagelaw10_count.calls (a0:=a0) (a1:=400) (a2:=60) hr3 hl4 hy7) rfl ?_)
 rintro _ _ _ _ ⟨rfl,rfl,rfl⟩
 refine TV rfl rfl rfl (Val.assign rfl) ?_
 refine TL.nil ?_
 refine TQ.then_ ?_
 refine TC.seq ?_
 refine TC.region ?_
 refine TV rfl rfl rfl (Val.move rfl) ?_
 refine TV rfl rfl rfl (Val.cmp rfl rfl run_leq) ?_
 refine TV rfl rfl rfl (Val.assign rfl) ?_
 refine TL.nil ?_
 refine TQ.then_ ?_
 refine TC.ret ?_
 obtain rfl:=Option.some.inj h
 exact TQ.fin (.inl rfl) rfl Try.results8 (.tmp rfl .nil) rfl (FRel.mk (Ls:=[]) [] 1 (Gd.le.refl _) rfl rfl rfl ⟨rfl,rfl,rfl⟩)
end Go.Proofs.Ythlhmoocgjddpaa.Sy
set_option linter.unusedVariables false
set_option linter.unusedSimpArgs false
namespace Go.Proofs.Ythlhmoocgjddpaa.Sy
open Go Go.RowKit Go.Proofs.YthlhmoocgjddpaaW.PrintWords
theorem drop_nil {α : Type} {l : List α} {i : Nat} (h : l.drop i = []) : ¬ ((i : Int) < (l.length : Int)) := (drop_cases h).1 rfl
theorem drop_cons {α : Type} {l r : List α} {y : α} {i : Nat} (h : l.drop i = y :: r) : (i : Int) < (l.length : Int) ∧ at? l (i : Int) = some y ∧ l.drop (i + 1) = r ∧ y ∈ l := by
  obtain ⟨h1, h2, h3⟩ := (drop_cases h).2 y r rfl
  exact ⟨h1, h2, h3, List.mem_of_mem_drop (i := i) (by rw [h]; exact List.mem_cons_self)⟩
mutual
/-- How many types stand in one. -/
def cnt : S24 → Nat
  | ⟨_, _, _, l⟩ => cntL l + 1
def cntL : List S24 → Nat
  | [] => 0
  | x :: r => cnt x + cntL r
end
mutual
/-- How deep they stand. -/
def dep : S24 → Nat
  | ⟨_, _, _, l⟩ => depL l + 1
def depL : List S24 → Nat
  | [] => 0
  | x :: r => max (dep x) (depL r)
end

theorem cnt_eq (t : S24) : cnt t = cntL t.f3 + 1 := by cases t; simp [cnt]
theorem dep_eq (t : S24) : dep t = depL t.f3 + 1 := by cases t; simp [dep]
theorem cntL_len : ∀ l : List S24, l.length ≤ cntL l
  | [] => by simp [cntL]
  | x :: r => by have := cntL_len r; have := cnt_eq x; simp [cntL]; omega
theorem cntL_mem {l : List S24} {y : S24} (h : y ∈ l) : cnt y ≤ cntL l := by
  induction l with
  | nil => cases h
  | cons x r ih =>
    rcases List.mem_cons.1 h with rfl | h
    · simp [cntL]
    · have := ih h; simp [cntL]; omega
theorem depL_mem {l : List S24} {y : S24} (h : y ∈ l) : dep y ≤ depL l := by
  induction l with
  | nil => cases h
  | cons x r ih =>
    rcases List.mem_cons.1 h with rfl | h
    · simp [depL]; omega
    · have := ih h; simp [depL]; omega
theorem S24.ind {P : S24 → Prop} (h : ∀ t, (∀ y ∈ t.f3, P y) → P t) (t : S24) : P t := by
  have : ∀ n t, dep t ≤ n → P t := by
    intro n
    induction n with
    | zero => intro t ht; have := dep_eq t; omega
    | succ n ih => exact fun t ht => h t (fun y hy => ih y (by have := dep_eq t; have := depL_mem hy; omega))
  exact this _ t (Nat.le_refl _)
theorem wsucc {i : Nat} (h : i ≤ 1000000) : IntKind.i64.wrap ((i : Int) + 1) = ((i + 1 : Nat) : Int) := by
  rw [w64 (by omega) (by omega)]; omega
/-! #### Counting -/
theorem count_l0 {rec : S24 → Int → Int → Option Int} {t : S24} {d : Nat} (hd : d ≤ 1000)
    (hr : ∀ y ∈ t.f3, 1 ≤ d → ∃ c : Nat, rec y 400 ((d : Int) - 1) = some (c : Int) ∧ 1 ≤ c ∧ c ≤ 401 * d ∧ (c ≤ 400 → cnt y = c ∧ dep y ≤ d)) :
    ∀ (ys : List S24) (n i k : Nat), t.f3.drop i = ys → ys.length < n → i < k → k ≤ 401 * (d + 1) →
      ∃ r, swagelaw10_count.l0 rec t 400 d n k i = some r ∧ (r = .inl 401 ∨ ∃ c : Nat, r = .inr (c : Int) ∧ 1 ≤ c ∧ c ≤ 401 * (d + 1) ∧ (c ≤ 400 → c = k + cntL ys ∧ depL ys ≤ d)) := by
  intro ys
  induction ys with
  | nil =>
    intro n i k hdr hn hik hk
    obtain ⟨n, rfl⟩ : ∃ m, n = m + 1 := ⟨n - 1, by simp at hn; omega⟩
    rw [swagelaw10_count.l0]
    simp only [jn]
    rw [if_neg (drop_nil hdr)]
    simp only [Bool.false_eq_true, if_false]
    exact ⟨_, rfl, .inr ⟨k, rfl, by omega, hk, fun h => by simp [cntL, depL]⟩⟩
  | cons y ys ih =>
    intro n i k hdr hn hik hk
    obtain ⟨n, rfl⟩ : ∃ m, n = m + 1 := ⟨n - 1, by simp at hn; omega⟩
    obtain ⟨h1, h2, h3, h4⟩ := drop_cons hdr
    rw [swagelaw10_count.l0]
    simp only [jn]
    rw [if_pos h1]
    by_cases hk3 : k ≤ 400
    · have e : decide ((k : Int) ≤ 400) = true := by simp; omega
      rw [e, if_pos rfl]
      by_cases hd1 : d < 1
      · rw [if_pos (by omega)]
        exact ⟨_, rfl, .inl (by rw [w64 (by omega) (by omega)]; rfl)⟩
      · rw [if_neg (by omega), h2]
        simp only [Option.bind_some]
        rw [w64 (n := (d : Int) - 1) (by omega) (by omega)]
        obtain ⟨c, hc, c1, c2, c3⟩ := hr y h4 (by omega)
        rw [hc]
        simp only [Option.bind_some]
        rw [w64 (n := (k : Int) + c) (by omega) (by omega), wsucc (by omega)]
        obtain ⟨r, hr1, hr2⟩ := ih n (i + 1) (k + c) h3 (by simp at hn; omega) (by omega) (by omega)
        refine ⟨r, by rw [← hr1]; simp, ?_⟩
        rcases hr2 with h | ⟨q, q1, q2, q3, q4⟩
        · exact .inl h
        · refine .inr ⟨q, q1, q2, q3, fun hq => ?_⟩
          obtain ⟨a1, a2⟩ := q4 hq
          obtain ⟨b1, b2⟩ := c3 (by omega)
          simp only [cntL, depL]; omega
    · have e : decide ((k : Int) ≤ 400) = false := by simp; omega
      rw [e]
      simp only [Bool.false_eq_true, if_false]
      exact ⟨_, rfl, .inr ⟨k, rfl, by omega, hk, fun h => absurd h (by omega)⟩⟩
theorem count_fix : ∀ (m : Nat) (t : S24) (d : Nat), d < m → d ≤ 1000 → ∃ c : Nat, swagelaw10_count.fix m t 400 d = some (c : Int) ∧ 1 ≤ c ∧ c ≤ 401 * (d + 1) ∧ (c ≤ 400 → cnt t = c ∧ dep t ≤ d + 1)
  | 0, _, _, h, _ => by omega
  | m + 1, t, d, h, hd => by
    have hr : ∀ y ∈ t.f3, 1 ≤ d → ∃ c : Nat, swagelaw10_count.fix m y 400 ((d : Int) - 1) = some (c : Int) ∧ 1 ≤ c ∧ c ≤ 401 * d ∧ (c ≤ 400 → cnt y = c ∧ dep y ≤ d) := by
      intro y _ hd1
      obtain ⟨e, rfl⟩ : ∃ e, d = e + 1 := ⟨d - 1, by omega⟩
      obtain ⟨c, c1, c2, c3, c4⟩ := count_fix m y e (by omega) (by omega)
      refine ⟨c, ?_, c2, c3, c4⟩
      rw [← c1]
      congr 1; omega
    obtain ⟨r, h1, h2⟩ := count_l0 hd hr t.f3 (t.f3.length + 1) 0 1 (by simp) (by omega) (by omega) (by omega)
    show ∃ c : Nat, swagelaw10_count.g (swagelaw10_count.fix m) t 400 d = _ ∧ _
    unfold swagelaw10_count.g
    have h1' : swagelaw10_count.l0 (swagelaw10_count.fix m) t 400 d (t.f3.length + 1) 1 0 = some r := h1
    rw [h1']
    simp only [Option.bind_some]
    rcases h2 with rfl | ⟨c, rfl, c1, c2, c3⟩
    · exact ⟨401, rfl, by omega, by omega, fun h => by omega⟩
    · refine ⟨c, rfl, c1, c2, fun hc => ?_⟩
      obtain ⟨a1, a2⟩ := c3 hc
      have := cnt_eq t; have := dep_eq t
      omega
theorem few_f (t : S24) : ∃ b, swagelaw10_Few.f t = some b ∧ (b = true → cnt t ≤ 400 ∧ dep t ≤ 61) := by
  obtain ⟨c, c1, c2, c3, c4⟩ := count_fix 100000 t 60 (by omega) (by omega)
  unfold swagelaw10_Few.f swagelaw10_count.f
  have c1' : swagelaw10_count.fix 100000 t 400 60 = some (c : Int) := c1
  rw [c1']
  refine ⟨decide ((c : Int) ≤ 400), rfl, fun h => ?_⟩
  have h : (c : Int) ≤ 400 := by simpa using h
  obtain ⟨a1, a2⟩ := c4 (by omega)
  omega
/-! #### Copies -/
end Go.Proofs.Ythlhmoocgjddpaa.Sy
set_option linter.unusedVariables false
set_option linter.unusedSimpArgs false
set_option maxRecDepth 100000
set_option maxHeartbeats 4000000
namespace Go.Proofs.Ythlhmoocgjddpaa.Sy
open Go Go.RowKit Go.Proofs.YthlhmoocgjddpaaW.PrintWords 
def parse_Same.post (G:Gd)  (r:Bool) (v:Value) (G':Gd) (Lr:List Ch):Prop:=G=G'∧v=.bool r∧Lr=[]
def parse_Same.l0 (rec13:(S24 → S24 → Option Bool)) (a0:S24) (a1:S24) (j526:(Bool → Option Bool)):Nat → Int → Option (Sum Bool (Unit))
 | 0,_=>none
 | n730 + 1,x662=>(if x662 < (a0.f3.length:Int) then (at? a0.f3 x662).bind fun y831=>(at? a1.f3 x662).bind fun y845=>(rec13 y831 y845).bind fun (y859:Bool)=>(if (!y859)=true then (j526 false).bind fun q_=>some (.inl q_) else parse_Same.l0 rec13 a0 a1 j526 n730 (IntKind.i64.wrap (x662 + 1))) else some (.inr ()))
def parse_Same.g (rec13:(S24 → S24 → Option Bool)) (a0:S24) (a1:S24):Option Bool:=(if a0.f0=a1.f0 then (if (a0.f1.data.toList == a1.f1.data.toList)=true then jn (γ:=Bool) (fun (x525:Bool)=>some x525) (fun (j526:(Bool → Option Bool))=>(if (!decide ((a0.f3.length:Int)=(a1.f3.length:Int)))=true then j526 false else (parse_Same.l0 rec13 a0 a1 j526 (a0.f3.length + 1) 0).bind fun | .inl q_=>some q_ | .inr _=>(j526 true))) else some false) else some false)
theorem parse_Same.step (rec13:(S24 → S24 → Option Bool)) (ih13:∀ {G:Gd} {r:Bool} {a0:S24} {a1:S24} {A1:Option Addr} {c2:Nat} {A5:Option Addr} {c6:Nat} (hr3:Rd G k24 A1 a0.f3) (hl4:a0.f3.length ≤ c2) (hr7:Rd G k24 A5 a1.f3) (hl8:a1.f3.length ≤ c6),rec13 a0 a1=some r → Fn Try.prog 13 G [] [.agg #[VI a0.f0,.string a0.f1,VI a0.f2,.slice A1 a0.f3.length c2],.agg #[VI a1.f0,.string a1.f1,VI a1.f2,.slice A5 a1.f3.length c6]] (parse_Same.post G  r)) {G:Gd} {r:Bool} {a0:S24} {a1:S24} {A1:Option Addr} {c2:Nat} {A5:Option Addr} {c6:Nat} (hr3:Rd G k24 A1 a0.f3) (hl4:a0.f3.length ≤ c2) (hr7:Rd G k24 A5 a1.f3) (hl8:a1.f3.length ≤ c6) (h:parse_Same.g rec13 a0 a1=some r):Fn Try.prog 13 G [] [.agg #[VI a0.f0,.string a0.f1,VI a0.f2,.slice A1 a0.f3.length c2],.agg #[VI a1.f0,.string a1.f1,VI a1.f2,.slice A5 a1.f3.length c6]] (parse_Same.post G  r):=by
 refine Fn.intro (e:=[(0,.agg #[VI a0.f0,.string a0.f1,VI a0.f2,.slice A1 a0.f3.length c2]),(1,.agg #[VI a1.f0,.string a1.f1,VI a1.f2,.slice A5 a1.f3.length c6])]) 24 Try.func13 rfl Try.ntmps13 rfl rfl (Nat.le_of_ble_eq_true rfl) (fun L=>?_)
 unfold parse_Same.g at h
 refine TC.seq ?_
 refine TC.region ?_
 refine TL.cons (TL.box (cs:=[VI a0.f0,.string a0.f1,VI a0.f2,.slice A1 a0.f3.length c2]) rfl rfl rfl rfl (fun b9=>?_))
 refine TL.cons (TL.box (cs:=[VI a1.f0,.string a1.f1,VI a1.f2,.slice A5 a1.f3.length c6]) rfl rfl rfl rfl (fun b10=>?_))
 refine TV rfl rfl rfl (Val.assign rfl) ?_
 refine TL.nil ?_
 refine TQ.then_ ?_
 refine TC.seq ?_
 refine TC.region ?_
 refine TV rfl rfl rfl (Val.fieldAddrB Try.underlying24 rfl fsz3 rfl rfl rfl) ?_
 refine TV rfl rfl rfl (Val.loadB 1 agg3 rfl rfl rfl) ?_
 refine TV rfl rfl rfl (Val.fieldAddrB Try.underlying24 rfl fsz3 rfl rfl rfl) ?_
 refine TV rfl rfl rfl (Val.loadB 0 agg3 rfl rfl rfl) ?_
 refine TV rfl rfl rfl (Val.cmp rfl rfl run_eql) ?_
 refine TV rfl rfl rfl (Val.move rfl) ?_
 refine TK.split (p:=a0.f0=a1.f0) h (fun hg320 h=>?_) (fun hg320 h=>?_)
 ·
  have hk321:decide (a0.f0=a1.f0)=true:=decide_eq_true hg320
  refine TV (Wt.yes rfl rfl rfl hk321) rfl rfl (Val.fieldAddrB Try.underlying24 rfl fsz9 rfl rfl rfl) ?_
  refine TV (Wt.yes rfl rfl rfl hk321) rfl rfl (Val.loadB 1 agg9 rfl rfl rfl) ?_
  refine TV (Wt.yes rfl rfl rfl hk321) rfl rfl (Val.fieldAddrB Try.underlying24 rfl fsz9 rfl rfl rfl) ?_
  refine TV (Wt.yes rfl rfl rfl hk321) rfl rfl (Val.loadB 0 agg9 rfl rfl rfl) ?_
  refine TV (Wt.yes rfl rfl rfl hk321) rfl rfl (Val.eqT rfl rfl) ?_
  refine TV rfl rfl rfl (Val.pickY rfl hk321 rfl) ?_
  refine TV rfl rfl rfl (Val.move rfl) ?_
  refine TK.split (p:=(a0.f1.data.toList == a1.f1.data.toList)=true) h (fun hg322 h=>?_) (fun hg322 h=>?_)
  ·
   have hk323:(a0.f1.data.toList == a1.f1.data.toList)=true:=hg322
   refine TV (Wt.yes rfl rfl rfl hk323) rfl rfl (Val.fieldAddrB Try.underlying24 rfl fsz22 rfl rfl rfl) ?_
   refine TV (Wt.yes rfl rfl rfl hk323) rfl rfl (Val.loadB 1 agg22 rfl rfl rfl) ?_
   refine TV (Wt.yes rfl rfl rfl hk323) rfl rfl (Val.fieldAddrB Try.underlying24 rfl fsz22 rfl rfl rfl) ?_
   refine TV (Wt.yes rfl rfl rfl hk323) rfl rfl (Val.loadB 0 agg22 rfl rfl rfl) ?_
   refine TL.cons (TO.inl (args:=[.slice A1 a0.f3.length c2,.slice A5 a1.f3.length c6,.func (.func 13) #[] #[]]) (e':=[(0,.slice A1 a0.f3.length c2),(1,.slice A5 a1.f3.length c6),(2,.func (.func 13) #[] #[])]) 32 (Wt.yes rfl rfl rfl hk323) rfl hbd27 rfl rfl Try.func27 rfl Try.ntmps27 rfl rfl (Nat.le_of_ble_eq_true rfl) (fun a324 hf325=>?_))
   obtain ⟨j526,hj526,h⟩:=jn_no h
   refine TC.after (fun en W=>∃ (x525:Bool),j526 x525=some r∧en=.returned (.bool x525)∧Own G (Blk b10 [VI a1.f0,.string a1.f1,VI a1.f2,.slice A5 a1.f3.length c6] 24::Blk b9 [VI a0.f0,.string a0.f1,VI a0.f2,.slice A1 a0.f3.length c2] 24::L) W) ?_ ?_
   ·
    rintro en W ⟨x525,h,rfl,hO⟩
    rw [hj526] at h
    refine (After.mk hf325 rfl ?_) W hO
    clear hO
    refine TV rfl rfl rfl (Val.pickY rfl hk323 rfl) ?_
    refine TV rfl rfl rfl (Val.assign rfl) ?_
    refine TL.nil ?_
    refine TQ.then_ ?_
    refine TC.ret ?_
    obtain rfl:=Option.some.inj h
    exact TQ.fin (.inl rfl) rfl Try.results13 (.tmp rfl .nil) rfl (FRel.mk (Ls:=[]) [] 2 (Gd.le.refl _) rfl rfl rfl ⟨rfl,rfl,rfl⟩)
   ·
    refine TC.seq ?_
    refine TC.region ?_
    refine TV rfl rfl rfl (Val.assign rfl) ?_
    refine TL.nil ?_
    refine TQ.then_ ?_
    refine TC.seq ?_
    refine TC.seq ?_
    refine TC.region ?_
    refine TV rfl rfl rfl (Val.move rfl) ?_
    refine TV rfl rfl rfl (Val.len Try.underlying22 rfl) ?_
    refine TV rfl rfl rfl (Val.move rfl) ?_
    refine TV rfl rfl rfl (Val.len Try.underlying22 rfl) ?_
    refine TV rfl rfl rfl (Val.cmp rfl rfl run_neq) ?_
    refine TL.nil ?_
    refine TQ.then_ ?_
    refine TC.cond_b rfl h (fun hc528 h=>?_) (fun hc528 h=>?_)
    ·
     refine TC.seq ?_
     refine TC.region ?_
     refine TV rfl rfl rfl (Val.assign rfl) ?_
     refine TL.nil ?_
     refine TQ.then_ ?_
     refine TC.ret ?_
     refine TQ.thenR ?_
     exact TQ.fin (v:=.bool false) (.inl rfl) rfl Try.results27 (.tmp rfl .nil) rfl (fun W hO=>⟨false,h,rfl,hO.selT (Ls:=[Blk b10 [VI a1.f0,.string a1.f1,VI a1.f2,.slice A5 a1.f3.length c6] 24,Blk b9 [VI a0.f0,.string a0.f1,VI a0.f2,.slice A1 a0.f3.length c2] 24]) [0,1] 2 rfl rfl rfl⟩)
    ·
     refine TC.skip ?_
     refine TQ.then_ ?_
     refine TC.seq ?_
     refine TC.seq ?_
     refine TC.region ?_
     refine TV rfl rfl rfl (Val.move rfl) ?_
     refine TV rfl rfl rfl (Val.len Try.underlying22 rfl) ?_
     refine TV rfl rfl rfl (Val.move rfl) ?_
     refine TL.nil ?_
     refine TQ.then_ ?_
     obtain ⟨o729,ho729,ko729⟩:=bind_no h
     clear h
     refine TC.tail (fun a W=>(.inr ())=o729∧Fr 32 a []∧Own G (Blk b10 [VI a1.f0,.string a1.f1,VI a1.f2,.slice A5 a1.f3.length c6] 24::Blk b9 [VI a0.f0,.string a0.f1,VI a0.f2,.slice A1 a0.f3.length c2] 24::L) W) ?_ ?_
     ·
      rintro a W ⟨rfl,hF,hO⟩
      have h:=ko729
      clear ko729 ho729
      refine TQ.use ?_ hF hO
      clear hF hO
      refine TQ.then_ ?_
      refine TC.seq ?_
      refine TC.region ?_
      refine TV rfl rfl rfl (Val.assign rfl) ?_
      refine TL.nil ?_
      refine TQ.then_ ?_
      refine TC.ret ?_
      exact TQ.fin (v:=.bool true) (.inl rfl) rfl Try.results27 (.tmp rfl .nil) rfl (fun W hO=>⟨true,h,rfl,hO.selT (Ls:=[Blk b10 [VI a1.f0,.string a1.f1,VI a1.f2,.slice A5 a1.f3.length c6] 24,Blk b9 [VI a0.f0,.string a0.f1,VI a0.f2,.slice A1 a0.f3.length c2] 24]) [0,1] 2 rfl rfl rfl⟩)
     ·
      refine TC.block ?_
      intro a W hF hO
      have hS:∃ (x662:Int),parse_Same.l0 rec13 a0 a1 j526 (a0.f3.length + 1) x662=some o729∧Fr 32 a [(1,.slice A5 a1.f3.length c6),(2,.func (.func 13) #[] #[]),(15,.slice A1 a0.f3.length c2),(16,VI (a0.f3.length:Int)),(17,VI x662)]∧Own G (Blk b10 [VI a1.f0,.string a1.f1,VI a1.f2,.slice A5 a1.f3.length c6] 24::Blk b9 [VI a0.f0,.string a0.f1,VI a0.f2,.slice A1 a0.f3.length c2] 24::L) W:=by
       exact ⟨0,ho729,hF.sub ⟨rfl,rfl,rfl,rfl,rfl,trivial⟩,hO.selT (Ls:=[Blk b10 [VI a1.f0,.string a1.f1,VI a1.f2,.slice A5 a1.f3.length c6] 24,Blk b9 [VI a0.f0,.string a0.f1,VI a0.f2,.slice A1 a0.f3.length c2] 24]) [0,1] 2 rfl rfl rfl⟩
      clear hF hO ho729
      refine TC.loop (fun n730 a W=>∃ (x662:Int),parse_Same.l0 rec13 a0 a1 j526 n730 x662=some o729∧Fr 32 a [(1,.slice A5 a1.f3.length c6),(2,.func (.func 13) #[] #[]),(15,.slice A1 a0.f3.length c2),(16,VI (a0.f3.length:Int)),(17,VI x662)]∧Own G (Blk b10 [VI a1.f0,.string a1.f1,VI a1.f2,.slice A5 a1.f3.length c6] 24::Blk b9 [VI a0.f0,.string a0.f1,VI a0.f2,.slice A1 a0.f3.length c2] 24::L) W) ?_ ?_ hS
      ·
       rintro a W ⟨x662,h,hF,hO⟩
       exact none_no h
      ·
       clear hS
       rintro n730 a W ⟨x662,h,hF,hO⟩
       rw [parse_Same.l0] at h
       refine TC.use ?_ hF hO
       clear hF hO
       refine TC.seq ?_
       refine TC.region ?_
       refine TV rfl rfl rfl (Val.cmp rfl rfl run_lss) ?_
       refine TL.nil ?_
       refine TQ.then_ ?_
       refine TC.seq ?_
       refine TC.cond_p rfl h (fun hc798 h=>?_) (fun hc798 h=>?_)
       ·
        refine TC.skip ?_
        refine TQ.then_ ?_
        refine TC.seq ?_
        refine TC.block ?_
        refine TC.seq ?_
        refine TC.region ?_
        refine TV rfl rfl rfl (Val.move rfl) ?_
        obtain ⟨y831,hx832,h⟩:=bind_no h
        obtain ⟨ad833,cs839,hA834,hi835,hj836,hcl837,hK838⟩:=Rd.at hr3 hx832
        obtain ⟨A840,c841,rfl,hr842,hl843⟩:=k24_openR hK838
        refine TV rfl rfl rfl (Val.indexAddr Try.underlying22 fsz24 rfl hA834 rfl hi835 hj836) ?_
        refine TV rfl rfl rfl (Val.loadsS (cs:=[VI y831.f0,.string y831.f1,VI y831.f2,.slice A840 y831.f3.length c841]) agg24 fsz24 rfl rfl (Cl.sub (off:=0) (n:=4) hcl837 rfl)) ?_
        refine TL.cons (TL.alloc (cs:=[VI 0,.string (⟨#[]⟩:ByteArray),VI 0,.slice none 0 0]) rfl rfl zr24 rfl (fun b844=>?_))
        refine TV rfl rfl rfl (Val.assign rfl) ?_
        refine TL.cons (TL.store 0 (ds:=[VI y831.f0,.string y831.f1,VI y831.f2,.slice A840 y831.f3.length c841]) (cs':=[VI y831.f0,.string y831.f1,VI y831.f2,.slice A840 y831.f3.length c841]) (L':=(Blk b844 [VI y831.f0,.string y831.f1,VI y831.f2,.slice A840 y831.f3.length c841] 24::Blk b10 [VI a1.f0,.string a1.f1,VI a1.f2,.slice A5 a1.f3.length c6] 24::Blk b9 [VI a0.f0,.string a0.f1,VI a0.f2,.slice A1 a0.f3.length c2] 24::L)) rfl fsz24 rfl rfl rfl rfl rfl (Nat.le_of_ble_eq_true rfl) rfl rfl ?_)
        refine TL.nil ?_
        refine TQ.then_ ?_
        refine TC.seq ?_
        refine TC.region ?_
        refine TV rfl rfl rfl (Val.move rfl) ?_
        refine TV rfl rfl rfl (Val.move rfl) ?_
        obtain ⟨y845,hx846,h⟩:=bind_no h
        obtain ⟨ad847,cs853,hA848,hi849,hj850,hcl851,hK852⟩:=Rd.at hr7 hx846
        obtain ⟨A854,c855,rfl,hr856,hl857⟩:=k24_openR hK852
        refine TV rfl rfl rfl (Val.indexAddr Try.underlying22 fsz24 rfl hA848 rfl hi849 hj850) ?_
        refine TV rfl rfl rfl (Val.loadsS (cs:=[VI y845.f0,.string y845.f1,VI y845.f2,.slice A854 y845.f3.length c855]) agg24 fsz24 rfl rfl (Cl.sub (off:=0) (n:=4) hcl851 rfl)) ?_
        refine TL.cons (TL.alloc (cs:=[VI 0,.string (⟨#[]⟩:ByteArray),VI 0,.slice none 0 0]) rfl rfl zr24 rfl (fun b858=>?_))
        refine TL.cons (TL.store 0 (ds:=[VI y845.f0,.string y845.f1,VI y845.f2,.slice A854 y845.f3.length c855]) (cs':=[VI y845.f0,.string y845.f1,VI y845.f2,.slice A854 y845.f3.length c855]) (L':=(Blk b858 [VI y845.f0,.string y845.f1,VI y845.f2,.slice A854 y845.f3.length c855] 24::Blk b844 [VI y831.f0,.string y831.f1,VI y831.f2,.slice A840 y831.f3.length c841] 24::Blk b10 [VI a1.f0,.string a1.f1,VI a1.f2,.slice A5 a1.f3.length c6] 24::Blk b9 [VI a0.f0,.string a0.f1,VI a0.f2,.slice A1 a0.f3.length c2] 24::L)) rfl fsz24 rfl rfl rfl rfl rfl (Nat.le_of_ble_eq_true rfl) rfl rfl ?_)
        refine TL.nil ?_
        refine TQ.then_ ?_
        refine TC.seq ?_
        refine TC.region ?_
        refine TV rfl rfl rfl (Val.move rfl) ?_
        refine TV rfl rfl rfl (Val.loadsB 1 (cs:=[VI y831.f0,.string y831.f1,VI y831.f2,.slice A840 y831.f3.length c841]) agg24 fsz24 rfl rfl rfl rfl) ?_
        refine TV rfl rfl rfl (Val.loadsB 0 (cs:=[VI y845.f0,.string y845.f1,VI y845.f2,.slice A854 y845.f3.length c855]) agg24 fsz24 rfl rfl rfl rfl) ?_
        obtain ⟨y859,hy860,h⟩:=bind_no h
        refine TL.cons (TL.callV (Lin:=[]) (args:=[.agg #[VI y831.f0,.string y831.f1,VI y831.f2,.slice A840 y831.f3.length c841],.agg #[VI y845.f0,.string y845.f1,VI y845.f2,.slice A854 y845.f3.length c855]]) rfl rfl rfl hbd13 rfl rfl (ih13 (a0:=y831) (a1:=y845) hr842 hl843 hr856 hl857 hy860) rfl ?_)
        rintro _ _ _ _ ⟨rfl,rfl,rfl⟩
        refine TV rfl rfl rfl (Val.not_ rfl) ?_
        refine TL.nil ?_
        refine TQ.then_ ?_
        refine TC.cond_b rfl h (fun hc862 h=>?_) (fun hc862 h=>?_)
        ·
         refine TC.seq ?_
         refine TC.region ?_
         refine TV rfl rfl rfl (Val.assign rfl) ?_
         refine TL.nil ?_
         refine TQ.then_ ?_
         refine TC.ret ?_
         refine TQ.inBR ?_
         refine TQ.thenR ?_
         refine TQ.thenR ?_
         refine TQ.inBR ?_
         refine TQ.thenR ?_
         refine TQ.thenR ?_
         obtain ⟨q_,hq_,h⟩:=bind_no h
         obtain rfl:=Option.some.inj h
         have h:=ko729
         obtain rfl:=Option.some.inj h
         have h:=hq_
         clear hq_
         exact TQ.fin (v:=.bool false) (.inl rfl) rfl Try.results27 (.tmp rfl .nil) rfl (fun W hO=>⟨false,h,rfl,hO.selT (Ls:=[Blk b10 [VI a1.f0,.string a1.f1,VI a1.f2,.slice A5 a1.f3.length c6] 24,Blk b9 [VI a0.f0,.string a0.f1,VI a0.f2,.slice A1 a0.f3.length c2] 24]) [2,3] 4 rfl rfl rfl⟩)
        ·
         refine TC.skip ?_
         refine TQ.inB ?_
         refine TQ.then_ ?_
         refine TC.region ?_
         refine TV rfl rfl rfl (Val.cmp rfl rfl run_add) ?_
         refine TV rfl rfl rfl (Val.move rfl) ?_
         refine TL.nil ?_
         exact fun a W hF hO=>⟨IntKind.i64.wrap (x662 + 1),h,hF.sub ⟨rfl,rfl,rfl,rfl,rfl,trivial⟩,hO.selT (Ls:=[Blk b10 [VI a1.f0,.string a1.f1,VI a1.f2,.slice A5 a1.f3.length c6] 24,Blk b9 [VI a0.f0,.string a0.f1,VI a0.f2,.slice A1 a0.f3.length c2] 24]) [2,3] 4 rfl rfl rfl⟩
       ·
        refine TC.exit ?_
        refine TQ.thenX ?_
        refine TQ.thenX ?_
        refine TQ.inBX ?_
        exact fun a W hF hO=>⟨Option.some.inj h,hF.sub trivial,hO.selT (Ls:=[Blk b10 [VI a1.f0,.string a1.f1,VI a1.f2,.slice A5 a1.f3.length c6] 24,Blk b9 [VI a0.f0,.string a0.f1,VI a0.f2,.slice A1 a0.f3.length c2] 24]) [0,1] 2 rfl rfl rfl⟩
  ·
   have hk863:(a0.f1.data.toList == a1.f1.data.toList)=false:=(by simpa using hg322)
   refine TL.cons (TL.not (Wt.no rfl rfl rfl hk863) rfl ?_)
   refine TL.cons (TL.not (Wt.no rfl rfl rfl hk863) rfl ?_)
   refine TL.cons (TL.not (Wt.no rfl rfl rfl hk863) rfl ?_)
   refine TL.cons (TL.not (Wt.no rfl rfl rfl hk863) rfl ?_)
   refine TL.cons (TL.not (Wt.no rfl rfl rfl hk863) rfl ?_)
   refine TV rfl rfl rfl (Val.pickN rfl hk863 rfl) ?_
   refine TV rfl rfl rfl (Val.assign rfl) ?_
   refine TL.nil ?_
   refine TQ.then_ ?_
   refine TC.ret ?_
   obtain rfl:=Option.some.inj h
   exact TQ.fin (.inl rfl) rfl Try.results13 (.tmp rfl .nil) rfl (FRel.mk (Ls:=[]) [] 2 (Gd.le.refl _) rfl rfl rfl ⟨rfl,rfl,rfl⟩)
 ·
  have hk864:decide (a0.f0=a1.f0)=false:=decide_eq_false hg320
  refine TL.cons (TL.not (Wt.no rfl rfl rfl hk864) rfl ?_)
  refine TL.cons (TL.not (Wt.no rfl rfl rfl hk864) rfl ?_)
  refine TL.cons (TL.not (Wt.no rfl rfl rfl hk864) rfl ?_)
  refine TL.cons (TL.not (Wt.no rfl rfl rfl hk864) rfl ?_)
  refine TL.cons (TL.not (Wt.no rfl rfl rfl hk864) rfl ?_)
  refine TV rfl rfl rfl (Val.pickN rfl hk864 rfl) ?_
  refine TV rfl rfl rfl (Val.move rfl) ?_
  refine TL.cons (TL.not (Wt.no rfl rfl rfl rfl) rfl ?_)
  refine TL.cons (TL.not (Wt.no rfl rfl rfl rfl) rfl ?_)
  refine TL.cons (TL.not (Wt.no rfl rfl rfl rfl) rfl ?_)
  refine TL.cons (TL.not (Wt.no rfl rfl rfl rfl) rfl ?_)
  refine TL.cons (TL.not (Wt.no rfl rfl rfl rfl) rfl ?_)
  refine TV rfl rfl rfl (Val.pickN rfl rfl rfl) ?_
  refine TV rfl rfl rfl (Val.assign rfl) ?_
  refine TL.nil ?_
  refine TQ.then_ ?_
  refine TC.ret ?_
  obtain rfl:=Option.some.inj h
  exact TQ.fin (.inl rfl) rfl Try.results13 (.tmp rfl .nil) rfl (FRel.mk (Ls:=[]) [] 2 (Gd.le.refl _) rfl rfl rfl ⟨rfl,rfl,rfl⟩)
def parse_Same.fix:Nat → (S24 → S24 → Option Bool)
 | 0=>(fun _ _=>none)
 | n + 1=>parse_Same.g (parse_Same.fix n)
theorem parse_Same.fixc:∀ k,(∀ {G:Gd} {r:Bool} {a0:S24} {a1:S24} {A1:Option Addr} {c2:Nat} {A5:Option Addr} {c6:Nat} (hr3:Rd G k24 A1 a0.f3) (hl4:a0.f3.length ≤ c2) (hr7:Rd G k24 A5 a1.f3) (hl8:a1.f3.length ≤ c6),(parse_Same.fix k) a0 a1=some r → Fn Try.prog 13 G [] [.agg #[VI a0.f0,.string a0.f1,VI a0.f2,.slice A1 a0.f3.length c2],.agg #[VI a1.f0,.string a1.f1,VI a1.f2,.slice A5 a1.f3.length c6]] (parse_Same.post G  r))∧True
 | 0=>⟨(by intros; contradiction),trivial⟩
 | k + 1=>by
  have ih:=parse_Same.fixc k
  exact ⟨(by
   intro G r a0 a1 A1 c2 A5 c6 hr3 hl4 hr7 hl8 h
   exact parse_Same.step _ ih.1 hr3 hl4 hr7 hl8 h),trivial⟩
def parse_Same.f (a0:S24) (a1:S24):Option Bool:=(parse_Same.fix 100000) a0 a1
theorem parse_Same.calls {G:Gd} {r:Bool} {a0:S24} {a1:S24} {A1:Option Addr} {c2:Nat} {A5:Option Addr} {c6:Nat} (hr3:Rd G k24 A1 a0.f3) (hl4:a0.f3.length ≤ c2) (hr7:Rd G k24 A5 a1.f3) (hl8:a1.f3.length ≤ c6) (h:parse_Same.f a0 a1=some r):Fn Try.prog 13 G [] [.agg #[VI a0.f0,.string a0.f1,VI a0.f2,.slice A1 a0.f3.length c2],.agg #[VI a1.f0,.string a1.f1,VI a1.f2,.slice A5 a1.f3.length c6]] (parse_Same.post G  r):=(parse_Same.fixc 100000).1 hr3 hl4 hr7 hl8 h
end Go.Proofs.Ythlhmoocgjddpaa.Sy
set_option linter.unusedVariables false
set_option linter.unusedSimpArgs false
namespace Go.Proofs.Ythlhmoocgjddpaa.Sy
open Go Go.RowKit Go.Proofs.YthlhmoocgjddpaaW.PrintWords
mutual
/-- Are two alike? -/
def same : S24 → S24 → Bool
  | ⟨a, b, _, l⟩, ⟨c, d, _, k⟩ => decide (a = c) && (b.data.toList == d.data.toList) && sameL l k
def sameL : List S24 → List S24 → Bool
  | [], [] => true
  | x :: l, y :: k => same x y && sameL l k
  | [], _ :: _ => false
  | _ :: _, [] => false
end
theorem same_eq (t u : S24) : same t u = (decide (t.f0 = u.f0) && (t.f1.data.toList == u.f1.data.toList) && sameL t.f3 u.f3) := by cases t; cases u; simp only [same]
theorem sameL_len : ∀ {l k : List S24}, sameL l k = true → l.length = k.length
  | [], [], _ => rfl
  | x :: l, y :: k, h => by
    simp [sameL] at h
    have := sameL_len h.2
    simp [this]
  | [], _ :: _, h => by simp [sameL] at h
  | _ :: _, [], h => by simp [sameL] at h
theorem sameL_refl : ∀ (l : List S24), (∀ y ∈ l, same y y = true) → sameL l l = true
  | [], _ => by simp [sameL]
  | x :: r, h => by
    simp [sameL, h x List.mem_cons_self]
    exact sameL_refl r (fun y hy => h y (List.mem_cons_of_mem _ hy))
theorem same_refl (t : S24) : same t t = true := by
  refine S24.ind (P := fun t => same t t = true) (fun t ih => ?_) t
  simp [same_eq, sameL_refl _ ih]
/-! #### Walks by number -/
theorem kids_small {t : S24} (h : cnt t ≤ 700) : t.f3.length ≤ 700 ∧ ∀ y ∈ t.f3, cnt y ≤ 700 := by
  have := cnt_eq t; have := cntL_len t.f3
  exact ⟨by omega, fun y hy => by have := cntL_mem hy; omega⟩
theorem same_l0 {rec : S24 → S24 → Option Bool} {t u : S24} (hl : t.f3.length ≤ 1000) (hlen : t.f3.length = u.f3.length) (hr : ∀ x ∈ t.f3, ∀ y, rec x y = some (same x y)) :
    ∀ (xs ys : List S24) (n i : Nat), t.f3.drop i = xs → u.f3.drop i = ys → xs.length < n → i ≤ t.f3.length → parse_Same.l0 rec t u (fun x => some x) n i = some (if sameL xs ys then .inr () else .inl false) := by
  intro xs
  induction xs with
  | nil =>
    intro ys n i hx hy hn hi
    obtain ⟨n, rfl⟩ : ∃ m, n = m + 1 := ⟨n - 1, by simp at hn; omega⟩
    have hxl := drop_nil hx
    have hy0 : ys = [] := by rw [← hy]; exact List.drop_eq_nil_of_le (by omega)
    subst hy0
    rw [parse_Same.l0, if_neg hxl]; simp [sameL]
  | cons x xs ih =>
    intro ys n i hx hy hn hi
    obtain ⟨n, rfl⟩ : ∃ m, n = m + 1 := ⟨n - 1, by simp at hn; omega⟩
    obtain ⟨h1, h2, h3, h4⟩ := drop_cons hx
    cases ys with
    | nil => have := drop_nil hy; omega
    | cons y ys =>
      obtain ⟨_, g2, g3, _⟩ := drop_cons hy
      rw [parse_Same.l0, if_pos h1, h2]
      simp only [Option.bind_some]
      rw [g2]
      simp only [Option.bind_some]
      rw [hr x h4 y]
      simp only [Option.bind_some]
      cases hs : same x y with
      | false => simp [sameL, hs]
      | true =>
        simp only [Bool.not_true, Bool.false_eq_true, if_false]
        rw [wsucc (by omega), ih ys n (i + 1) h3 g3 (by simp at hn; omega) (by omega)]
        simp [sameL, hs]
theorem same_g {rec : S24 → S24 → Option Bool} {t u : S24} (hl : t.f3.length ≤ 1000) (hr : ∀ x ∈ t.f3, ∀ y, rec x y = some (same x y)) : parse_Same.g rec t u = some (same t u) := by
  unfold parse_Same.g
  simp only [jn]
  rw [same_eq]
  by_cases h0 : t.f0 = u.f0
  · by_cases h1 : t.f1.data.toList = u.f1.data.toList
    · by_cases h2 : t.f3.length = u.f3.length
      · have := same_l0 (rec := rec) (t := t) (u := u) hl h2 hr t.f3 u.f3 (t.f3.length + 1) 0 (by simp) (by simp) (by omega) (by omega)
        have this' : parse_Same.l0 rec t u (fun x => some x) (t.f3.length + 1) 0 = some (if sameL t.f3 u.f3 then .inr () else .inl false) := this
        have h2' : ((t.f3.length : Int) = (u.f3.length : Int)) := by omega
        simp only [h0, h1, h2', decide_true, Bool.not_true, Bool.false_eq_true, if_false]
        rw [this']
        cases sameL t.f3 u.f3 <;> simp
      · have hs : sameL t.f3 u.f3 = false := by
          cases hh : sameL t.f3 u.f3 with
          | false => rfl
          | true => exact absurd (sameL_len hh) h2
        have h2' : ¬ ((t.f3.length : Int) = (u.f3.length : Int)) := by omega
        simp [h0, h1, h2', hs]
    · have h1' : ¬ t.f1.data = u.f1.data := fun h => h1 (by rw [h])
      simp [h0, h1']
  · simp [h0]
theorem same_fix : ∀ (m : Nat) (t u : S24), dep t ≤ m → cnt t ≤ 700 → parse_Same.fix m t u = some (same t u)
  | 0, t, _, h, _ => by have := dep_eq t; omega
  | m + 1, t, u, h, hc => by
    have hd := dep_eq t
    obtain ⟨hl, hk⟩ := kids_small hc
    exact same_g (by omega) (fun x hx y => same_fix m x y (by have := depL_mem hx; omega) (hk x hx))
end Go.Proofs.Ythlhmoocgjddpaa.Sy
set_option linter.unusedVariables false
set_option linter.unusedSimpArgs false
set_option maxRecDepth 100000
set_option maxHeartbeats 4000000
namespace Go.Proofs.Ythlhmoocgjddpaa.Sy
open Go Go.RowKit Go.Proofs.YthlhmoocgjddpaaW.PrintWords 
def token_blank.f (a0:Int):Option Bool:=(if a0=32 then some true else (if a0=9 then some true else (if a0=10 then some true else some (decide (a0=13)))))
def token_blank.post (G:Gd)  (r:Bool) (v:Value) (G':Gd) (Lr:List Ch):Prop:=G=G'∧v=.bool r∧Lr=[]
theorem token_blank.calls {G:Gd} {r:Bool} {a0:Int} (h:token_blank.f a0=some r):Fn Try.prog 54 G [] [.int .u8 a0] (token_blank.post G  r):=by
 refine Fn.intro (e:=[(0,.int .u8 a0)]) 17 Try.func54 rfl Try.ntmps54 rfl rfl (Nat.le_of_ble_eq_true rfl) (fun L=>?_)
 unfold token_blank.f at h
 refine TC.seq ?_
 refine TC.region ?_
 refine TV rfl rfl rfl (Val.assign rfl) ?_
 refine TL.nil ?_
 refine TQ.then_ ?_
 refine TC.seq ?_
 refine TC.region ?_
 refine TV rfl rfl rfl (Val.move rfl) ?_
 refine TV rfl rfl rfl (Val.cmp rfl rfl run_eql) ?_
 refine TV rfl rfl rfl (Val.move rfl) ?_
 refine TK.split (p:=a0=32) h (fun hg10 h=>?_) (fun hg10 h=>?_)
 ·
  have hk11:decide (a0=32)=true:=decide_eq_true hg10
  refine TL.cons (TL.not (Wt.no rfl rfl rfl hk11) rfl ?_)
  refine TL.cons (TL.not (Wt.no rfl rfl rfl hk11) rfl ?_)
  refine TV rfl rfl rfl (Val.pickY rfl hk11 rfl) ?_
  refine TV rfl rfl rfl (Val.move rfl) ?_
  refine TL.cons (TL.not (Wt.no rfl rfl rfl rfl) rfl ?_)
  refine TL.cons (TL.not (Wt.no rfl rfl rfl rfl) rfl ?_)
  refine TV rfl rfl rfl (Val.pickY rfl rfl rfl) ?_
  refine TV rfl rfl rfl (Val.move rfl) ?_
  refine TL.cons (TL.not (Wt.no rfl rfl rfl rfl) rfl ?_)
  refine TL.cons (TL.not (Wt.no rfl rfl rfl rfl) rfl ?_)
  refine TV rfl rfl rfl (Val.pickY rfl rfl rfl) ?_
  refine TV rfl rfl rfl (Val.assign rfl) ?_
  refine TL.nil ?_
  refine TQ.then_ ?_
  refine TC.ret ?_
  obtain rfl:=Option.some.inj h
  exact TQ.fin (.inl rfl) rfl Try.results54 (.tmp rfl .nil) rfl (FRel.mk (Ls:=[]) [] 0 (Gd.le.refl _) rfl rfl rfl ⟨rfl,rfl,rfl⟩)
 ·
  have hk12:decide (a0=32)=false:=decide_eq_false hg10
  refine TV (Wt.yes rfl rfl rfl hk12) rfl rfl (Val.move rfl) ?_
  refine TV (Wt.yes rfl rfl rfl hk12) rfl rfl (Val.cmp rfl rfl run_eql) ?_
  refine TV rfl rfl rfl (Val.pickN rfl hk12 rfl) ?_
  refine TV rfl rfl rfl (Val.move rfl) ?_
  refine TK.split (p:=a0=9) h (fun hg13 h=>?_) (fun hg13 h=>?_)
  ·
   have hk14:decide (a0=9)=true:=decide_eq_true hg13
   refine TL.cons (TL.not (Wt.no rfl rfl rfl hk14) rfl ?_)
   refine TL.cons (TL.not (Wt.no rfl rfl rfl hk14) rfl ?_)
   refine TV rfl rfl rfl (Val.pickY rfl hk14 rfl) ?_
   refine TV rfl rfl rfl (Val.move rfl) ?_
   refine TL.cons (TL.not (Wt.no rfl rfl rfl rfl) rfl ?_)
   refine TL.cons (TL.not (Wt.no rfl rfl rfl rfl) rfl ?_)
   refine TV rfl rfl rfl (Val.pickY rfl rfl rfl) ?_
   refine TV rfl rfl rfl (Val.assign rfl) ?_
   refine TL.nil ?_
   refine TQ.then_ ?_
   refine TC.ret ?_
   obtain rfl:=Option.some.inj h
   exact TQ.fin (.inl rfl) rfl Try.results54 (.tmp rfl .nil) rfl (FRel.mk (Ls:=[]) [] 0 (Gd.le.refl _) rfl rfl rfl ⟨rfl,rfl,rfl⟩)
  ·
   have hk15:decide (a0=9)=false:=decide_eq_false hg13
   refine TV (Wt.yes rfl rfl rfl hk15) rfl rfl (Val.move rfl) ?_
   refine TV (Wt.yes rfl rfl rfl hk15) rfl rfl (Val.cmp rfl rfl run_eql) ?_
   refine TV rfl rfl rfl (Val.pickN rfl hk15 rfl) ?_
   refine TV rfl rfl rfl (Val.move rfl) ?_
   refine TK.split (p:=a0=10) h (fun hg16 h=>?_) (fun hg16 h=>?_)
   ·
    have hk17:decide (a0=10)=true:=decide_eq_true hg16
    refine TL.cons (TL.not (Wt.no rfl rfl rfl hk17) rfl ?_)
    refine TL.cons (TL.not (Wt.no rfl rfl rfl hk17) rfl ?_)
    refine TV rfl rfl rfl (Val.pickY rfl hk17 rfl) ?_
    refine TV rfl rfl rfl (Val.assign rfl) ?_
    refine TL.nil ?_
    refine TQ.then_ ?_
    refine TC.ret ?_
    obtain rfl:=Option.some.inj h
    exact TQ.fin (.inl rfl) rfl Try.results54 (.tmp rfl .nil) rfl (FRel.mk (Ls:=[]) [] 0 (Gd.le.refl _) rfl rfl rfl ⟨rfl,rfl,rfl⟩)
   ·
    have hk18:decide (a0=10)=false:=decide_eq_false hg16
    refine TV (Wt.yes rfl rfl rfl hk18) rfl rfl (Val.move rfl) ?_
    refine TV (Wt.yes rfl rfl rfl hk18) rfl rfl (Val.cmp rfl rfl run_eql) ?_
    refine TV rfl rfl rfl (Val.pickN rfl hk18 rfl) ?_
    refine TV rfl rfl rfl (Val.assign rfl) ?_
    refine TL.nil ?_
    refine TQ.then_ ?_
    refine TC.ret ?_
    obtain rfl:=Option.some.inj h
    exact TQ.fin (.inl rfl) rfl Try.results54 (.tmp rfl .nil) rfl (FRel.mk (Ls:=[]) [] 0 (Gd.le.refl _) rfl rfl rfl ⟨rfl,rfl,rfl⟩)
def internal_stringslite_HasPrefix.f (a0:ByteArray) (a1:ByteArray):Option Bool:=(if (a1.size:Int) ≤ (a0.size:Int) then (cutS? a0 0 (a1.size:Int)).bind fun (y8:ByteArray)=>some (y8.data.toList == a1.data.toList) else some false)
def internal_stringslite_HasPrefix.post (G:Gd)  (r:Bool) (v:Value) (G':Gd) (Lr:List Ch):Prop:=G=G'∧v=.bool r∧Lr=[]
theorem internal_stringslite_HasPrefix.calls {G:Gd} {r:Bool} {a0:ByteArray} {a1:ByteArray} (h:internal_stringslite_HasPrefix.f a0 a1=some r):Fn Try.prog 70 G [] [.string a0,.string a1] (internal_stringslite_HasPrefix.post G  r):=by
 refine Fn.intro (e:=[(0,.string a0),(1,.string a1)]) 18 Try.func70 rfl Try.ntmps70 rfl rfl (Nat.le_of_ble_eq_true rfl) (fun L=>?_)
 unfold internal_stringslite_HasPrefix.f at h
 refine TC.seq ?_
 refine TC.region ?_
 refine TV rfl rfl rfl (Val.assign rfl) ?_
 refine TL.nil ?_
 refine TQ.then_ ?_
 refine TC.seq ?_
 refine TC.region ?_
 refine TV rfl rfl rfl (Val.move rfl) ?_
 refine TV rfl rfl rfl (Val.lenS Try.underlying9 rfl) ?_
 refine TV rfl rfl rfl (Val.move rfl) ?_
 refine TV rfl rfl rfl (Val.lenS Try.underlying9 rfl) ?_
 refine TV rfl rfl rfl (Val.cmp rfl rfl run_geq) ?_
 refine TV rfl rfl rfl (Val.move rfl) ?_
 refine TK.split (p:=(a1.size:Int) ≤ (a0.size:Int)) h (fun hg6 h=>?_) (fun hg6 h=>?_)
 ·
  have hk7:decide ((a1.size:Int) ≤ (a0.size:Int))=true:=decide_eq_true hg6
  refine TV (Wt.yes rfl rfl rfl hk7) rfl rfl (Val.move rfl) ?_
  refine TV (Wt.yes rfl rfl rfl hk7) rfl rfl (Val.move rfl) ?_
  refine TV (Wt.yes rfl rfl rfl hk7) rfl rfl (Val.lenS Try.underlying9 rfl) ?_
  obtain ⟨y8,hy9,h⟩:=bind_no h
  refine TV (Wt.yes rfl rfl rfl hk7) rfl rfl (Val.cutS Try.underlying9 rfl rfl rfl hy9) ?_
  refine TV (Wt.yes rfl rfl rfl hk7) rfl rfl (Val.move rfl) ?_
  refine TV (Wt.yes rfl rfl rfl hk7) rfl rfl (Val.eqT rfl rfl) ?_
  refine TV rfl rfl rfl (Val.pickY rfl hk7 rfl) ?_
  refine TV rfl rfl rfl (Val.assign rfl) ?_
  refine TL.nil ?_
  refine TQ.then_ ?_
  refine TC.ret ?_
  obtain rfl:=Option.some.inj h
  exact TQ.fin (.inl rfl) rfl Try.results70 (.tmp rfl .nil) rfl (FRel.mk (Ls:=[]) [] 0 (Gd.le.refl _) rfl rfl rfl ⟨rfl,rfl,rfl⟩)
 ·
  have hk10:decide ((a1.size:Int) ≤ (a0.size:Int))=false:=decide_eq_false hg6
  refine TL.cons (TL.not (Wt.no rfl rfl rfl hk10) rfl ?_)
  refine TL.cons (TL.not (Wt.no rfl rfl rfl hk10) rfl ?_)
  refine TL.cons (TL.not (Wt.no rfl rfl rfl hk10) rfl ?_)
  refine TL.cons (TL.not (Wt.no rfl rfl rfl hk10) rfl ?_)
  refine TL.cons (TL.not (Wt.no rfl rfl rfl hk10) rfl ?_)
  refine TL.cons (TL.not (Wt.no rfl rfl rfl hk10) rfl ?_)
  refine TV rfl rfl rfl (Val.pickN rfl hk10 rfl) ?_
  refine TV rfl rfl rfl (Val.assign rfl) ?_
  refine TL.nil ?_
  refine TQ.then_ ?_
  refine TC.ret ?_
  obtain rfl:=Option.some.inj h
  exact TQ.fin (.inl rfl) rfl Try.results70 (.tmp rfl .nil) rfl (FRel.mk (Ls:=[]) [] 0 (Gd.le.refl _) rfl rfl rfl ⟨rfl,rfl,rfl⟩)
def strings_HasPrefix.f (a0:ByteArray) (a1:ByteArray):Option Bool:=(internal_stringslite_HasPrefix.f a0 a1).bind fun (y1:Bool)=>some y1
def strings_HasPrefix.post (G:Gd)  (r:Bool) (v:Value) (G':Gd) (Lr:List Ch):Prop:=G=G'∧v=.bool r∧Lr=[]
theorem strings_HasPrefix.calls {G:Gd} {r:Bool} {a0:ByteArray} {a1:ByteArray} (h:strings_HasPrefix.f a0 a1=some r):Fn Try.prog 55 G [] [.string a0,.string a1] (strings_HasPrefix.post G  r):=by
 refine Fn.intro (e:=[(0,.string a0),(1,.string a1)]) 8 Try.func55 rfl Try.ntmps55 rfl rfl (Nat.le_of_ble_eq_true rfl) (fun L=>?_)
 unfold strings_HasPrefix.f at h
 refine TC.seq ?_
 refine TC.region ?_
 refine TV rfl rfl rfl (Val.assign rfl) ?_
 refine TL.nil ?_
 refine TQ.then_ ?_
 refine TC.seq ?_
 refine TC.region ?_
 refine TV rfl rfl rfl (Val.move rfl) ?_
 refine TV rfl rfl rfl (Val.move rfl) ?_
 obtain ⟨y1,hy2,h⟩:=bind_no h
 refine TL.cons (TL.callV (Lin:=[]) (args:=[.string a0,.string a1]) rfl rfl rfl hbd70 rfl rfl (internal_stringslite_HasPrefix.calls (a0:=a0) (a1:=a1) hy2) rfl ?_)
 rintro _ _ _ _ ⟨rfl,rfl,rfl⟩
 refine TV rfl rfl rfl (Val.assign rfl) ?_
 refine TL.nil ?_
 refine TQ.then_ ?_
 refine TC.ret ?_
 obtain rfl:=Option.some.inj h
 exact TQ.fin (.inl rfl) rfl Try.results55 (.tmp rfl .nil) rfl (FRel.mk (Ls:=[]) [] 0 (Gd.le.refl _) rfl rfl rfl ⟨rfl,rfl,rfl⟩)
def token_skip_1.f (a0:Int):Option Bool:=some (!decide (a0=10))
def token_skip_1.post (G:Gd)  (r:Bool) (v:Value) (G':Gd) (Lr:List Ch):Prop:=G=G'∧v=.bool r∧Lr=[]
theorem token_skip_1.calls {G:Gd} {r:Bool} {a0:Int} (h:token_skip_1.f a0=some r):Fn Try.prog 56 G [] [.int .u8 a0] (token_skip_1.post G  r):=by
 refine Fn.intro (e:=[(0,.int .u8 a0)]) 5 Try.func56 rfl Try.ntmps56 rfl rfl (Nat.le_of_ble_eq_true rfl) (fun L=>?_)
 unfold token_skip_1.f at h
 refine TC.seq ?_
 refine TC.region ?_
 refine TV rfl rfl rfl (Val.assign rfl) ?_
 refine TL.nil ?_
 refine TQ.then_ ?_
 refine TC.seq ?_
 refine TC.region ?_
 refine TV rfl rfl rfl (Val.move rfl) ?_
 refine TV rfl rfl rfl (Val.cmp rfl rfl run_neq) ?_
 refine TV rfl rfl rfl (Val.assign rfl) ?_
 refine TL.nil ?_
 refine TQ.then_ ?_
 refine TC.ret ?_
 obtain rfl:=Option.some.inj h
 exact TQ.fin (.inl rfl) rfl Try.results56 (.tmp rfl .nil) rfl (FRel.mk (Ls:=[]) [] 0 (Gd.le.refl _) rfl rfl rfl ⟨rfl,rfl,rfl⟩)
def token_skip.l2 (a0:ByteArray):Nat → Int → Option (Int)
 | 0,_=>none
 | n1626 + 1,x1605=>jn (γ:=(Int)) (fun (x1652:Bool)=>(if x1652=true then token_skip.l2 a0 n1626 (IntKind.i64.wrap (x1605 + 1)) else some x1605)) (fun (j1653:(Bool → Option (Int)))=>(if x1605 < (a0.size:Int) then (byte? a0 x1605).bind fun (y1658:Int)=>(token_skip_1.f y1658).bind fun (y1660:Bool)=>j1653 y1660 else j1653 false))
def token_skip.l1 (a0:ByteArray):Nat → Int → Option (Int)
 | 0,_=>none
 | n1484 + 1,x1463=>jn (γ:=(Int)) (fun (x1670:Bool)=>(if x1670=true then token_skip.l1 a0 n1484 (IntKind.i64.wrap (x1463 + 1)) else some x1463)) (fun (j1671:(Bool → Option (Int)))=>(if x1463 < (a0.size:Int) then (byte? a0 x1463).bind fun (y1676:Int)=>(token_blank.f y1676).bind fun (y1678:Bool)=>j1671 y1678 else j1671 false))
def token_skip.l0 (a0:ByteArray):Nat → Int → Option Int
 | 0,_=>none
 | n892 + 1,x594=>(token_skip.l1 a0 (a0.size + 1) x594).bind fun (x1482:Int)=>(cutS? a0 x1482 (a0.size:Int)).bind fun (y1503:ByteArray)=>(strings_HasPrefix.f y1503 (⟨#[47,47]⟩:ByteArray)).bind fun (y1505:Bool)=>(if (!y1505)=true then some x1482 else (token_skip.l2 a0 (a0.size + 1) x1482).bind fun (x1624:Int)=>token_skip.l0 a0 n892 x1624)
def token_skip.f (a0:ByteArray) (a1:Int):Option Int:=(token_skip.l0 a0 (a0.size + 1) a1).bind fun q_=>some q_
def token_skip.post (G:Gd)  (r:Int) (v:Value) (G':Gd) (Lr:List Ch):Prop:=G=G'∧v=VI r∧Lr=[]
theorem token_skip.calls {G:Gd} {r:Int} {a0:ByteArray} {a1:Int} (h:token_skip.f a0 a1=some r):Fn Try.prog 41 G [] [.string a0,VI a1] (token_skip.post G  r):=by
 refine Fn.intro (e:=[(0,.string a0),(1,VI a1)]) 17 Try.func41 rfl Try.ntmps41 rfl rfl (Nat.le_of_ble_eq_true rfl) (fun L=>?_)
 unfold token_skip.f at h
 refine TC.seq ?_
 refine TC.region ?_
 refine TV rfl rfl rfl (Val.assign rfl) ?_
 refine TL.nil ?_
 refine TQ.then_ ?_
 obtain ⟨o891,ho891,ko891⟩:=bind_no h
 clear h
 refine TC.tail (fun a W=>False) (fun a W h=>h.elim) ?_
 ·
  refine TC.block ?_
  intro a W hF hO
  have hS:∃ (x594:Int),token_skip.l0 a0 (a0.size + 1) x594=some o891∧Fr 17 a [(0,.string a0),(1,VI x594)]∧Own G (L) W:=by
   exact ⟨a1,ho891,hF.sub ⟨rfl,rfl,trivial⟩,hO.selT (Ls:=[]) [] 0 rfl rfl rfl⟩
  clear hF hO ho891
  refine TC.loop (fun n892 a W=>∃ (x594:Int),token_skip.l0 a0 n892 x594=some o891∧Fr 17 a [(0,.string a0),(1,VI x594)]∧Own G (L) W) ?_ ?_ hS
  ·
   rintro a W ⟨x594,h,hF,hO⟩
   exact none_no h
  ·
   clear hS
   rintro n892 a W ⟨x594,h,hF,hO⟩
   rw [token_skip.l0] at h
   refine TC.use ?_ hF hO
   clear hF hO
   refine TC.block ?_
   refine TC.seq ?_
   refine TC.region ?_
   refine TV rfl rfl rfl (Val.move rfl) ?_
   refine TV rfl rfl rfl (Val.move rfl) ?_
   refine TL.cons (TO.inl (args:=[.string a0,VI x594,.func (.func 54) #[] #[]]) (e':=[(0,.string a0),(1,VI x594),(2,.func (.func 54) #[] #[])]) 21 rfl rfl hbd53 rfl rfl Try.func53 rfl Try.ntmps53 rfl rfl (Nat.le_of_ble_eq_true rfl) (fun a1367 hf1368=>?_))
   refine TC.seq ?_
   refine TC.region ?_
   refine TV rfl rfl rfl (Val.assign rfl) ?_
   refine TL.nil ?_
   refine TQ.then_ ?_
   refine TC.seq ?_
   obtain ⟨o1483,ho1483,ko1483⟩:=bind_no h
   clear h
   refine TC.tail (fun a W=>∃ (x1482:Int),x1482=o1483∧Fr 21 a [(1,VI x1482)]∧Own G (L) W) ?_ ?_
   ·
    rintro a W ⟨x1482,rfl,hF,hO⟩
    have h:=ko1483
    clear ko1483 ho1483
    refine TQ.use ?_ hF hO
    clear hF hO
    refine TQ.then_ ?_
    refine TC.seq ?_
    refine TC.region ?_
    refine TV rfl rfl rfl (Val.move rfl) ?_
    refine TV rfl rfl rfl (Val.assign rfl) ?_
    refine TL.nil ?_
    refine TQ.then_ ?_
    refine TC.ret ?_
    refine TQ.fin (v:=VI x1482) (.inl rfl) rfl Try.results53 (.tmp rfl .nil) rfl (After.mk hf1368 rfl ?_)
    refine TV rfl rfl rfl (Val.assign rfl) ?_
    refine TL.nil ?_
    refine TQ.then_ ?_
    refine TC.seq ?_
    refine TC.seq ?_
    refine TC.region ?_
    refine TV rfl rfl rfl (Val.move rfl) ?_
    refine TV rfl rfl rfl (Val.move rfl) ?_
    obtain ⟨y1503,hy1504,h⟩:=bind_no h
    refine TV rfl rfl rfl (Val.cutS Try.underlying9 rfl rfl rfl hy1504) ?_
    obtain ⟨y1505,hy1506,h⟩:=bind_no h
    refine TL.cons (TL.callV (Lin:=[]) (args:=[.string y1503,.string (⟨#[47,47]⟩:ByteArray)]) rfl rfl rfl hbd55 rfl rfl (strings_HasPrefix.calls (a0:=y1503) (a1:=(⟨#[47,47]⟩:ByteArray)) hy1506) rfl ?_)
    rintro _ _ _ _ ⟨rfl,rfl,rfl⟩
    refine TV rfl rfl rfl (Val.not_ rfl) ?_
    refine TL.nil ?_
    refine TQ.then_ ?_
    refine TC.cond_b rfl h (fun hc1508 h=>?_) (fun hc1508 h=>?_)
    ·
     refine TC.seq ?_
     refine TC.region ?_
     refine TV rfl rfl rfl (Val.move rfl) ?_
     refine TV rfl rfl rfl (Val.assign rfl) ?_
     refine TL.nil ?_
     refine TQ.then_ ?_
     refine TC.ret ?_
     refine TQ.thenR ?_
     refine TQ.inBR ?_
     refine TQ.thenR ?_
     refine TQ.inBR ?_
     refine TQ.thenR ?_
     obtain rfl:=Option.some.inj h
     have h:=ko891
     obtain rfl:=Option.some.inj h
     exact TQ.fin (.inl rfl) rfl Try.results41 (.tmp rfl .nil) rfl (FRel.mk (Ls:=[]) [] 0 (Gd.le.refl _) rfl rfl rfl ⟨rfl,rfl,rfl⟩)
    ·
     refine TC.skip ?_
     refine TQ.then_ ?_
     refine TC.region ?_
     refine TV rfl rfl rfl (Val.move rfl) ?_
     refine TV rfl rfl rfl (Val.move rfl) ?_
     refine TL.cons (TO.inl (args:=[.string a0,VI x1482,.func (.func 56) #[] #[]]) (e':=[(0,.string a0),(1,VI x1482),(2,.func (.func 56) #[] #[])]) 21 rfl rfl hbd53 rfl rfl Try.func53 rfl Try.ntmps53 rfl rfl (Nat.le_of_ble_eq_true rfl) (fun a1509 hf1510=>?_))
     refine TC.seq ?_
     refine TC.region ?_
     refine TV rfl rfl rfl (Val.assign rfl) ?_
     refine TL.nil ?_
     refine TQ.then_ ?_
     refine TC.seq ?_
     obtain ⟨o1625,ho1625,ko1625⟩:=bind_no h
     clear h
     refine TC.tail (fun a W=>∃ (x1624:Int),x1624=o1625∧Fr 21 a [(1,VI x1624)]∧Own G (L) W) ?_ ?_
     ·
      rintro a W ⟨x1624,rfl,hF,hO⟩
      have h:=ko1625
      clear ko1625 ho1625
      refine TQ.use ?_ hF hO
      clear hF hO
      refine TQ.then_ ?_
      refine TC.seq ?_
      refine TC.region ?_
      refine TV rfl rfl rfl (Val.move rfl) ?_
      refine TV rfl rfl rfl (Val.assign rfl) ?_
      refine TL.nil ?_
      refine TQ.then_ ?_
      refine TC.ret ?_
      refine TQ.fin (v:=VI x1624) (.inl rfl) rfl Try.results53 (.tmp rfl .nil) rfl (After.mk hf1510 rfl ?_)
      refine TV rfl rfl rfl (Val.assign rfl) ?_
      refine TL.nil ?_
      refine TQ.inB ?_
      exact fun a W hF hO=>⟨x1624,h,hF.sub ⟨rfl,rfl,trivial⟩,hO.selT (Ls:=[]) [] 0 rfl rfl rfl⟩
     ·
      refine TC.block ?_
      intro a W hF hO
      have hS:∃ (x1605:Int),token_skip.l2 a0 (a0.size + 1) x1605=some o1625∧Fr 21 a [(0,.string a0),(1,VI x1605),(2,.func (.func 56) #[] #[])]∧Own G (L) W:=by
       exact ⟨x1482,ho1625,hF.sub ⟨rfl,rfl,rfl,trivial⟩,hO.selT (Ls:=[]) [] 0 rfl rfl rfl⟩
      clear hF hO ho1625 ko1625
      refine TC.loop (fun n1626 a W=>∃ (x1605:Int),token_skip.l2 a0 n1626 x1605=some o1625∧Fr 21 a [(0,.string a0),(1,VI x1605),(2,.func (.func 56) #[] #[])]∧Own G (L) W) ?_ ?_ hS
      ·
       rintro a W ⟨x1605,h,hF,hO⟩
       exact none_no h
      ·
       clear hS
       rintro n1626 a W ⟨x1605,h,hF,hO⟩
       rw [token_skip.l2] at h
       refine TC.use ?_ hF hO
       clear hF hO
       refine TC.seq ?_
       refine TC.seq ?_
       obtain ⟨j1653,hj1653,h⟩:=jn_no h
       refine TC.tail (fun a W=>∃ (x1652:Bool),j1653 x1652=some o1625∧Fr 21 a [(0,.string a0),(1,VI x1605),(2,.func (.func 56) #[] #[]),(17,.bool x1652)]∧Own G (L) W) ?_ ?_
       ·
        rintro a W ⟨x1652,h,hF,hO⟩
        rw [hj1653] at h
        refine TQ.use ?_ hF hO
        clear hF hO
        refine TQ.then_ ?_
        refine TC.cond_b rfl h (fun hc1655 h=>?_) (fun hc1655 h=>?_)
        ·
         refine TC.skip ?_
         refine TQ.then_ ?_
         refine TC.block ?_
         refine TC.region ?_
         refine TV rfl rfl rfl (Val.move rfl) ?_
         refine TV rfl rfl rfl (Val.cmp rfl rfl run_add) ?_
         refine TV rfl rfl rfl (Val.assign rfl) ?_
         refine TL.nil ?_
         refine TQ.inB ?_
         exact fun a W hF hO=>⟨IntKind.i64.wrap (x1605 + 1),h,hF.sub ⟨rfl,rfl,rfl,trivial⟩,hO.selT (Ls:=[]) [] 0 rfl rfl rfl⟩
        ·
         refine TC.exit ?_
         refine TQ.thenX ?_
         refine TQ.thenX ?_
         refine TQ.inBX ?_
         exact fun a W hF hO=>⟨x1605,Option.some.inj h,hF.sub ⟨rfl,trivial⟩,hO.selT (Ls:=[]) [] 0 rfl rfl rfl⟩
       ·
        refine TC.region ?_
        refine TV rfl rfl rfl (Val.move rfl) ?_
        refine TV rfl rfl rfl (Val.move rfl) ?_
        refine TV rfl rfl rfl (Val.lenS Try.underlying9 rfl) ?_
        refine TV rfl rfl rfl (Val.cmp rfl rfl run_lss) ?_
        refine TV rfl rfl rfl (Val.move rfl) ?_
        refine TK.split (p:=x1605 < (a0.size:Int)) h (fun hg1656 h=>?_) (fun hg1656 h=>?_)
        ·
         have hk1657:decide (x1605 < (a0.size:Int))=true:=decide_eq_true hg1656
         refine TV (Wt.yes rfl rfl rfl hk1657) rfl rfl (Val.move rfl) ?_
         refine TV (Wt.yes rfl rfl rfl hk1657) rfl rfl (Val.move rfl) ?_
         refine TV (Wt.yes rfl rfl rfl hk1657) rfl rfl (Val.move rfl) ?_
         obtain ⟨y1658,hy1659,h⟩:=bind_no h
         refine TV (Wt.yes rfl rfl rfl hk1657) rfl rfl (Val.indexS Try.underlying9 rfl rfl hy1659) ?_
         obtain ⟨y1660,hy1661,h⟩:=bind_no h
         refine TL.cons (TL.callV (Lin:=[]) (args:=[.int .u8 y1658]) (Wt.yes rfl rfl rfl hk1657) rfl rfl hbd56 rfl rfl (token_skip_1.calls (a0:=y1658) hy1661) rfl ?_)
         rintro _ _ _ _ ⟨rfl,rfl,rfl⟩
         refine TV rfl rfl rfl (Val.pickY rfl hk1657 rfl) ?_
         refine TL.nil ?_
         exact fun a W hF hO=>⟨y1660,h,hF.sub ⟨rfl,rfl,rfl,rfl,trivial⟩,hO.selT (Ls:=[]) [] 0 rfl rfl rfl⟩
        ·
         have hk1662:decide (x1605 < (a0.size:Int))=false:=decide_eq_false hg1656
         refine TL.cons (TL.not (Wt.no rfl rfl rfl hk1662) rfl ?_)
         refine TL.cons (TL.not (Wt.no rfl rfl rfl hk1662) rfl ?_)
         refine TL.cons (TL.not (Wt.no rfl rfl rfl hk1662) rfl ?_)
         refine TL.cons (TL.not (Wt.no rfl rfl rfl hk1662) rfl ?_)
         refine TL.cons (TL.not (Wt.no rfl rfl rfl hk1662) rfl ?_)
         refine TV rfl rfl rfl (Val.pickN rfl hk1662 rfl) ?_
         refine TL.nil ?_
         exact fun a W hF hO=>⟨false,h,hF.sub ⟨rfl,rfl,rfl,rfl,trivial⟩,hO.selT (Ls:=[]) [] 0 rfl rfl rfl⟩
   ·
    refine TC.block ?_
    intro a W hF hO
    have hS:∃ (x1463:Int),token_skip.l1 a0 (a0.size + 1) x1463=some o1483∧Fr 21 a [(0,.string a0),(1,VI x1463),(2,.func (.func 54) #[] #[])]∧Own G (L) W:=by
     exact ⟨x594,ho1483,hF.sub ⟨rfl,rfl,rfl,trivial⟩,hO.selT (Ls:=[]) [] 0 rfl rfl rfl⟩
    clear hF hO ho1483 ko1483
    refine TC.loop (fun n1484 a W=>∃ (x1463:Int),token_skip.l1 a0 n1484 x1463=some o1483∧Fr 21 a [(0,.string a0),(1,VI x1463),(2,.func (.func 54) #[] #[])]∧Own G (L) W) ?_ ?_ hS
    ·
     rintro a W ⟨x1463,h,hF,hO⟩
     exact none_no h
    ·
     clear hS
     rintro n1484 a W ⟨x1463,h,hF,hO⟩
     rw [token_skip.l1] at h
     refine TC.use ?_ hF hO
     clear hF hO
     refine TC.seq ?_
     refine TC.seq ?_
     obtain ⟨j1671,hj1671,h⟩:=jn_no h
     refine TC.tail (fun a W=>∃ (x1670:Bool),j1671 x1670=some o1483∧Fr 21 a [(0,.string a0),(1,VI x1463),(2,.func (.func 54) #[] #[]),(17,.bool x1670)]∧Own G (L) W) ?_ ?_
     ·
      rintro a W ⟨x1670,h,hF,hO⟩
      rw [hj1671] at h
      refine TQ.use ?_ hF hO
      clear hF hO
      refine TQ.then_ ?_
      refine TC.cond_b rfl h (fun hc1673 h=>?_) (fun hc1673 h=>?_)
      ·
       refine TC.skip ?_
       refine TQ.then_ ?_
       refine TC.block ?_
       refine TC.region ?_
       refine TV rfl rfl rfl (Val.move rfl) ?_
       refine TV rfl rfl rfl (Val.cmp rfl rfl run_add) ?_
       refine TV rfl rfl rfl (Val.assign rfl) ?_
       refine TL.nil ?_
       refine TQ.inB ?_
       exact fun a W hF hO=>⟨IntKind.i64.wrap (x1463 + 1),h,hF.sub ⟨rfl,rfl,rfl,trivial⟩,hO.selT (Ls:=[]) [] 0 rfl rfl rfl⟩
      ·
       refine TC.exit ?_
       refine TQ.thenX ?_
       refine TQ.thenX ?_
       refine TQ.inBX ?_
       exact fun a W hF hO=>⟨x1463,Option.some.inj h,hF.sub ⟨rfl,trivial⟩,hO.selT (Ls:=[]) [] 0 rfl rfl rfl⟩
     ·
      refine TC.region ?_
      refine TV rfl rfl rfl (Val.move rfl) ?_
      refine TV rfl rfl rfl (Val.move rfl) ?_
      refine TV rfl rfl rfl (Val.lenS Try.underlying9 rfl) ?_
      refine TV rfl rfl rfl (Val.cmp rfl rfl run_lss) ?_
      refine TV rfl rfl rfl (Val.move rfl) ?_
      refine TK.split (p:=x1463 < (a0.size:Int)) h (fun hg1674 h=>?_) (fun hg1674 h=>?_)
      ·
       have hk1675:decide (x1463 < (a0.size:Int))=true:=decide_eq_true hg1674
       refine TV (Wt.yes rfl rfl rfl hk1675) rfl rfl (Val.move rfl) ?_
       refine TV (Wt.yes rfl rfl rfl hk1675) rfl rfl (Val.move rfl) ?_
       refine TV (Wt.yes rfl rfl rfl hk1675) rfl rfl (Val.move rfl) ?_
       obtain ⟨y1676,hy1677,h⟩:=bind_no h
       refine TV (Wt.yes rfl rfl rfl hk1675) rfl rfl (Val.indexS Try.underlying9 rfl rfl hy1677) ?_
       obtain ⟨y1678,hy1679,h⟩:=bind_no h
       refine TL.cons (TL.callV (Lin:=[]) (args:=[.int .u8 y1676]) (Wt.yes rfl rfl rfl hk1675) rfl rfl hbd54 rfl rfl (token_blank.calls (a0:=y1676) hy1679) rfl ?_)
       rintro _ _ _ _ ⟨rfl,rfl,rfl⟩
       refine TV rfl rfl rfl (Val.pickY rfl hk1675 rfl) ?_
       refine TL.nil ?_
       exact fun a W hF hO=>⟨y1678,h,hF.sub ⟨rfl,rfl,rfl,rfl,trivial⟩,hO.selT (Ls:=[]) [] 0 rfl rfl rfl⟩
      ·
       have hk1680:decide (x1463 < (a0.size:Int))=false:=decide_eq_false hg1674
       refine TL.cons (TL.not (Wt.no rfl rfl rfl hk1680) rfl ?_)
       refine TL.cons (TL.not (Wt.no rfl rfl rfl hk1680) rfl ?_)
       refine TL.cons (TL.not (Wt.no rfl rfl rfl hk1680) rfl ?_)
       refine TL.cons (TL.not (Wt.no rfl rfl rfl hk1680) rfl ?_)
       refine TL.cons (TL.not (Wt.no rfl rfl rfl hk1680) rfl ?_)
       refine TV rfl rfl rfl (Val.pickN rfl hk1680 rfl) ?_
       refine TL.nil ?_
       exact fun a W hF hO=>⟨false,h,hF.sub ⟨rfl,rfl,rfl,rfl,trivial⟩,hO.selT (Ls:=[]) [] 0 rfl rfl rfl⟩
def token_letter.f (a0:Int):Option Bool:=(if 97 ≤ a0 then (if a0 ≤ 122 then some true else (if 65 ≤ a0 then (if a0 ≤ 90 then some true else some (decide (a0=95))) else some (decide (a0=95)))) else (if 65 ≤ a0 then (if a0 ≤ 90 then some true else some (decide (a0=95))) else some (decide (a0=95))))
def token_letter.post (G:Gd)  (r:Bool) (v:Value) (G':Gd) (Lr:List Ch):Prop:=G=G'∧v=.bool r∧Lr=[]
theorem token_letter.calls {G:Gd} {r:Bool} {a0:Int} (h:token_letter.f a0=some r):Fn Try.prog 57 G [] [.int .u8 a0] (token_letter.post G  r):=by
 refine Fn.intro (e:=[(0,.int .u8 a0)]) 21 Try.func57 rfl Try.ntmps57 rfl rfl (Nat.le_of_ble_eq_true rfl) (fun L=>?_)
 unfold token_letter.f at h
 refine TC.seq ?_
 refine TC.region ?_
 refine TV rfl rfl rfl (Val.assign rfl) ?_
 refine TL.nil ?_
 refine TQ.then_ ?_
 refine TC.seq ?_
 refine TC.region ?_
 refine TV rfl rfl rfl (Val.move rfl) ?_
 refine TV rfl rfl rfl (Val.cmp rfl rfl run_geq) ?_
 refine TV rfl rfl rfl (Val.move rfl) ?_
 refine TK.split (p:=97 ≤ a0) h (fun hg19 h=>?_) (fun hg19 h=>?_)
 ·
  have hk20:decide (97 ≤ a0)=true:=decide_eq_true hg19
  refine TV (Wt.yes rfl rfl rfl hk20) rfl rfl (Val.move rfl) ?_
  refine TV (Wt.yes rfl rfl rfl hk20) rfl rfl (Val.cmp rfl rfl run_leq) ?_
  refine TV rfl rfl rfl (Val.pickY rfl hk20 rfl) ?_
  refine TV rfl rfl rfl (Val.move rfl) ?_
  refine TK.split (p:=a0 ≤ 122) h (fun hg21 h=>?_) (fun hg21 h=>?_)
  ·
   have hk22:decide (a0 ≤ 122)=true:=decide_eq_true hg21
   refine TL.cons (TL.not (Wt.no rfl rfl rfl hk22) rfl ?_)
   refine TL.cons (TL.not (Wt.no rfl rfl rfl hk22) rfl ?_)
   refine TL.cons (TL.not (Wt.no rfl rfl rfl hk22) rfl ?_)
   refine TL.cons (TL.not rfl rfl ?_)
   refine TL.cons (TL.not rfl rfl ?_)
   refine TL.cons (TL.not (Wt.no rfl rfl rfl hk22) rfl ?_)
   refine TV rfl rfl rfl (Val.pickY rfl hk22 rfl) ?_
   refine TV rfl rfl rfl (Val.move rfl) ?_
   refine TL.cons (TL.not (Wt.no rfl rfl rfl rfl) rfl ?_)
   refine TL.cons (TL.not (Wt.no rfl rfl rfl rfl) rfl ?_)
   refine TV rfl rfl rfl (Val.pickY rfl rfl rfl) ?_
   refine TV rfl rfl rfl (Val.assign rfl) ?_
   refine TL.nil ?_
   refine TQ.then_ ?_
   refine TC.ret ?_
   obtain rfl:=Option.some.inj h
   exact TQ.fin (.inl rfl) rfl Try.results57 (.tmp rfl .nil) rfl (FRel.mk (Ls:=[]) [] 0 (Gd.le.refl _) rfl rfl rfl ⟨rfl,rfl,rfl⟩)
  ·
   have hk23:decide (a0 ≤ 122)=false:=decide_eq_false hg21
   refine TV (Wt.yes rfl rfl rfl hk23) rfl rfl (Val.move rfl) ?_
   refine TV (Wt.yes rfl rfl rfl hk23) rfl rfl (Val.cmp rfl rfl run_geq) ?_
   refine TV (Wt.yes rfl rfl rfl hk23) rfl rfl (Val.move rfl) ?_
   refine TK.split (p:=65 ≤ a0) h (fun hg24 h=>?_) (fun hg24 h=>?_)
   ·
    have hk25:decide (65 ≤ a0)=true:=decide_eq_true hg24
    refine TV (Wt.yes rfl rfl rfl hk25) rfl rfl (Val.move rfl) ?_
    refine TV (Wt.yes rfl rfl rfl hk25) rfl rfl (Val.cmp rfl rfl run_leq) ?_
    refine TV (Wt.yes rfl rfl rfl hk23) rfl rfl (Val.pickY rfl hk25 rfl) ?_
    refine TV rfl rfl rfl (Val.pickN rfl hk23 rfl) ?_
    refine TV rfl rfl rfl (Val.move rfl) ?_
    refine TK.split (p:=a0 ≤ 90) h (fun hg26 h=>?_) (fun hg26 h=>?_)
    ·
     have hk27:decide (a0 ≤ 90)=true:=decide_eq_true hg26
     refine TL.cons (TL.not (Wt.no rfl rfl rfl hk27) rfl ?_)
     refine TL.cons (TL.not (Wt.no rfl rfl rfl hk27) rfl ?_)
     refine TV rfl rfl rfl (Val.pickY rfl hk27 rfl) ?_
     refine TV rfl rfl rfl (Val.assign rfl) ?_
     refine TL.nil ?_
     refine TQ.then_ ?_
     refine TC.ret ?_
     obtain rfl:=Option.some.inj h
     exact TQ.fin (.inl rfl) rfl Try.results57 (.tmp rfl .nil) rfl (FRel.mk (Ls:=[]) [] 0 (Gd.le.refl _) rfl rfl rfl ⟨rfl,rfl,rfl⟩)
    ·
     have hk28:decide (a0 ≤ 90)=false:=decide_eq_false hg26
     refine TV (Wt.yes rfl rfl rfl hk28) rfl rfl (Val.move rfl) ?_
     refine TV (Wt.yes rfl rfl rfl hk28) rfl rfl (Val.cmp rfl rfl run_eql) ?_
     refine TV rfl rfl rfl (Val.pickN rfl hk28 rfl) ?_
     refine TV rfl rfl rfl (Val.assign rfl) ?_
     refine TL.nil ?_
     refine TQ.then_ ?_
     refine TC.ret ?_
     obtain rfl:=Option.some.inj h
     exact TQ.fin (.inl rfl) rfl Try.results57 (.tmp rfl .nil) rfl (FRel.mk (Ls:=[]) [] 0 (Gd.le.refl _) rfl rfl rfl ⟨rfl,rfl,rfl⟩)
   ·
    have hk29:decide (65 ≤ a0)=false:=decide_eq_false hg24
    refine TL.cons (TL.not (Wt.no rfl rfl rfl hk29) rfl ?_)
    refine TL.cons (TL.not (Wt.no rfl rfl rfl hk29) rfl ?_)
    refine TV (Wt.yes rfl rfl rfl hk23) rfl rfl (Val.pickN rfl hk29 rfl) ?_
    refine TV rfl rfl rfl (Val.pickN rfl hk23 rfl) ?_
    refine TV rfl rfl rfl (Val.move rfl) ?_
    refine TV (Wt.yes rfl rfl rfl rfl) rfl rfl (Val.move rfl) ?_
    refine TV (Wt.yes rfl rfl rfl rfl) rfl rfl (Val.cmp rfl rfl run_eql) ?_
    refine TV rfl rfl rfl (Val.pickN rfl rfl rfl) ?_
    refine TV rfl rfl rfl (Val.assign rfl) ?_
    refine TL.nil ?_
    refine TQ.then_ ?_
    refine TC.ret ?_
    obtain rfl:=Option.some.inj h
    exact TQ.fin (.inl rfl) rfl Try.results57 (.tmp rfl .nil) rfl (FRel.mk (Ls:=[]) [] 0 (Gd.le.refl _) rfl rfl rfl ⟨rfl,rfl,rfl⟩)
 ·
  have hk30:decide (97 ≤ a0)=false:=decide_eq_false hg19
  refine TL.cons (TL.not (Wt.no rfl rfl rfl hk30) rfl ?_)
  refine TL.cons (TL.not (Wt.no rfl rfl rfl hk30) rfl ?_)
  refine TV rfl rfl rfl (Val.pickN rfl hk30 rfl) ?_
  refine TV rfl rfl rfl (Val.move rfl) ?_
  refine TV (Wt.yes rfl rfl rfl rfl) rfl rfl (Val.move rfl) ?_
  refine TV (Wt.yes rfl rfl rfl rfl) rfl rfl (Val.cmp rfl rfl run_geq) ?_
  refine TV (Wt.yes rfl rfl rfl rfl) rfl rfl (Val.move rfl) ?_
  refine TK.split (p:=65 ≤ a0) h (fun hg31 h=>?_) (fun hg31 h=>?_)
  ·
   have hk32:decide (65 ≤ a0)=true:=decide_eq_true hg31
   refine TV (Wt.yes rfl rfl rfl hk32) rfl rfl (Val.move rfl) ?_
   refine TV (Wt.yes rfl rfl rfl hk32) rfl rfl (Val.cmp rfl rfl run_leq) ?_
   refine TV (Wt.yes rfl rfl rfl rfl) rfl rfl (Val.pickY rfl hk32 rfl) ?_
   refine TV rfl rfl rfl (Val.pickN rfl rfl rfl) ?_
   refine TV rfl rfl rfl (Val.move rfl) ?_
   refine TK.split (p:=a0 ≤ 90) h (fun hg33 h=>?_) (fun hg33 h=>?_)
   ·
    have hk34:decide (a0 ≤ 90)=true:=decide_eq_true hg33
    refine TL.cons (TL.not (Wt.no rfl rfl rfl hk34) rfl ?_)
    refine TL.cons (TL.not (Wt.no rfl rfl rfl hk34) rfl ?_)
    refine TV rfl rfl rfl (Val.pickY rfl hk34 rfl) ?_
    refine TV rfl rfl rfl (Val.assign rfl) ?_
    refine TL.nil ?_
    refine TQ.then_ ?_
    refine TC.ret ?_
    obtain rfl:=Option.some.inj h
    exact TQ.fin (.inl rfl) rfl Try.results57 (.tmp rfl .nil) rfl (FRel.mk (Ls:=[]) [] 0 (Gd.le.refl _) rfl rfl rfl ⟨rfl,rfl,rfl⟩)
   ·
    have hk35:decide (a0 ≤ 90)=false:=decide_eq_false hg33
    refine TV (Wt.yes rfl rfl rfl hk35) rfl rfl (Val.move rfl) ?_
    refine TV (Wt.yes rfl rfl rfl hk35) rfl rfl (Val.cmp rfl rfl run_eql) ?_
    refine TV rfl rfl rfl (Val.pickN rfl hk35 rfl) ?_
    refine TV rfl rfl rfl (Val.assign rfl) ?_
    refine TL.nil ?_
    refine TQ.then_ ?_
    refine TC.ret ?_
    obtain rfl:=Option.some.inj h
    exact TQ.fin (.inl rfl) rfl Try.results57 (.tmp rfl .nil) rfl (FRel.mk (Ls:=[]) [] 0 (Gd.le.refl _) rfl rfl rfl ⟨rfl,rfl,rfl⟩)
  ·
   have hk36:decide (65 ≤ a0)=false:=decide_eq_false hg31
   refine TL.cons (TL.not (Wt.no rfl rfl rfl hk36) rfl ?_)
   refine TL.cons (TL.not (Wt.no rfl rfl rfl hk36) rfl ?_)
   refine TV (Wt.yes rfl rfl rfl rfl) rfl rfl (Val.pickN rfl hk36 rfl) ?_
   refine TV rfl rfl rfl (Val.pickN rfl rfl rfl) ?_
   refine TV rfl rfl rfl (Val.move rfl) ?_
   refine TV (Wt.yes rfl rfl rfl rfl) rfl rfl (Val.move rfl) ?_
   refine TV (Wt.yes rfl rfl rfl rfl) rfl rfl (Val.cmp rfl rfl run_eql) ?_
   refine TV rfl rfl rfl (Val.pickN rfl rfl rfl) ?_
   refine TV rfl rfl rfl (Val.assign rfl) ?_
   refine TL.nil ?_
   refine TQ.then_ ?_
   refine TC.ret ?_
   obtain rfl:=Option.some.inj h
   exact TQ.fin (.inl rfl) rfl Try.results57 (.tmp rfl .nil) rfl (FRel.mk (Ls:=[]) [] 0 (Gd.le.refl _) rfl rfl rfl ⟨rfl,rfl,rfl⟩)
def token_digit.f (a0:Int):Option Bool:=(if 48 ≤ a0 then some (decide (a0 ≤ 57)) else some false)
def token_digit.post (G:Gd)  (r:Bool) (v:Value) (G':Gd) (Lr:List Ch):Prop:=G=G'∧v=.bool r∧Lr=[]
theorem token_digit.calls {G:Gd} {r:Bool} {a0:Int} (h:token_digit.f a0=some r):Fn Try.prog 59 G [] [.int .u8 a0] (token_digit.post G  r):=by
 refine Fn.intro (e:=[(0,.int .u8 a0)]) 9 Try.func59 rfl Try.ntmps59 rfl rfl (Nat.le_of_ble_eq_true rfl) (fun L=>?_)
 unfold token_digit.f at h
 refine TC.seq ?_
 refine TC.region ?_
 refine TV rfl rfl rfl (Val.assign rfl) ?_
 refine TL.nil ?_
 refine TQ.then_ ?_
 refine TC.seq ?_
 refine TC.region ?_
 refine TV rfl rfl rfl (Val.move rfl) ?_
 refine TV rfl rfl rfl (Val.cmp rfl rfl run_geq) ?_
 refine TV rfl rfl rfl (Val.move rfl) ?_
 refine TK.split (p:=48 ≤ a0) h (fun hg4 h=>?_) (fun hg4 h=>?_)
 ·
  have hk5:decide (48 ≤ a0)=true:=decide_eq_true hg4
  refine TV (Wt.yes rfl rfl rfl hk5) rfl rfl (Val.move rfl) ?_
  refine TV (Wt.yes rfl rfl rfl hk5) rfl rfl (Val.cmp rfl rfl run_leq) ?_
  refine TV rfl rfl rfl (Val.pickY rfl hk5 rfl) ?_
  refine TV rfl rfl rfl (Val.assign rfl) ?_
  refine TL.nil ?_
  refine TQ.then_ ?_
  refine TC.ret ?_
  obtain rfl:=Option.some.inj h
  exact TQ.fin (.inl rfl) rfl Try.results59 (.tmp rfl .nil) rfl (FRel.mk (Ls:=[]) [] 0 (Gd.le.refl _) rfl rfl rfl ⟨rfl,rfl,rfl⟩)
 ·
  have hk6:decide (48 ≤ a0)=false:=decide_eq_false hg4
  refine TL.cons (TL.not (Wt.no rfl rfl rfl hk6) rfl ?_)
  refine TL.cons (TL.not (Wt.no rfl rfl rfl hk6) rfl ?_)
  refine TV rfl rfl rfl (Val.pickN rfl hk6 rfl) ?_
  refine TV rfl rfl rfl (Val.assign rfl) ?_
  refine TL.nil ?_
  refine TQ.then_ ?_
  refine TC.ret ?_
  obtain rfl:=Option.some.inj h
  exact TQ.fin (.inl rfl) rfl Try.results59 (.tmp rfl .nil) rfl (FRel.mk (Ls:=[]) [] 0 (Gd.le.refl _) rfl rfl rfl ⟨rfl,rfl,rfl⟩)
def token_word.f (a0:Int):Option Bool:=(token_letter.f a0).bind fun (y8:Bool)=>(if y8=true then some true else (token_digit.f a0).bind fun (y13:Bool)=>some y13)
def token_word.post (G:Gd)  (r:Bool) (v:Value) (G':Gd) (Lr:List Ch):Prop:=G=G'∧v=.bool r∧Lr=[]
theorem token_word.calls {G:Gd} {r:Bool} {a0:Int} (h:token_word.f a0=some r):Fn Try.prog 58 G [] [.int .u8 a0] (token_word.post G  r):=by
 refine Fn.intro (e:=[(0,.int .u8 a0)]) 9 Try.func58 rfl Try.ntmps58 rfl rfl (Nat.le_of_ble_eq_true rfl) (fun L=>?_)
 unfold token_word.f at h
 refine TC.seq ?_
 refine TC.region ?_
 refine TV rfl rfl rfl (Val.assign rfl) ?_
 refine TL.nil ?_
 refine TQ.then_ ?_
 refine TC.seq ?_
 refine TC.region ?_
 refine TV rfl rfl rfl (Val.move rfl) ?_
 obtain ⟨y8,hy9,h⟩:=bind_no h
 refine TL.cons (TL.callV (Lin:=[]) (args:=[.int .u8 a0]) rfl rfl rfl hbd57 rfl rfl (token_letter.calls (a0:=a0) hy9) rfl ?_)
 rintro _ _ _ _ ⟨rfl,rfl,rfl⟩
 refine TV rfl rfl rfl (Val.move rfl) ?_
 refine TK.split (p:=y8=true) h (fun hg10 h=>?_) (fun hg10 h=>?_)
 ·
  have hk11:y8=true:=hg10
  refine TL.cons (TL.not (Wt.no rfl rfl rfl hk11) rfl ?_)
  refine TL.cons (TL.not (Wt.no rfl rfl rfl hk11) rfl ?_)
  refine TV rfl rfl rfl (Val.pickY rfl hk11 rfl) ?_
  refine TV rfl rfl rfl (Val.assign rfl) ?_
  refine TL.nil ?_
  refine TQ.then_ ?_
  refine TC.ret ?_
  obtain rfl:=Option.some.inj h
  exact TQ.fin (.inl rfl) rfl Try.results58 (.tmp rfl .nil) rfl (FRel.mk (Ls:=[]) [] 0 (Gd.le.refl _) rfl rfl rfl ⟨rfl,rfl,rfl⟩)
 ·
  have hk12:y8=false:=(by simpa using hg10)
  refine TV (Wt.yes rfl rfl rfl hk12) rfl rfl (Val.move rfl) ?_
  obtain ⟨y13,hy14,h⟩:=bind_no h
  refine TL.cons (TL.callV (Lin:=[]) (args:=[.int .u8 a0]) (Wt.yes rfl rfl rfl hk12) rfl rfl hbd59 rfl rfl (token_digit.calls (a0:=a0) hy14) rfl ?_)
  rintro _ _ _ _ ⟨rfl,rfl,rfl⟩
  refine TV rfl rfl rfl (Val.pickN rfl hk12 rfl) ?_
  refine TV rfl rfl rfl (Val.assign rfl) ?_
  refine TL.nil ?_
  refine TQ.then_ ?_
  refine TC.ret ?_
  obtain rfl:=Option.some.inj h
  exact TQ.fin (.inl rfl) rfl Try.results58 (.tmp rfl .nil) rfl (FRel.mk (Ls:=[]) [] 0 (Gd.le.refl _) rfl rfl rfl ⟨rfl,rfl,rfl⟩)
def token_Number.l0 (a0:ByteArray):Nat → Int → Int → Option (Sum (Int × Bool) (Int))
 | 0,_,_=>none
 | n133 + 1,x91,x92=>(if x92 < (a0.size:Int) then (byte? a0 x92).bind fun (y192:Int)=>jn (γ:=(Sum (Int × Bool) (Int))) (fun (x200:Bool)=>(if x200=true then some (.inl (0,false)) else token_Number.l0 a0 n133 (IntKind.i64.wrap ((IntKind.i64.wrap (10 * x91)) + (IntKind.i64.wrap ((IntKind.i64.wrap y192) - 48)))) (IntKind.i64.wrap (x92 + 1)))) (fun (j201:(Bool → Option (Sum (Int × Bool) (Int))))=>(token_digit.f y192).bind fun (y204:Bool)=>(if (!y204)=true then j201 true else (if ¬ (10:Int)=0 then j201 (decide ((IntKind.i64.wrap ((IntKind.i64.wrap (9223372036854775807 - (IntKind.i64.wrap ((IntKind.i64.wrap y192) - 48)))).tdiv 10)) < x91)) else none))) else some (.inr x91))
def token_Number.f (a0:ByteArray):Option (Int × Bool):=jn (γ:=(Int × Bool)) (fun (x9:Bool)=>(if x9=true then some (0,false) else (token_Number.l0 a0 (a0.size + 1) 0 0).bind fun | .inl q_=>some q_ | .inr x131=>(some (x131,true)))) (fun (j10:(Bool → Option (Int × Bool)))=>(if (a0.data.toList == (⟨#[]⟩:ByteArray).data.toList)=true then j10 true else (if 1 < (a0.size:Int) then (byte? a0 0).bind fun (y215:Int)=>j10 (decide (y215=48)) else j10 false)))
def token_Number.post (G:Gd)  (r:(Int × Bool)) (v:Value) (G':Gd) (Lr:List Ch):Prop:=G=G'∧v=.tuple #[VI r.1,.bool r.2]∧Lr=[]
theorem token_Number.calls {G:Gd} {r:(Int × Bool)} {a0:ByteArray} (h:token_Number.f a0=some r):Fn Try.prog 60 G [] [.string a0] (token_Number.post G  r):=by
 refine Fn.intro (e:=[(0,.string a0)]) 47 Try.func60 rfl Try.ntmps60 rfl rfl (Nat.le_of_ble_eq_true rfl) (fun L=>?_)
 unfold token_Number.f at h
 refine TC.seq ?_
 refine TC.region ?_
 refine TV rfl rfl rfl (Val.assign rfl) ?_
 refine TV rfl rfl rfl (Val.assign rfl) ?_
 refine TL.nil ?_
 refine TQ.then_ ?_
 refine TC.seq ?_
 refine TC.seq ?_
 obtain ⟨j10,hj10,h⟩:=jn_no h
 refine TC.tail (fun a W=>∃ (x9:Bool),j10 x9=some r∧Fr 47 a [(0,.string a0),(18,.bool x9)]∧Own G (L) W) ?_ ?_
 ·
  rintro a W ⟨x9,h,hF,hO⟩
  rw [hj10] at h
  refine TQ.use ?_ hF hO
  clear hF hO
  refine TQ.then_ ?_
  refine TC.cond_b rfl h (fun hc12 h=>?_) (fun hc12 h=>?_)
  ·
   refine TC.seq ?_
   refine TC.region ?_
   refine TV rfl rfl rfl (Val.assign rfl) ?_
   refine TV rfl rfl rfl (Val.assign rfl) ?_
   refine TL.nil ?_
   refine TQ.then_ ?_
   refine TC.ret ?_
   refine TQ.thenR ?_
   obtain rfl:=Option.some.inj h
   exact TQ.fin (.inl rfl) rfl Try.results60 (.tmp rfl (.tmp rfl .nil)) rfl (FRel.mk (Ls:=[]) [] 0 (Gd.le.refl _) rfl rfl rfl ⟨rfl,rfl,rfl⟩)
  ·
   refine TC.skip ?_
   refine TQ.then_ ?_
   refine TC.seq ?_
   refine TC.region ?_
   refine TV rfl rfl rfl (Val.assign rfl) ?_
   refine TL.nil ?_
   refine TQ.then_ ?_
   refine TC.seq ?_
   refine TC.seq ?_
   refine TC.region ?_
   refine TV rfl rfl rfl (Val.move rfl) ?_
   refine TV rfl rfl rfl (Val.lenS Try.underlying9 rfl) ?_
   refine TV rfl rfl rfl (Val.move rfl) ?_
   refine TL.nil ?_
   refine TQ.then_ ?_
   obtain ⟨o132,ho132,ko132⟩:=bind_no h
   clear h
   refine TC.tail (fun a W=>∃ (x131:Int),(.inr x131)=o132∧Fr 47 a [(4,VI x131)]∧Own G (L) W) ?_ ?_
   ·
    rintro a W ⟨x131,rfl,hF,hO⟩
    have h:=ko132
    clear ko132 ho132
    refine TQ.use ?_ hF hO
    clear hF hO
    refine TQ.then_ ?_
    refine TC.seq ?_
    refine TC.region ?_
    refine TV rfl rfl rfl (Val.move rfl) ?_
    refine TV rfl rfl rfl (Val.assign rfl) ?_
    refine TV rfl rfl rfl (Val.assign rfl) ?_
    refine TL.nil ?_
    refine TQ.then_ ?_
    refine TC.ret ?_
    obtain rfl:=Option.some.inj h
    exact TQ.fin (.inl rfl) rfl Try.results60 (.tmp rfl (.tmp rfl .nil)) rfl (FRel.mk (Ls:=[]) [] 0 (Gd.le.refl _) rfl rfl rfl ⟨rfl,rfl,rfl⟩)
   ·
    refine TC.block ?_
    intro a W hF hO
    have hS:∃ (x91:Int) (x92:Int),token_Number.l0 a0 (a0.size + 1) x91 x92=some o132∧Fr 47 a [(0,.string a0),(4,VI x91),(20,VI (a0.size:Int)),(21,VI x92)]∧Own G (L) W:=by
     exact ⟨0,0,ho132,hF.sub ⟨rfl,rfl,rfl,rfl,trivial⟩,hO.selT (Ls:=[]) [] 0 rfl rfl rfl⟩
    clear hF hO ho132
    refine TC.loop (fun n133 a W=>∃ (x91:Int) (x92:Int),token_Number.l0 a0 n133 x91 x92=some o132∧Fr 47 a [(0,.string a0),(4,VI x91),(20,VI (a0.size:Int)),(21,VI x92)]∧Own G (L) W) ?_ ?_ hS
    ·
     rintro a W ⟨x91,x92,h,hF,hO⟩
     exact none_no h
    ·
     clear hS
     rintro n133 a W ⟨x91,x92,h,hF,hO⟩
     rw [token_Number.l0] at h
     refine TC.use ?_ hF hO
     clear hF hO
     refine TC.seq ?_
     refine TC.region ?_
     refine TV rfl rfl rfl (Val.cmp rfl rfl run_lss) ?_
     refine TL.nil ?_
     refine TQ.then_ ?_
     refine TC.seq ?_
     refine TC.cond_p rfl h (fun hc173 h=>?_) (fun hc173 h=>?_)
     ·
      refine TC.skip ?_
      refine TQ.then_ ?_
      refine TC.seq ?_
      refine TC.block ?_
      refine TC.seq ?_
      refine TC.region ?_
      refine TV rfl rfl rfl (Val.move rfl) ?_
      refine TV rfl rfl rfl (Val.assign rfl) ?_
      refine TL.nil ?_
      refine TQ.then_ ?_
      refine TC.seq ?_
      refine TC.region ?_
      refine TV rfl rfl rfl (Val.move rfl) ?_
      refine TV rfl rfl rfl (Val.move rfl) ?_
      obtain ⟨y192,hy193,h⟩:=bind_no h
      refine TV rfl rfl rfl (Val.indexS Try.underlying9 rfl rfl hy193) ?_
      refine TV rfl rfl rfl (Val.convI Try.underlying5 Try.underlying3 rfl) ?_
      refine TV rfl rfl rfl (Val.cmp rfl rfl run_sub) ?_
      refine TV rfl rfl rfl (Val.assign rfl) ?_
      refine TL.nil ?_
      refine TQ.then_ ?_
      refine TC.seq ?_
      refine TC.seq ?_
      obtain ⟨j201,hj201,h⟩:=jn_no h
      refine TC.tail (fun a W=>∃ (x200:Bool),j201 x200=some o132∧Fr 47 a [(0,.string a0),(4,VI x91),(6,VI (IntKind.i64.wrap ((IntKind.i64.wrap y192) - 48))),(20,VI (a0.size:Int)),(21,VI x92),(40,.bool x200)]∧Own G (L) W) ?_ ?_
      ·
       rintro a W ⟨x200,h,hF,hO⟩
       rw [hj201] at h
       refine TQ.use ?_ hF hO
       clear hF hO
       refine TQ.then_ ?_
       refine TC.cond_b rfl h (fun hc203 h=>?_) (fun hc203 h=>?_)
       ·
        refine TC.seq ?_
        refine TC.region ?_
        refine TV rfl rfl rfl (Val.assign rfl) ?_
        refine TV rfl rfl rfl (Val.assign rfl) ?_
        refine TL.nil ?_
        refine TQ.then_ ?_
        refine TC.ret ?_
        refine TQ.thenR ?_
        refine TQ.inBR ?_
        refine TQ.thenR ?_
        refine TQ.thenR ?_
        refine TQ.inBR ?_
        refine TQ.thenR ?_
        refine TQ.thenR ?_
        obtain rfl:=Option.some.inj h
        have h:=ko132
        obtain rfl:=Option.some.inj h
        exact TQ.fin (.inl rfl) rfl Try.results60 (.tmp rfl (.tmp rfl .nil)) rfl (FRel.mk (Ls:=[]) [] 0 (Gd.le.refl _) rfl rfl rfl ⟨rfl,rfl,rfl⟩)
       ·
        refine TC.skip ?_
        refine TQ.then_ ?_
        refine TC.region ?_
        refine TV rfl rfl rfl (Val.move rfl) ?_
        refine TV rfl rfl rfl (Val.cmp rfl rfl run_mul) ?_
        refine TV rfl rfl rfl (Val.move rfl) ?_
        refine TV rfl rfl rfl (Val.cmp rfl rfl run_add) ?_
        refine TV rfl rfl rfl (Val.assign rfl) ?_
        refine TL.nil ?_
        refine TQ.inB ?_
        refine TQ.then_ ?_
        refine TC.region ?_
        refine TV rfl rfl rfl (Val.cmp rfl rfl run_add) ?_
        refine TV rfl rfl rfl (Val.move rfl) ?_
        refine TL.nil ?_
        exact fun a W hF hO=>⟨IntKind.i64.wrap ((IntKind.i64.wrap (10 * x91)) + (IntKind.i64.wrap ((IntKind.i64.wrap y192) - 48))),IntKind.i64.wrap (x92 + 1),h,hF.sub ⟨rfl,rfl,rfl,rfl,trivial⟩,hO.selT (Ls:=[]) [] 0 rfl rfl rfl⟩
      ·
       refine TC.region ?_
       refine TV rfl rfl rfl (Val.move rfl) ?_
       refine TV rfl rfl rfl (Val.move rfl) ?_
       refine TV rfl rfl rfl (Val.indexS Try.underlying9 rfl rfl hy193) ?_
       obtain ⟨y204,hy205,h⟩:=bind_no h
       refine TL.cons (TL.callV (Lin:=[]) (args:=[.int .u8 y192]) rfl rfl rfl hbd59 rfl rfl (token_digit.calls (a0:=y192) hy205) rfl ?_)
       rintro _ _ _ _ ⟨rfl,rfl,rfl⟩
       refine TV rfl rfl rfl (Val.not_ rfl) ?_
       refine TV rfl rfl rfl (Val.move rfl) ?_
       refine TK.split (p:=(!y204)=true) h (fun hg206 h=>?_) (fun hg206 h=>?_)
       ·
        have hk207:(!y204)=true:=hg206
        refine TL.cons (TL.not (Wt.no rfl rfl rfl hk207) rfl ?_)
        refine TL.cons (TL.not (Wt.no rfl rfl rfl hk207) rfl ?_)
        refine TL.cons (TL.not (Wt.no rfl rfl rfl hk207) rfl ?_)
        refine TL.cons (TL.not (Wt.no rfl rfl rfl hk207) rfl ?_)
        refine TL.cons (TL.not (Wt.no rfl rfl rfl hk207) rfl ?_)
        refine TV rfl rfl rfl (Val.pickY rfl hk207 rfl) ?_
        refine TL.nil ?_
        exact fun a W hF hO=>⟨true,h,hF.sub ⟨rfl,rfl,rfl,rfl,rfl,rfl,trivial⟩,hO.selT (Ls:=[]) [] 0 rfl rfl rfl⟩
       ·
        have hk208:(!y204)=false:=(by simpa using hg206)
        refine TV (Wt.yes rfl rfl rfl hk208) rfl rfl (Val.move rfl) ?_
        refine TV (Wt.yes rfl rfl rfl hk208) rfl rfl (Val.move rfl) ?_
        refine TV (Wt.yes rfl rfl rfl hk208) rfl rfl (Val.cmp rfl rfl run_sub) ?_
        obtain ⟨hz209,h⟩:=ite_no h
        refine TV (Wt.yes rfl rfl rfl hk208) rfl rfl (Val.cmp rfl rfl (run_quo hz209)) ?_
        refine TV (Wt.yes rfl rfl rfl hk208) rfl rfl (Val.cmp rfl rfl run_gtr) ?_
        refine TV rfl rfl rfl (Val.pickN rfl hk208 rfl) ?_
        refine TL.nil ?_
        exact fun a W hF hO=>⟨decide ((IntKind.i64.wrap ((IntKind.i64.wrap (9223372036854775807 - (IntKind.i64.wrap ((IntKind.i64.wrap y192) - 48)))).tdiv 10)) < x91),h,hF.sub ⟨rfl,rfl,rfl,rfl,rfl,rfl,trivial⟩,hO.selT (Ls:=[]) [] 0 rfl rfl rfl⟩
     ·
      refine TC.exit ?_
      refine TQ.thenX ?_
      refine TQ.thenX ?_
      refine TQ.inBX ?_
      exact fun a W hF hO=>⟨x91,Option.some.inj h,hF.sub ⟨rfl,trivial⟩,hO.selT (Ls:=[]) [] 0 rfl rfl rfl⟩
 ·
  refine TC.region ?_
  refine TV rfl rfl rfl (Val.move rfl) ?_
  refine TV rfl rfl rfl (Val.eqT rfl rfl) ?_
  refine TV rfl rfl rfl (Val.move rfl) ?_
  refine TK.split (p:=(a0.data.toList == (⟨#[]⟩:ByteArray).data.toList)=true) h (fun hg210 h=>?_) (fun hg210 h=>?_)
  ·
   have hk211:(a0.data.toList == (⟨#[]⟩:ByteArray).data.toList)=true:=hg210
   refine TL.cons (TL.not (Wt.no rfl rfl rfl hk211) rfl ?_)
   refine TL.cons (TL.not (Wt.no rfl rfl rfl hk211) rfl ?_)
   refine TL.cons (TL.not (Wt.no rfl rfl rfl hk211) rfl ?_)
   refine TL.cons (TL.not (Wt.no rfl rfl rfl hk211) rfl ?_)
   refine TL.cons (TL.not rfl rfl ?_)
   refine TL.cons (TL.not rfl rfl ?_)
   refine TL.cons (TL.not rfl rfl ?_)
   refine TL.cons (TL.not (Wt.no rfl rfl rfl hk211) rfl ?_)
   refine TV rfl rfl rfl (Val.pickY rfl hk211 rfl) ?_
   refine TL.nil ?_
   exact fun a W hF hO=>⟨true,h,hF.sub ⟨rfl,rfl,trivial⟩,hO.selT (Ls:=[]) [] 0 rfl rfl rfl⟩
  ·
   have hk212:(a0.data.toList == (⟨#[]⟩:ByteArray).data.toList)=false:=(by simpa using hg210)
   refine TV (Wt.yes rfl rfl rfl hk212) rfl rfl (Val.move rfl) ?_
   refine TV (Wt.yes rfl rfl rfl hk212) rfl rfl (Val.lenS Try.underlying9 rfl) ?_
   refine TV (Wt.yes rfl rfl rfl hk212) rfl rfl (Val.cmp rfl rfl run_gtr) ?_
   refine TV (Wt.yes rfl rfl rfl hk212) rfl rfl (Val.move rfl) ?_
   refine TK.split (p:=1 < (a0.size:Int)) h (fun hg213 h=>?_) (fun hg213 h=>?_)
   ·
    have hk214:decide (1 < (a0.size:Int))=true:=decide_eq_true hg213
    refine TV (Wt.yes rfl rfl rfl hk214) rfl rfl (Val.move rfl) ?_
    obtain ⟨y215,hy216,h⟩:=bind_no h
    refine TV (Wt.yes rfl rfl rfl hk214) rfl rfl (Val.indexS Try.underlying9 rfl rfl hy216) ?_
    refine TV (Wt.yes rfl rfl rfl hk214) rfl rfl (Val.cmp rfl rfl run_eql) ?_
    refine TV (Wt.yes rfl rfl rfl hk212) rfl rfl (Val.pickY rfl hk214 rfl) ?_
    refine TV rfl rfl rfl (Val.pickN rfl hk212 rfl) ?_
    refine TL.nil ?_
    exact fun a W hF hO=>⟨decide (y215=48),h,hF.sub ⟨rfl,rfl,trivial⟩,hO.selT (Ls:=[]) [] 0 rfl rfl rfl⟩
   ·
    have hk217:decide (1 < (a0.size:Int))=false:=decide_eq_false hg213
    refine TL.cons (TL.not (Wt.no rfl rfl rfl hk217) rfl ?_)
    refine TL.cons (TL.not (Wt.no rfl rfl rfl hk217) rfl ?_)
    refine TL.cons (TL.not (Wt.no rfl rfl rfl hk217) rfl ?_)
    refine TV (Wt.yes rfl rfl rfl hk212) rfl rfl (Val.pickN rfl hk217 rfl) ?_
    refine TV rfl rfl rfl (Val.pickN rfl hk212 rfl) ?_
    refine TL.nil ?_
    exact fun a W hF hO=>⟨false,h,hF.sub ⟨rfl,rfl,trivial⟩,hO.selT (Ls:=[]) [] 0 rfl rfl rfl⟩
def token_Sign.f (a0:ByteArray):Option Bool:=jn (γ:=Bool) (fun (x327:Bool)=>(if x327=true then some true else some false)) (fun (j328:(Bool → Option Bool))=>(if (a0.data.toList == (⟨#[61,61]⟩:ByteArray).data.toList)=true then j328 (a0.data.toList == (⟨#[61,61]⟩:ByteArray).data.toList) else (if (a0.data.toList == (⟨#[33,61]⟩:ByteArray).data.toList)=true then j328 (a0.data.toList == (⟨#[33,61]⟩:ByteArray).data.toList) else (if (a0.data.toList == (⟨#[60,61]⟩:ByteArray).data.toList)=true then j328 (a0.data.toList == (⟨#[60,61]⟩:ByteArray).data.toList) else (if (a0.data.toList == (⟨#[60,60]⟩:ByteArray).data.toList)=true then j328 (a0.data.toList == (⟨#[60,60]⟩:ByteArray).data.toList) else (if (a0.data.toList == (⟨#[62,62]⟩:ByteArray).data.toList)=true then j328 (a0.data.toList == (⟨#[62,62]⟩:ByteArray).data.toList) else (if (a0.data.toList == (⟨#[40]⟩:ByteArray).data.toList)=true then j328 (a0.data.toList == (⟨#[40]⟩:ByteArray).data.toList) else (if (a0.data.toList == (⟨#[41]⟩:ByteArray).data.toList)=true then j328 (a0.data.toList == (⟨#[41]⟩:ByteArray).data.toList) else (if (a0.data.toList == (⟨#[123]⟩:ByteArray).data.toList)=true then j328 (a0.data.toList == (⟨#[123]⟩:ByteArray).data.toList) else (if (a0.data.toList == (⟨#[125]⟩:ByteArray).data.toList)=true then j328 (a0.data.toList == (⟨#[125]⟩:ByteArray).data.toList) else (if (a0.data.toList == (⟨#[91]⟩:ByteArray).data.toList)=true then j328 (a0.data.toList == (⟨#[91]⟩:ByteArray).data.toList) else (if (a0.data.toList == (⟨#[93]⟩:ByteArray).data.toList)=true then j328 (a0.data.toList == (⟨#[93]⟩:ByteArray).data.toList) else (if (a0.data.toList == (⟨#[44]⟩:ByteArray).data.toList)=true then j328 (a0.data.toList == (⟨#[44]⟩:ByteArray).data.toList) else (if (a0.data.toList == (⟨#[59]⟩:ByteArray).data.toList)=true then j328 (a0.data.toList == (⟨#[59]⟩:ByteArray).data.toList) else (if (a0.data.toList == (⟨#[46]⟩:ByteArray).data.toList)=true then j328 (a0.data.toList == (⟨#[46]⟩:ByteArray).data.toList) else (if (a0.data.toList == (⟨#[61]⟩:ByteArray).data.toList)=true then j328 (a0.data.toList == (⟨#[61]⟩:ByteArray).data.toList) else (if (a0.data.toList == (⟨#[43]⟩:ByteArray).data.toList)=true then j328 (a0.data.toList == (⟨#[43]⟩:ByteArray).data.toList) else (if (a0.data.toList == (⟨#[45]⟩:ByteArray).data.toList)=true then j328 (a0.data.toList == (⟨#[45]⟩:ByteArray).data.toList) else (if (a0.data.toList == (⟨#[42]⟩:ByteArray).data.toList)=true then j328 (a0.data.toList == (⟨#[42]⟩:ByteArray).data.toList) else (if (a0.data.toList == (⟨#[47]⟩:ByteArray).data.toList)=true then j328 (a0.data.toList == (⟨#[47]⟩:ByteArray).data.toList) else (if (a0.data.toList == (⟨#[37]⟩:ByteArray).data.toList)=true then j328 (a0.data.toList == (⟨#[37]⟩:ByteArray).data.toList) else (if (a0.data.toList == (⟨#[38]⟩:ByteArray).data.toList)=true then j328 (a0.data.toList == (⟨#[38]⟩:ByteArray).data.toList) else (if (a0.data.toList == (⟨#[124]⟩:ByteArray).data.toList)=true then j328 (a0.data.toList == (⟨#[124]⟩:ByteArray).data.toList) else (if (a0.data.toList == (⟨#[94]⟩:ByteArray).data.toList)=true then j328 (a0.data.toList == (⟨#[94]⟩:ByteArray).data.toList) else j328 (a0.data.toList == (⟨#[60]⟩:ByteArray).data.toList)))))))))))))))))))))))))
def token_Sign.post (G:Gd)  (r:Bool) (v:Value) (G':Gd) (Lr:List Ch):Prop:=G=G'∧v=.bool r∧Lr=[]
theorem token_Sign.calls {G:Gd} {r:Bool} {a0:ByteArray} (h:token_Sign.f a0=some r):Fn Try.prog 61 G [] [.string a0] (token_Sign.post G  r):=by
 refine Fn.intro (e:=[(0,.string a0)]) 29 Try.func61 rfl Try.ntmps61 rfl rfl (Nat.le_of_ble_eq_true rfl) (fun L=>?_)
 unfold token_Sign.f at h
 refine TC.seq ?_
 refine TC.region ?_
 refine TV rfl rfl rfl (Val.assign rfl) ?_
 refine TL.nil ?_
 refine TQ.then_ ?_
 refine TC.seq ?_
 refine TC.seq ?_
 refine TC.region ?_
 refine TV rfl rfl rfl (Val.move rfl) ?_
 refine TL.nil ?_
 refine TQ.then_ ?_
 refine TC.block ?_
 refine TC.seq ?_
 refine TC.seq ?_
 refine TC.region ?_
 refine TV rfl rfl rfl (Val.eqT rfl rfl) ?_
 refine TV rfl rfl rfl (Val.assign rfl) ?_
 refine TL.nil ?_
 refine TQ.then_ ?_
 obtain ⟨j328,hj328,h⟩:=jn_no h
 refine TC.tail (fun a W=>∃ (x327:Bool),j328 x327=some r∧Fr 29 a [(4,.bool x327)]∧Own G (L) W) ?_ ?_
 ·
  rintro a W ⟨x327,h,hF,hO⟩
  rw [hj328] at h
  refine TQ.use ?_ hF hO
  clear hF hO
  refine TQ.then_ ?_
  refine TC.cond_b rfl h (fun hc330 h=>?_) (fun hc330 h=>?_)
  ·
   refine TC.seq ?_
   refine TC.region ?_
   refine TV rfl rfl rfl (Val.assign rfl) ?_
   refine TL.nil ?_
   refine TQ.then_ ?_
   refine TC.ret ?_
   refine TQ.inBR ?_
   refine TQ.thenR ?_
   obtain rfl:=Option.some.inj h
   exact TQ.fin (.inl rfl) rfl Try.results61 (.tmp rfl .nil) rfl (FRel.mk (Ls:=[]) [] 0 (Gd.le.refl _) rfl rfl rfl ⟨rfl,rfl,rfl⟩)
  ·
   refine TC.skip ?_
   refine TQ.inB ?_
   refine TQ.then_ ?_
   refine TC.seq ?_
   refine TC.region ?_
   refine TV rfl rfl rfl (Val.assign rfl) ?_
   refine TL.nil ?_
   refine TQ.then_ ?_
   refine TC.ret ?_
   obtain rfl:=Option.some.inj h
   exact TQ.fin (.inl rfl) rfl Try.results61 (.tmp rfl .nil) rfl (FRel.mk (Ls:=[]) [] 0 (Gd.le.refl _) rfl rfl rfl ⟨rfl,rfl,rfl⟩)
 ·
  refine TC.cond_b rfl h (fun hc331 h=>?_) (fun hc331 h=>?_)
  ·
   refine TC.skip ?_
   exact fun a W hF hO=>⟨(a0.data.toList == (⟨#[61,61]⟩:ByteArray).data.toList),h,hF.sub ⟨rfl,trivial⟩,hO.selT (Ls:=[]) [] 0 rfl rfl rfl⟩
  ·
   refine TC.seq ?_
   refine TC.region ?_
   refine TV rfl rfl rfl (Val.eqT rfl rfl) ?_
   refine TV rfl rfl rfl (Val.assign rfl) ?_
   refine TL.nil ?_
   refine TQ.then_ ?_
   refine TC.cond_b rfl h (fun hc354 h=>?_) (fun hc354 h=>?_)
   ·
    refine TC.skip ?_
    exact fun a W hF hO=>⟨(a0.data.toList == (⟨#[33,61]⟩:ByteArray).data.toList),h,hF.sub ⟨rfl,trivial⟩,hO.selT (Ls:=[]) [] 0 rfl rfl rfl⟩
   ·
    refine TC.seq ?_
    refine TC.region ?_
    refine TV rfl rfl rfl (Val.eqT rfl rfl) ?_
    refine TV rfl rfl rfl (Val.assign rfl) ?_
    refine TL.nil ?_
    refine TQ.then_ ?_
    refine TC.cond_b rfl h (fun hc376 h=>?_) (fun hc376 h=>?_)
    ·
     refine TC.skip ?_
     exact fun a W hF hO=>⟨(a0.data.toList == (⟨#[60,61]⟩:ByteArray).data.toList),h,hF.sub ⟨rfl,trivial⟩,hO.selT (Ls:=[]) [] 0 rfl rfl rfl⟩
    ·
     refine TC.seq ?_
     refine TC.region ?_
     refine TV rfl rfl rfl (Val.eqT rfl rfl) ?_
     refine TV rfl rfl rfl (Val.assign rfl) ?_
     refine TL.nil ?_
     refine TQ.then_ ?_
     refine TC.cond_b rfl h (fun hc397 h=>?_) (fun hc397 h=>?_)
     ·
      refine TC.skip ?_
      exact fun a W hF hO=>⟨(a0.data.toList == (⟨#[60,60]⟩:ByteArray).data.toList),h,hF.sub ⟨rfl,trivial⟩,hO.selT (Ls:=[]) [] 0 rfl rfl rfl⟩
     ·
      refine TC.seq ?_
      refine TC.region ?_
      refine TV rfl rfl rfl (Val.eqT rfl rfl) ?_
      refine TV rfl rfl rfl (Val.assign rfl) ?_
      refine TL.nil ?_
      refine TQ.then_ ?_
      refine TC.cond_b rfl h (fun hc417 h=>?_) (fun hc417 h=>?_)
      ·
       refine TC.skip ?_
       exact fun a W hF hO=>⟨(a0.data.toList == (⟨#[62,62]⟩:ByteArray).data.toList),h,hF.sub ⟨rfl,trivial⟩,hO.selT (Ls:=[]) [] 0 rfl rfl rfl⟩
      ·
       refine TC.seq ?_
       refine TC.region ?_
       refine TV rfl rfl rfl (Val.eqT rfl rfl) ?_
       refine TV rfl rfl rfl (Val.assign rfl) ?_
       refine TL.nil ?_
       refine TQ.then_ ?_
       refine TC.cond_b rfl h (fun hc436 h=>?_) (fun hc436 h=>?_)
       ·
        refine TC.skip ?_
        exact fun a W hF hO=>⟨(a0.data.toList == (⟨#[40]⟩:ByteArray).data.toList),h,hF.sub ⟨rfl,trivial⟩,hO.selT (Ls:=[]) [] 0 rfl rfl rfl⟩
       ·
        refine TC.seq ?_
        refine TC.region ?_
        refine TV rfl rfl rfl (Val.eqT rfl rfl) ?_
        refine TV rfl rfl rfl (Val.assign rfl) ?_
        refine TL.nil ?_
        refine TQ.then_ ?_
        refine TC.cond_b rfl h (fun hc454 h=>?_) (fun hc454 h=>?_)
        ·
         refine TC.skip ?_
         exact fun a W hF hO=>⟨(a0.data.toList == (⟨#[41]⟩:ByteArray).data.toList),h,hF.sub ⟨rfl,trivial⟩,hO.selT (Ls:=[]) [] 0 rfl rfl rfl⟩
        ·
         refine TC.seq ?_
         refine TC.region ?_
         refine TV rfl rfl rfl (Val.eqT rfl rfl) ?_
         refine TV rfl rfl rfl (Val.assign rfl) ?_
         refine TL.nil ?_
         refine TQ.then_ ?_
         refine TC.cond_b rfl h (fun hc471 h=>?_) (fun hc471 h=>?_)
         ·
          refine TC.skip ?_
          exact fun a W hF hO=>⟨(a0.data.toList == (⟨#[123]⟩:ByteArray).data.toList),h,hF.sub ⟨rfl,trivial⟩,hO.selT (Ls:=[]) [] 0 rfl rfl rfl⟩
         ·
          refine TC.seq ?_
          refine TC.region ?_
          refine TV rfl rfl rfl (Val.eqT rfl rfl) ?_
          refine TV rfl rfl rfl (Val.assign rfl) ?_
          refine TL.nil ?_
          refine TQ.then_ ?_
          refine TC.cond_b rfl h (fun hc487 h=>?_) (fun hc487 h=>?_)
          ·
           refine TC.skip ?_
           exact fun a W hF hO=>⟨(a0.data.toList == (⟨#[125]⟩:ByteArray).data.toList),h,hF.sub ⟨rfl,trivial⟩,hO.selT (Ls:=[]) [] 0 rfl rfl rfl⟩
          ·
           refine TC.seq ?_
           refine TC.region ?_
           refine TV rfl rfl rfl (Val.eqT rfl rfl) ?_
           refine TV rfl rfl rfl (Val.assign rfl) ?_
           refine TL.nil ?_
           refine TQ.then_ ?_
           refine TC.cond_b rfl h (fun hc502 h=>?_) (fun hc502 h=>?_)
           ·
            refine TC.skip ?_
            exact fun a W hF hO=>⟨(a0.data.toList == (⟨#[91]⟩:ByteArray).data.toList),h,hF.sub ⟨rfl,trivial⟩,hO.selT (Ls:=[]) [] 0 rfl rfl rfl⟩
           ·
            refine TC.seq ?_
            refine TC.region ?_
            refine TV rfl rfl rfl (Val.eqT rfl rfl) ?_
            refine TV rfl rfl rfl (Val.assign rfl) ?_
            refine TL.nil ?_
            refine TQ.then_ ?_
            refine TC.cond_b rfl h (fun hc516 h=>?_) (fun hc516 h=>?_)
            ·
             refine TC.skip ?_
             exact fun a W hF hO=>⟨(a0.data.toList == (⟨#[93]⟩:ByteArray).data.toList),h,hF.sub ⟨rfl,trivial⟩,hO.selT (Ls:=[]) [] 0 rfl rfl rfl⟩
            ·
             refine TC.seq ?_
             refine TC.region ?_
             refine TV rfl rfl rfl (Val.eqT rfl rfl) ?_
             refine TV rfl rfl rfl (Val.assign rfl) ?_
             refine TL.nil ?_
             refine TQ.then_ ?_
             refine TC.cond_b rfl h (fun hc529 h=>?_) (fun hc529 h=>?_)
             ·
              refine TC.skip ?_
              exact fun a W hF hO=>⟨(a0.data.toList == (⟨#[44]⟩:ByteArray).data.toList),h,hF.sub ⟨rfl,trivial⟩,hO.selT (Ls:=[]) [] 0 rfl rfl rfl⟩
             ·
              refine TC.seq ?_
              refine TC.region ?_
              refine TV rfl rfl rfl (Val.eqT rfl rfl) ?_
              refine TV rfl rfl rfl (Val.assign rfl) ?_
              refine TL.nil ?_
              refine TQ.then_ ?_
              refine TC.cond_b rfl h (fun hc541 h=>?_) (fun hc541 h=>?_)
              ·
               refine TC.skip ?_
               exact fun a W hF hO=>⟨(a0.data.toList == (⟨#[59]⟩:ByteArray).data.toList),h,hF.sub ⟨rfl,trivial⟩,hO.selT (Ls:=[]) [] 0 rfl rfl rfl⟩
              ·
               refine TC.seq ?_
               refine TC.region ?_
               refine TV rfl rfl rfl (Val.eqT rfl rfl) ?_
               refine TV rfl rfl rfl (Val.assign rfl) ?_
               refine TL.nil ?_
               refine TQ.then_ ?_
               refine TC.cond_b rfl h (fun hc552 h=>?_) (fun hc552 h=>?_)
               ·
                refine TC.skip ?_
                exact fun a W hF hO=>⟨(a0.data.toList == (⟨#[46]⟩:ByteArray).data.toList),h,hF.sub ⟨rfl,trivial⟩,hO.selT (Ls:=[]) [] 0 rfl rfl rfl⟩
               ·
                refine TC.seq ?_
                refine TC.region ?_
                refine TV rfl rfl rfl (Val.eqT rfl rfl) ?_
                refine TV rfl rfl rfl (Val.assign rfl) ?_
                refine TL.nil ?_
                refine TQ.then_ ?_
                refine TC.cond_b rfl h (fun hc562 h=>?_) (fun hc562 h=>?_)
                ·
                 refine TC.skip ?_
                 exact fun a W hF hO=>⟨(a0.data.toList == (⟨#[61]⟩:ByteArray).data.toList),h,hF.sub ⟨rfl,trivial⟩,hO.selT (Ls:=[]) [] 0 rfl rfl rfl⟩
                ·
                 refine TC.seq ?_
                 refine TC.region ?_
                 refine TV rfl rfl rfl (Val.eqT rfl rfl) ?_
                 refine TV rfl rfl rfl (Val.assign rfl) ?_
                 refine TL.nil ?_
                 refine TQ.then_ ?_
                 refine TC.cond_b rfl h (fun hc571 h=>?_) (fun hc571 h=>?_)
                 ·
                  refine TC.skip ?_
                  exact fun a W hF hO=>⟨(a0.data.toList == (⟨#[43]⟩:ByteArray).data.toList),h,hF.sub ⟨rfl,trivial⟩,hO.selT (Ls:=[]) [] 0 rfl rfl rfl⟩
                 ·
                  refine TC.seq ?_
                  refine TC.region ?_
                  refine TV rfl rfl rfl (Val.eqT rfl rfl) ?_
                  refine TV rfl rfl rfl (Val.assign rfl) ?_
                  refine TL.nil ?_
                  refine TQ.then_ ?_
                  refine TC.cond_b rfl h (fun hc579 h=>?_) (fun hc579 h=>?_)
                  ·
                   refine TC.skip ?_
                   exact fun a W hF hO=>⟨(a0.data.toList == (⟨#[45]⟩:ByteArray).data.toList),h,hF.sub ⟨rfl,trivial⟩,hO.selT (Ls:=[]) [] 0 rfl rfl rfl⟩
                  ·
                   refine TC.seq ?_
                   refine TC.region ?_
                   refine TV rfl rfl rfl (Val.eqT rfl rfl) ?_
                   refine TV rfl rfl rfl (Val.assign rfl) ?_
                   refine TL.nil ?_
                   refine TQ.then_ ?_
                   refine TC.cond_b rfl h (fun hc586 h=>?_) (fun hc586 h=>?_)
                   ·
                    refine TC.skip ?_
                    exact fun a W hF hO=>⟨(a0.data.toList == (⟨#[42]⟩:ByteArray).data.toList),h,hF.sub ⟨rfl,trivial⟩,hO.selT (Ls:=[]) [] 0 rfl rfl rfl⟩
                   ·
                    refine TC.seq ?_
                    refine TC.region ?_
                    refine TV rfl rfl rfl (Val.eqT rfl rfl) ?_
                    refine TV rfl rfl rfl (Val.assign rfl) ?_
                    refine TL.nil ?_
                    refine TQ.then_ ?_
                    refine TC.cond_b rfl h (fun hc592 h=>?_) (fun hc592 h=>?_)
                    ·
                     refine TC.skip ?_
                     exact fun a W hF hO=>⟨(a0.data.toList == (⟨#[47]⟩:ByteArray).data.toList),h,hF.sub ⟨rfl,trivial⟩,hO.selT (Ls:=[]) [] 0 rfl rfl rfl⟩
                    ·
                     refine TC.seq ?_
                     refine TC.region ?_
                     refine TV rfl rfl rfl (Val.eqT rfl rfl) ?_
                     refine TV rfl rfl rfl (Val.assign rfl) ?_
                     refine TL.nil ?_
                     refine TQ.then_ ?_
                     refine TC.cond_b rfl h (fun hc597 h=>?_) (fun hc597 h=>?_)
                     ·
                      refine TC.skip ?_
                      exact fun a W hF hO=>⟨(a0.data.toList == (⟨#[37]⟩:ByteArray).data.toList),h,hF.sub ⟨rfl,trivial⟩,hO.selT (Ls:=[]) [] 0 rfl rfl rfl⟩
                     ·
                      refine TC.seq ?_
                      refine TC.region ?_
                      refine TV rfl rfl rfl (Val.eqT rfl rfl) ?_
                      refine TV rfl rfl rfl (Val.assign rfl) ?_
                      refine TL.nil ?_
                      refine TQ.then_ ?_
                      refine TC.cond_b rfl h (fun hc601 h=>?_) (fun hc601 h=>?_)
                      ·
                       refine TC.skip ?_
                       exact fun a W hF hO=>⟨(a0.data.toList == (⟨#[38]⟩:ByteArray).data.toList),h,hF.sub ⟨rfl,trivial⟩,hO.selT (Ls:=[]) [] 0 rfl rfl rfl⟩
                      ·
                       refine TC.seq ?_
                       refine TC.region ?_
                       refine TV rfl rfl rfl (Val.eqT rfl rfl) ?_
                       refine TV rfl rfl rfl (Val.assign rfl) ?_
                       refine TL.nil ?_
                       refine TQ.then_ ?_
                       refine TC.cond_b rfl h (fun hc604 h=>?_) (fun hc604 h=>?_)
                       ·
                        refine TC.skip ?_
                        exact fun a W hF hO=>⟨(a0.data.toList == (⟨#[124]⟩:ByteArray).data.toList),h,hF.sub ⟨rfl,trivial⟩,hO.selT (Ls:=[]) [] 0 rfl rfl rfl⟩
                       ·
                        refine TC.seq ?_
                        refine TC.region ?_
                        refine TV rfl rfl rfl (Val.eqT rfl rfl) ?_
                        refine TV rfl rfl rfl (Val.assign rfl) ?_
                        refine TL.nil ?_
                        refine TQ.then_ ?_
                        refine TC.cond_b rfl h (fun hc606 h=>?_) (fun hc606 h=>?_)
                        ·
                         refine TC.skip ?_
                         exact fun a W hF hO=>⟨(a0.data.toList == (⟨#[94]⟩:ByteArray).data.toList),h,hF.sub ⟨rfl,trivial⟩,hO.selT (Ls:=[]) [] 0 rfl rfl rfl⟩
                        ·
                         refine TC.region ?_
                         refine TV rfl rfl rfl (Val.eqT rfl rfl) ?_
                         refine TV rfl rfl rfl (Val.assign rfl) ?_
                         refine TL.nil ?_
                         exact fun a W hF hO=>⟨(a0.data.toList == (⟨#[60]⟩:ByteArray).data.toList),h,hF.sub ⟨rfl,trivial⟩,hO.selT (Ls:=[]) [] 0 rfl rfl rfl⟩
def token_cut.l0 (a0:ByteArray):Nat → Int → Option (Int)
 | 0,_=>none
 | n762 + 1,x741=>jn (γ:=(Int)) (fun (x788:Bool)=>(if x788=true then token_cut.l0 a0 n762 (IntKind.i64.wrap (x741 + 1)) else some x741)) (fun (j789:(Bool → Option (Int)))=>(if x741 < (a0.size:Int) then (byte? a0 x741).bind fun (y794:Int)=>(token_word.f y794).bind fun (y796:Bool)=>j789 y796 else j789 false))
def token_cut.l1 (a0:ByteArray):Nat → Int → Option (Int)
 | 0,_=>none
 | n1034 + 1,x1013=>jn (γ:=(Int)) (fun (x1088:Bool)=>(if x1088=true then token_cut.l1 a0 n1034 (IntKind.i64.wrap (x1013 + 1)) else some x1013)) (fun (j1089:(Bool → Option (Int)))=>(if x1013 < (a0.size:Int) then (byte? a0 x1013).bind fun (y1094:Int)=>(token_digit.f y1094).bind fun (y1096:Bool)=>j1089 y1096 else j1089 false))
def token_cut.l2 (a0:ByteArray) (a1:Int):Nat → Int → Option (Sum (Int × Int) (Unit))
 | 0,_=>none
 | n1214 + 1,x1174=>(if 0 < x1174 then jn (γ:=(Sum (Int × Int) (Unit))) (fun (x1280:Bool)=>(if x1280=true then some (.inl (IntKind.i64.wrap (a1 + x1174),3)) else token_cut.l2 a0 a1 n1214 (IntKind.i64.wrap (x1174 - 1)))) (fun (j1281:(Bool → Option (Sum (Int × Int) (Unit))))=>(if (IntKind.i64.wrap (a1 + x1174)) ≤ (a0.size:Int) then (cutS? a0 a1 (IntKind.i64.wrap (a1 + x1174))).bind fun (y1286:ByteArray)=>(token_Sign.f y1286).bind fun (y1288:Bool)=>j1281 y1288 else j1281 false)) else some (.inr ()))
def token_cut.f (a0:ByteArray) (a1:Int):Option (Int × Int):=(byte? a0 a1).bind fun (y1:Int)=>(token_letter.f y1).bind fun (y438:Bool)=>(if y438=true then (token_cut.l0 a0 (a0.size + 1) a1).bind fun (x760:Int)=>some (x760,1) else (token_digit.f y1).bind fun (y799:Bool)=>(if y799=true then (token_cut.l1 a0 (a0.size + 1) a1).bind fun (x1032:Int)=>(cutS? a0 a1 x1032).bind fun (y1053:ByteArray)=>(token_Number.f y1053).bind fun (y1055:(Int × Bool))=>jn (γ:=(Int × Int)) (fun (x1067:Bool)=>(if x1067=true then some (a1,0) else some (x1032,2))) (fun (j1068:(Bool → Option (Int × Int)))=>(if (!y1055.2)=true then j1068 true else (if x1032 < (a0.size:Int) then (byte? a0 x1032).bind fun (y1076:Int)=>(token_letter.f y1076).bind fun (y1078:Bool)=>j1068 y1078 else j1068 false))) else (token_cut.l2 a0 a1 (2 + 1) 2).bind fun | .inl q_=>some q_ | .inr _=>(some (a1,0))))
def token_cut.post (G:Gd)  (r:(Int × Int)) (v:Value) (G':Gd) (Lr:List Ch):Prop:=G=G'∧v=.tuple #[VI r.1,VI r.2]∧Lr=[]
theorem token_cut.calls {G:Gd} {r:(Int × Int)} {a0:ByteArray} {a1:Int} (h:token_cut.f a0 a1=some r):Fn Try.prog 42 G [] [.string a0,VI a1] (token_cut.post G  r):=by
 refine Fn.intro (e:=[(0,.string a0),(1,VI a1)]) 72 Try.func42 rfl Try.ntmps42 rfl rfl (Nat.le_of_ble_eq_true rfl) (fun L=>?_)
 unfold token_cut.f at h
 refine TC.seq ?_
 refine TC.region ?_
 refine TV rfl rfl rfl (Val.assign rfl) ?_
 refine TV rfl rfl rfl (Val.assign rfl) ?_
 refine TL.nil ?_
 refine TQ.then_ ?_
 refine TC.seq ?_
 refine TC.seq ?_
 refine TC.region ?_
 refine TV rfl rfl rfl (Val.move rfl) ?_
 refine TV rfl rfl rfl (Val.move rfl) ?_
 obtain ⟨y1,hy2,h⟩:=bind_no h
 refine TV rfl rfl rfl (Val.indexS Try.underlying9 rfl rfl hy2) ?_
 refine TV rfl rfl rfl (Val.assign rfl) ?_
 refine TL.nil ?_
 refine TQ.then_ ?_
 refine TC.block ?_
 refine TC.seq ?_
 refine TC.region ?_
 refine TV rfl rfl rfl (Val.move rfl) ?_
 obtain ⟨y438,hy439,h⟩:=bind_no h
 refine TL.cons (TL.callV (Lin:=[]) (args:=[.int .u8 y1]) rfl rfl rfl hbd57 rfl rfl (token_letter.calls (a0:=y1) hy439) rfl ?_)
 rintro _ _ _ _ ⟨rfl,rfl,rfl⟩
 refine TV rfl rfl rfl (Val.assign rfl) ?_
 refine TL.nil ?_
 refine TQ.then_ ?_
 refine TC.cond_b rfl h (fun hc644 h=>?_) (fun hc644 h=>?_)
 ·
  refine TC.seq ?_
  refine TC.region ?_
  refine TV rfl rfl rfl (Val.move rfl) ?_
  refine TV rfl rfl rfl (Val.move rfl) ?_
  refine TL.cons (TO.inl (args:=[.string a0,VI a1,.func (.func 58) #[] #[]]) (e':=[(0,.string a0),(1,VI a1),(2,.func (.func 58) #[] #[])]) 21 rfl rfl hbd53 rfl rfl Try.func53 rfl Try.ntmps53 rfl rfl (Nat.le_of_ble_eq_true rfl) (fun a645 hf646=>?_))
  refine TC.seq ?_
  refine TC.region ?_
  refine TV rfl rfl rfl (Val.assign rfl) ?_
  refine TL.nil ?_
  refine TQ.then_ ?_
  refine TC.seq ?_
  obtain ⟨o761,ho761,ko761⟩:=bind_no h
  clear h
  refine TC.tail (fun a W=>∃ (x760:Int),x760=o761∧Fr 21 a [(1,VI x760)]∧Own G (L) W) ?_ ?_
  ·
   rintro a W ⟨x760,rfl,hF,hO⟩
   have h:=ko761
   clear ko761 ho761
   refine TQ.use ?_ hF hO
   clear hF hO
   refine TQ.then_ ?_
   refine TC.seq ?_
   refine TC.region ?_
   refine TV rfl rfl rfl (Val.move rfl) ?_
   refine TV rfl rfl rfl (Val.assign rfl) ?_
   refine TL.nil ?_
   refine TQ.then_ ?_
   refine TC.ret ?_
   refine TQ.fin (v:=VI x760) (.inl rfl) rfl Try.results53 (.tmp rfl .nil) rfl (After.mk hf646 rfl ?_)
   refine TV rfl rfl rfl (Val.assign rfl) ?_
   refine TV rfl rfl rfl (Val.assign rfl) ?_
   refine TL.nil ?_
   refine TQ.then_ ?_
   refine TC.ret ?_
   refine TQ.inBR ?_
   refine TQ.thenR ?_
   obtain rfl:=Option.some.inj h
   exact TQ.fin (.inl rfl) rfl Try.results42 (.tmp rfl (.tmp rfl .nil)) rfl (FRel.mk (Ls:=[]) [] 0 (Gd.le.refl _) rfl rfl rfl ⟨rfl,rfl,rfl⟩)
  ·
   refine TC.block ?_
   intro a W hF hO
   have hS:∃ (x741:Int),token_cut.l0 a0 (a0.size + 1) x741=some o761∧Fr 21 a [(0,.string a0),(1,VI x741),(2,.func (.func 58) #[] #[])]∧Own G (L) W:=by
    exact ⟨a1,ho761,hF.sub ⟨rfl,rfl,rfl,trivial⟩,hO.selT (Ls:=[]) [] 0 rfl rfl rfl⟩
   clear hF hO ho761 ko761
   refine TC.loop (fun n762 a W=>∃ (x741:Int),token_cut.l0 a0 n762 x741=some o761∧Fr 21 a [(0,.string a0),(1,VI x741),(2,.func (.func 58) #[] #[])]∧Own G (L) W) ?_ ?_ hS
   ·
    rintro a W ⟨x741,h,hF,hO⟩
    exact none_no h
   ·
    clear hS
    rintro n762 a W ⟨x741,h,hF,hO⟩
    rw [token_cut.l0] at h
    refine TC.use ?_ hF hO
    clear hF hO
    refine TC.seq ?_
    refine TC.seq ?_
    obtain ⟨j789,hj789,h⟩:=jn_no h
    refine TC.tail (fun a W=>∃ (x788:Bool),j789 x788=some o761∧Fr 21 a [(0,.string a0),(1,VI x741),(2,.func (.func 58) #[] #[]),(17,.bool x788)]∧Own G (L) W) ?_ ?_
    ·
     rintro a W ⟨x788,h,hF,hO⟩
     rw [hj789] at h
     refine TQ.use ?_ hF hO
     clear hF hO
     refine TQ.then_ ?_
     refine TC.cond_b rfl h (fun hc791 h=>?_) (fun hc791 h=>?_)
     ·
      refine TC.skip ?_
      refine TQ.then_ ?_
      refine TC.block ?_
      refine TC.region ?_
      refine TV rfl rfl rfl (Val.move rfl) ?_
      refine TV rfl rfl rfl (Val.cmp rfl rfl run_add) ?_
      refine TV rfl rfl rfl (Val.assign rfl) ?_
      refine TL.nil ?_
      refine TQ.inB ?_
      exact fun a W hF hO=>⟨IntKind.i64.wrap (x741 + 1),h,hF.sub ⟨rfl,rfl,rfl,trivial⟩,hO.selT (Ls:=[]) [] 0 rfl rfl rfl⟩
     ·
      refine TC.exit ?_
      refine TQ.thenX ?_
      refine TQ.thenX ?_
      refine TQ.inBX ?_
      exact fun a W hF hO=>⟨x741,Option.some.inj h,hF.sub ⟨rfl,trivial⟩,hO.selT (Ls:=[]) [] 0 rfl rfl rfl⟩
    ·
     refine TC.region ?_
     refine TV rfl rfl rfl (Val.move rfl) ?_
     refine TV rfl rfl rfl (Val.move rfl) ?_
     refine TV rfl rfl rfl (Val.lenS Try.underlying9 rfl) ?_
     refine TV rfl rfl rfl (Val.cmp rfl rfl run_lss) ?_
     refine TV rfl rfl rfl (Val.move rfl) ?_
     refine TK.split (p:=x741 < (a0.size:Int)) h (fun hg792 h=>?_) (fun hg792 h=>?_)
     ·
      have hk793:decide (x741 < (a0.size:Int))=true:=decide_eq_true hg792
      refine TV (Wt.yes rfl rfl rfl hk793) rfl rfl (Val.move rfl) ?_
      refine TV (Wt.yes rfl rfl rfl hk793) rfl rfl (Val.move rfl) ?_
      refine TV (Wt.yes rfl rfl rfl hk793) rfl rfl (Val.move rfl) ?_
      obtain ⟨y794,hy795,h⟩:=bind_no h
      refine TV (Wt.yes rfl rfl rfl hk793) rfl rfl (Val.indexS Try.underlying9 rfl rfl hy795) ?_
      obtain ⟨y796,hy797,h⟩:=bind_no h
      refine TL.cons (TL.callV (Lin:=[]) (args:=[.int .u8 y794]) (Wt.yes rfl rfl rfl hk793) rfl rfl hbd58 rfl rfl (token_word.calls (a0:=y794) hy797) rfl ?_)
      rintro _ _ _ _ ⟨rfl,rfl,rfl⟩
      refine TV rfl rfl rfl (Val.pickY rfl hk793 rfl) ?_
      refine TL.nil ?_
      exact fun a W hF hO=>⟨y796,h,hF.sub ⟨rfl,rfl,rfl,rfl,trivial⟩,hO.selT (Ls:=[]) [] 0 rfl rfl rfl⟩
     ·
      have hk798:decide (x741 < (a0.size:Int))=false:=decide_eq_false hg792
      refine TL.cons (TL.not (Wt.no rfl rfl rfl hk798) rfl ?_)
      refine TL.cons (TL.not (Wt.no rfl rfl rfl hk798) rfl ?_)
      refine TL.cons (TL.not (Wt.no rfl rfl rfl hk798) rfl ?_)
      refine TL.cons (TL.not (Wt.no rfl rfl rfl hk798) rfl ?_)
      refine TL.cons (TL.not (Wt.no rfl rfl rfl hk798) rfl ?_)
      refine TV rfl rfl rfl (Val.pickN rfl hk798 rfl) ?_
      refine TL.nil ?_
      exact fun a W hF hO=>⟨false,h,hF.sub ⟨rfl,rfl,rfl,rfl,trivial⟩,hO.selT (Ls:=[]) [] 0 rfl rfl rfl⟩
 ·
  refine TC.seq ?_
  refine TC.region ?_
  refine TV rfl rfl rfl (Val.move rfl) ?_
  obtain ⟨y799,hy800,h⟩:=bind_no h
  refine TL.cons (TL.callV (Lin:=[]) (args:=[.int .u8 y1]) rfl rfl rfl hbd59 rfl rfl (token_digit.calls (a0:=y1) hy800) rfl ?_)
  rintro _ _ _ _ ⟨rfl,rfl,rfl⟩
  refine TV rfl rfl rfl (Val.assign rfl) ?_
  refine TL.nil ?_
  refine TQ.then_ ?_
  refine TC.cond_b rfl h (fun hc916 h=>?_) (fun hc916 h=>?_)
  ·
   refine TC.seq ?_
   refine TC.region ?_
   refine TV rfl rfl rfl (Val.move rfl) ?_
   refine TV rfl rfl rfl (Val.move rfl) ?_
   refine TL.cons (TO.inl (args:=[.string a0,VI a1,.func (.func 59) #[] #[]]) (e':=[(0,.string a0),(1,VI a1),(2,.func (.func 59) #[] #[])]) 21 rfl rfl hbd53 rfl rfl Try.func53 rfl Try.ntmps53 rfl rfl (Nat.le_of_ble_eq_true rfl) (fun a917 hf918=>?_))
   refine TC.seq ?_
   refine TC.region ?_
   refine TV rfl rfl rfl (Val.assign rfl) ?_
   refine TL.nil ?_
   refine TQ.then_ ?_
   refine TC.seq ?_
   obtain ⟨o1033,ho1033,ko1033⟩:=bind_no h
   clear h
   refine TC.tail (fun a W=>∃ (x1032:Int),x1032=o1033∧Fr 21 a [(1,VI x1032)]∧Own G (L) W) ?_ ?_
   ·
    rintro a W ⟨x1032,rfl,hF,hO⟩
    have h:=ko1033
    clear ko1033 ho1033
    refine TQ.use ?_ hF hO
    clear hF hO
    refine TQ.then_ ?_
    refine TC.seq ?_
    refine TC.region ?_
    refine TV rfl rfl rfl (Val.move rfl) ?_
    refine TV rfl rfl rfl (Val.assign rfl) ?_
    refine TL.nil ?_
    refine TQ.then_ ?_
    refine TC.ret ?_
    refine TQ.fin (v:=VI x1032) (.inl rfl) rfl Try.results53 (.tmp rfl .nil) rfl (After.mk hf918 rfl ?_)
    refine TV rfl rfl rfl (Val.assign rfl) ?_
    refine TL.nil ?_
    refine TQ.then_ ?_
    refine TC.seq ?_
    refine TC.seq ?_
    refine TC.region ?_
    refine TV rfl rfl rfl (Val.move rfl) ?_
    refine TV rfl rfl rfl (Val.move rfl) ?_
    refine TV rfl rfl rfl (Val.move rfl) ?_
    obtain ⟨y1053,hy1054,h⟩:=bind_no h
    refine TV rfl rfl rfl (Val.cutS Try.underlying9 rfl rfl rfl hy1054) ?_
    obtain ⟨y1055,hy1056,h⟩:=bind_no h
    refine TL.cons (TL.callV (Lin:=[]) (args:=[.string y1053]) rfl rfl rfl hbd60 rfl rfl (token_Number.calls (a0:=y1053) hy1056) rfl ?_)
    rintro _ _ _ _ ⟨rfl,rfl,rfl⟩
    refine TV rfl rfl rfl (Val.move rfl) ?_
    refine TV rfl rfl rfl (Val.extract rfl rfl) ?_
    refine TV rfl rfl rfl (Val.extract rfl rfl) ?_
    refine TV rfl rfl rfl (Val.assign rfl) ?_
    refine TV rfl rfl rfl (Val.assign rfl) ?_
    refine TL.nil ?_
    refine TQ.then_ ?_
    refine TC.seq ?_
    obtain ⟨j1068,hj1068,h⟩:=jn_no h
    refine TC.tail (fun a W=>∃ (x1067:Bool),j1068 x1067=some r∧Fr 72 a [(1,VI a1),(4,VI x1032),(46,.bool x1067)]∧Own G (L) W) ?_ ?_
    ·
     rintro a W ⟨x1067,h,hF,hO⟩
     rw [hj1068] at h
     refine TQ.use ?_ hF hO
     clear hF hO
     refine TQ.then_ ?_
     refine TC.cond_b rfl h (fun hc1070 h=>?_) (fun hc1070 h=>?_)
     ·
      refine TC.seq ?_
      refine TC.region ?_
      refine TV rfl rfl rfl (Val.move rfl) ?_
      refine TV rfl rfl rfl (Val.assign rfl) ?_
      refine TV rfl rfl rfl (Val.assign rfl) ?_
      refine TL.nil ?_
      refine TQ.then_ ?_
      refine TC.ret ?_
      refine TQ.thenR ?_
      refine TQ.inBR ?_
      refine TQ.thenR ?_
      obtain rfl:=Option.some.inj h
      exact TQ.fin (.inl rfl) rfl Try.results42 (.tmp rfl (.tmp rfl .nil)) rfl (FRel.mk (Ls:=[]) [] 0 (Gd.le.refl _) rfl rfl rfl ⟨rfl,rfl,rfl⟩)
     ·
      refine TC.skip ?_
      refine TQ.then_ ?_
      refine TC.seq ?_
      refine TC.region ?_
      refine TV rfl rfl rfl (Val.move rfl) ?_
      refine TV rfl rfl rfl (Val.assign rfl) ?_
      refine TV rfl rfl rfl (Val.assign rfl) ?_
      refine TL.nil ?_
      refine TQ.then_ ?_
      refine TC.ret ?_
      refine TQ.inBR ?_
      refine TQ.thenR ?_
      obtain rfl:=Option.some.inj h
      exact TQ.fin (.inl rfl) rfl Try.results42 (.tmp rfl (.tmp rfl .nil)) rfl (FRel.mk (Ls:=[]) [] 0 (Gd.le.refl _) rfl rfl rfl ⟨rfl,rfl,rfl⟩)
    ·
     refine TC.region ?_
     refine TV rfl rfl rfl (Val.move rfl) ?_
     refine TV rfl rfl rfl (Val.not_ rfl) ?_
     refine TV rfl rfl rfl (Val.move rfl) ?_
     refine TK.split (p:=(!y1055.2)=true) h (fun hg1071 h=>?_) (fun hg1071 h=>?_)
     ·
      have hk1072:(!y1055.2)=true:=hg1071
      refine TL.cons (TL.not (Wt.no rfl rfl rfl hk1072) rfl ?_)
      refine TL.cons (TL.not (Wt.no rfl rfl rfl hk1072) rfl ?_)
      refine TL.cons (TL.not (Wt.no rfl rfl rfl hk1072) rfl ?_)
      refine TL.cons (TL.not (Wt.no rfl rfl rfl hk1072) rfl ?_)
      refine TL.cons (TL.not (Wt.no rfl rfl rfl hk1072) rfl ?_)
      refine TL.cons (TL.not rfl rfl ?_)
      refine TL.cons (TL.not rfl rfl ?_)
      refine TL.cons (TL.not rfl rfl ?_)
      refine TL.cons (TL.not rfl rfl ?_)
      refine TL.cons (TL.not (Wt.no rfl rfl rfl hk1072) rfl ?_)
      refine TV rfl rfl rfl (Val.pickY rfl hk1072 rfl) ?_
      refine TL.nil ?_
      exact fun a W hF hO=>⟨true,h,hF.sub ⟨rfl,rfl,rfl,trivial⟩,hO.selT (Ls:=[]) [] 0 rfl rfl rfl⟩
     ·
      have hk1073:(!y1055.2)=false:=(by simpa using hg1071)
      refine TV (Wt.yes rfl rfl rfl hk1073) rfl rfl (Val.move rfl) ?_
      refine TV (Wt.yes rfl rfl rfl hk1073) rfl rfl (Val.move rfl) ?_
      refine TV (Wt.yes rfl rfl rfl hk1073) rfl rfl (Val.lenS Try.underlying9 rfl) ?_
      refine TV (Wt.yes rfl rfl rfl hk1073) rfl rfl (Val.cmp rfl rfl run_lss) ?_
      refine TV (Wt.yes rfl rfl rfl hk1073) rfl rfl (Val.move rfl) ?_
      refine TK.split (p:=x1032 < (a0.size:Int)) h (fun hg1074 h=>?_) (fun hg1074 h=>?_)
      ·
       have hk1075:decide (x1032 < (a0.size:Int))=true:=decide_eq_true hg1074
       refine TV (Wt.yes rfl rfl rfl hk1075) rfl rfl (Val.move rfl) ?_
       refine TV (Wt.yes rfl rfl rfl hk1075) rfl rfl (Val.move rfl) ?_
       obtain ⟨y1076,hy1077,h⟩:=bind_no h
       refine TV (Wt.yes rfl rfl rfl hk1075) rfl rfl (Val.indexS Try.underlying9 rfl rfl hy1077) ?_
       obtain ⟨y1078,hy1079,h⟩:=bind_no h
       refine TL.cons (TL.callV (Lin:=[]) (args:=[.int .u8 y1076]) (Wt.yes rfl rfl rfl hk1075) rfl rfl hbd57 rfl rfl (token_letter.calls (a0:=y1076) hy1079) rfl ?_)
       rintro _ _ _ _ ⟨rfl,rfl,rfl⟩
       refine TV (Wt.yes rfl rfl rfl hk1073) rfl rfl (Val.pickY rfl hk1075 rfl) ?_
       refine TV rfl rfl rfl (Val.pickN rfl hk1073 rfl) ?_
       refine TL.nil ?_
       exact fun a W hF hO=>⟨y1078,h,hF.sub ⟨rfl,rfl,rfl,trivial⟩,hO.selT (Ls:=[]) [] 0 rfl rfl rfl⟩
      ·
       have hk1080:decide (x1032 < (a0.size:Int))=false:=decide_eq_false hg1074
       refine TL.cons (TL.not (Wt.no rfl rfl rfl hk1080) rfl ?_)
       refine TL.cons (TL.not (Wt.no rfl rfl rfl hk1080) rfl ?_)
       refine TL.cons (TL.not (Wt.no rfl rfl rfl hk1080) rfl ?_)
       refine TL.cons (TL.not (Wt.no rfl rfl rfl hk1080) rfl ?_)
       refine TV (Wt.yes rfl rfl rfl hk1073) rfl rfl (Val.pickN rfl hk1080 rfl) ?_
       refine TV rfl rfl rfl (Val.pickN rfl hk1073 rfl) ?_
       refine TL.nil ?_
       exact fun a W hF hO=>⟨false,h,hF.sub ⟨rfl,rfl,rfl,trivial⟩,hO.selT (Ls:=[]) [] 0 rfl rfl rfl⟩
   ·
    refine TC.block ?_
    intro a W hF hO
    have hS:∃ (x1013:Int),token_cut.l1 a0 (a0.size + 1) x1013=some o1033∧Fr 21 a [(0,.string a0),(1,VI x1013),(2,.func (.func 59) #[] #[])]∧Own G (L) W:=by
     exact ⟨a1,ho1033,hF.sub ⟨rfl,rfl,rfl,trivial⟩,hO.selT (Ls:=[]) [] 0 rfl rfl rfl⟩
    clear hF hO ho1033 ko1033
    refine TC.loop (fun n1034 a W=>∃ (x1013:Int),token_cut.l1 a0 n1034 x1013=some o1033∧Fr 21 a [(0,.string a0),(1,VI x1013),(2,.func (.func 59) #[] #[])]∧Own G (L) W) ?_ ?_ hS
    ·
     rintro a W ⟨x1013,h,hF,hO⟩
     exact none_no h
    ·
     clear hS
     rintro n1034 a W ⟨x1013,h,hF,hO⟩
     rw [token_cut.l1] at h
     refine TC.use ?_ hF hO
     clear hF hO
     refine TC.seq ?_
     refine TC.seq ?_
     obtain ⟨j1089,hj1089,h⟩:=jn_no h
     refine TC.tail (fun a W=>∃ (x1088:Bool),j1089 x1088=some o1033∧Fr 21 a [(0,.string a0),(1,VI x1013),(2,.func (.func 59) #[] #[]),(17,.bool x1088)]∧Own G (L) W) ?_ ?_
     ·
      rintro a W ⟨x1088,h,hF,hO⟩
      rw [hj1089] at h
      refine TQ.use ?_ hF hO
      clear hF hO
      refine TQ.then_ ?_
      refine TC.cond_b rfl h (fun hc1091 h=>?_) (fun hc1091 h=>?_)
      ·
       refine TC.skip ?_
       refine TQ.then_ ?_
       refine TC.block ?_
       refine TC.region ?_
       refine TV rfl rfl rfl (Val.move rfl) ?_
       refine TV rfl rfl rfl (Val.cmp rfl rfl run_add) ?_
       refine TV rfl rfl rfl (Val.assign rfl) ?_
       refine TL.nil ?_
       refine TQ.inB ?_
       exact fun a W hF hO=>⟨IntKind.i64.wrap (x1013 + 1),h,hF.sub ⟨rfl,rfl,rfl,trivial⟩,hO.selT (Ls:=[]) [] 0 rfl rfl rfl⟩
      ·
       refine TC.exit ?_
       refine TQ.thenX ?_
       refine TQ.thenX ?_
       refine TQ.inBX ?_
       exact fun a W hF hO=>⟨x1013,Option.some.inj h,hF.sub ⟨rfl,trivial⟩,hO.selT (Ls:=[]) [] 0 rfl rfl rfl⟩
     ·
      refine TC.region ?_
      refine TV rfl rfl rfl (Val.move rfl) ?_
      refine TV rfl rfl rfl (Val.move rfl) ?_
      refine TV rfl rfl rfl (Val.lenS Try.underlying9 rfl) ?_
      refine TV rfl rfl rfl (Val.cmp rfl rfl run_lss) ?_
      refine TV rfl rfl rfl (Val.move rfl) ?_
      refine TK.split (p:=x1013 < (a0.size:Int)) h (fun hg1092 h=>?_) (fun hg1092 h=>?_)
      ·
       have hk1093:decide (x1013 < (a0.size:Int))=true:=decide_eq_true hg1092
       refine TV (Wt.yes rfl rfl rfl hk1093) rfl rfl (Val.move rfl) ?_
       refine TV (Wt.yes rfl rfl rfl hk1093) rfl rfl (Val.move rfl) ?_
       refine TV (Wt.yes rfl rfl rfl hk1093) rfl rfl (Val.move rfl) ?_
       obtain ⟨y1094,hy1095,h⟩:=bind_no h
       refine TV (Wt.yes rfl rfl rfl hk1093) rfl rfl (Val.indexS Try.underlying9 rfl rfl hy1095) ?_
       obtain ⟨y1096,hy1097,h⟩:=bind_no h
       refine TL.cons (TL.callV (Lin:=[]) (args:=[.int .u8 y1094]) (Wt.yes rfl rfl rfl hk1093) rfl rfl hbd59 rfl rfl (token_digit.calls (a0:=y1094) hy1097) rfl ?_)
       rintro _ _ _ _ ⟨rfl,rfl,rfl⟩
       refine TV rfl rfl rfl (Val.pickY rfl hk1093 rfl) ?_
       refine TL.nil ?_
       exact fun a W hF hO=>⟨y1096,h,hF.sub ⟨rfl,rfl,rfl,rfl,trivial⟩,hO.selT (Ls:=[]) [] 0 rfl rfl rfl⟩
      ·
       have hk1098:decide (x1013 < (a0.size:Int))=false:=decide_eq_false hg1092
       refine TL.cons (TL.not (Wt.no rfl rfl rfl hk1098) rfl ?_)
       refine TL.cons (TL.not (Wt.no rfl rfl rfl hk1098) rfl ?_)
       refine TL.cons (TL.not (Wt.no rfl rfl rfl hk1098) rfl ?_)
       refine TL.cons (TL.not (Wt.no rfl rfl rfl hk1098) rfl ?_)
       refine TL.cons (TL.not (Wt.no rfl rfl rfl hk1098) rfl ?_)
       refine TV rfl rfl rfl (Val.pickN rfl hk1098 rfl) ?_
       refine TL.nil ?_
       exact fun a W hF hO=>⟨false,h,hF.sub ⟨rfl,rfl,rfl,rfl,trivial⟩,hO.selT (Ls:=[]) [] 0 rfl rfl rfl⟩
  ·
   refine TC.skip ?_
   refine TQ.inB ?_
   refine TQ.then_ ?_
   refine TC.seq ?_
   refine TC.seq ?_
   refine TC.region ?_
   refine TV rfl rfl rfl (Val.assign rfl) ?_
   refine TL.nil ?_
   refine TQ.then_ ?_
   obtain ⟨o1213,ho1213,ko1213⟩:=bind_no h
   clear h
   refine TC.tail (fun a W=>(.inr ())=o1213∧Fr 72 a [(1,VI a1)]∧Own G (L) W) ?_ ?_
   ·
    rintro a W ⟨rfl,hF,hO⟩
    have h:=ko1213
    clear ko1213 ho1213
    refine TQ.use ?_ hF hO
    clear hF hO
    refine TQ.then_ ?_
    refine TC.seq ?_
    refine TC.region ?_
    refine TV rfl rfl rfl (Val.move rfl) ?_
    refine TV rfl rfl rfl (Val.assign rfl) ?_
    refine TV rfl rfl rfl (Val.assign rfl) ?_
    refine TL.nil ?_
    refine TQ.then_ ?_
    refine TC.ret ?_
    obtain rfl:=Option.some.inj h
    exact TQ.fin (.inl rfl) rfl Try.results42 (.tmp rfl (.tmp rfl .nil)) rfl (FRel.mk (Ls:=[]) [] 0 (Gd.le.refl _) rfl rfl rfl ⟨rfl,rfl,rfl⟩)
   ·
    refine TC.block ?_
    intro a W hF hO
    have hS:∃ (x1174:Int),token_cut.l2 a0 a1 (2 + 1) x1174=some o1213∧Fr 72 a [(0,.string a0),(1,VI a1),(9,VI x1174)]∧Own G (L) W:=by
     exact ⟨2,ho1213,hF.sub ⟨rfl,rfl,rfl,trivial⟩,hO.selT (Ls:=[]) [] 0 rfl rfl rfl⟩
    clear hF hO ho1213
    refine TC.loop (fun n1214 a W=>∃ (x1174:Int),token_cut.l2 a0 a1 n1214 x1174=some o1213∧Fr 72 a [(0,.string a0),(1,VI a1),(9,VI x1174)]∧Own G (L) W) ?_ ?_ hS
    ·
     rintro a W ⟨x1174,h,hF,hO⟩
     exact none_no h
    ·
     clear hS
     rintro n1214 a W ⟨x1174,h,hF,hO⟩
     rw [token_cut.l2] at h
     refine TC.use ?_ hF hO
     clear hF hO
     refine TC.seq ?_
     refine TC.seq ?_
     refine TC.region ?_
     refine TV rfl rfl rfl (Val.move rfl) ?_
     refine TV rfl rfl rfl (Val.cmp rfl rfl run_gtr) ?_
     refine TL.nil ?_
     refine TQ.then_ ?_
     refine TC.cond_p rfl h (fun hc1254 h=>?_) (fun hc1254 h=>?_)
     ·
      refine TC.skip ?_
      refine TQ.then_ ?_
      refine TC.seq ?_
      refine TC.block ?_
      refine TC.seq ?_
      obtain ⟨j1281,hj1281,h⟩:=jn_no h
      refine TC.tail (fun a W=>∃ (x1280:Bool),j1281 x1280=some o1213∧Fr 72 a [(0,.string a0),(1,VI a1),(9,VI x1174),(67,.bool x1280)]∧Own G (L) W) ?_ ?_
      ·
       rintro a W ⟨x1280,h,hF,hO⟩
       rw [hj1281] at h
       refine TQ.use ?_ hF hO
       clear hF hO
       refine TQ.then_ ?_
       refine TC.cond_b rfl h (fun hc1283 h=>?_) (fun hc1283 h=>?_)
       ·
        refine TC.seq ?_
        refine TC.region ?_
        refine TV rfl rfl rfl (Val.move rfl) ?_
        refine TV rfl rfl rfl (Val.move rfl) ?_
        refine TV rfl rfl rfl (Val.cmp rfl rfl run_add) ?_
        refine TV rfl rfl rfl (Val.assign rfl) ?_
        refine TV rfl rfl rfl (Val.assign rfl) ?_
        refine TL.nil ?_
        refine TQ.then_ ?_
        refine TC.ret ?_
        refine TQ.inBR ?_
        refine TQ.thenR ?_
        refine TQ.thenR ?_
        refine TQ.inBR ?_
        refine TQ.thenR ?_
        refine TQ.thenR ?_
        obtain rfl:=Option.some.inj h
        have h:=ko1213
        obtain rfl:=Option.some.inj h
        exact TQ.fin (.inl rfl) rfl Try.results42 (.tmp rfl (.tmp rfl .nil)) rfl (FRel.mk (Ls:=[]) [] 0 (Gd.le.refl _) rfl rfl rfl ⟨rfl,rfl,rfl⟩)
       ·
        refine TC.skip ?_
        refine TQ.inB ?_
        refine TQ.then_ ?_
        refine TC.region ?_
        refine TV rfl rfl rfl (Val.move rfl) ?_
        refine TV rfl rfl rfl (Val.cmp rfl rfl run_sub) ?_
        refine TV rfl rfl rfl (Val.assign rfl) ?_
        refine TL.nil ?_
        exact fun a W hF hO=>⟨IntKind.i64.wrap (x1174 - 1),h,hF.sub ⟨rfl,rfl,rfl,trivial⟩,hO.selT (Ls:=[]) [] 0 rfl rfl rfl⟩
      ·
       refine TC.region ?_
       refine TV rfl rfl rfl (Val.move rfl) ?_
       refine TV rfl rfl rfl (Val.move rfl) ?_
       refine TV rfl rfl rfl (Val.cmp rfl rfl run_add) ?_
       refine TV rfl rfl rfl (Val.move rfl) ?_
       refine TV rfl rfl rfl (Val.lenS Try.underlying9 rfl) ?_
       refine TV rfl rfl rfl (Val.cmp rfl rfl run_leq) ?_
       refine TV rfl rfl rfl (Val.move rfl) ?_
       refine TK.split (p:=(IntKind.i64.wrap (a1 + x1174)) ≤ (a0.size:Int)) h (fun hg1284 h=>?_) (fun hg1284 h=>?_)
       ·
        have hk1285:decide ((IntKind.i64.wrap (a1 + x1174)) ≤ (a0.size:Int))=true:=decide_eq_true hg1284
        refine TV (Wt.yes rfl rfl rfl hk1285) rfl rfl (Val.move rfl) ?_
        refine TV (Wt.yes rfl rfl rfl hk1285) rfl rfl (Val.move rfl) ?_
        refine TV (Wt.yes rfl rfl rfl hk1285) rfl rfl (Val.move rfl) ?_
        refine TV (Wt.yes rfl rfl rfl hk1285) rfl rfl (Val.move rfl) ?_
        refine TV (Wt.yes rfl rfl rfl hk1285) rfl rfl (Val.cmp rfl rfl run_add) ?_
        obtain ⟨y1286,hy1287,h⟩:=bind_no h
        refine TV (Wt.yes rfl rfl rfl hk1285) rfl rfl (Val.cutS Try.underlying9 rfl rfl rfl hy1287) ?_
        obtain ⟨y1288,hy1289,h⟩:=bind_no h
        refine TL.cons (TL.callV (Lin:=[]) (args:=[.string y1286]) (Wt.yes rfl rfl rfl hk1285) rfl rfl hbd61 rfl rfl (token_Sign.calls (a0:=y1286) hy1289) rfl ?_)
        rintro _ _ _ _ ⟨rfl,rfl,rfl⟩
        refine TV rfl rfl rfl (Val.pickY rfl hk1285 rfl) ?_
        refine TL.nil ?_
        exact fun a W hF hO=>⟨y1288,h,hF.sub ⟨rfl,rfl,rfl,rfl,trivial⟩,hO.selT (Ls:=[]) [] 0 rfl rfl rfl⟩
       ·
        have hk1290:decide ((IntKind.i64.wrap (a1 + x1174)) ≤ (a0.size:Int))=false:=decide_eq_false hg1284
        refine TL.cons (TL.not (Wt.no rfl rfl rfl hk1290) rfl ?_)
        refine TL.cons (TL.not (Wt.no rfl rfl rfl hk1290) rfl ?_)
        refine TL.cons (TL.not (Wt.no rfl rfl rfl hk1290) rfl ?_)
        refine TL.cons (TL.not (Wt.no rfl rfl rfl hk1290) rfl ?_)
        refine TL.cons (TL.not (Wt.no rfl rfl rfl hk1290) rfl ?_)
        refine TL.cons (TL.not (Wt.no rfl rfl rfl hk1290) rfl ?_)
        refine TL.cons (TL.not (Wt.no rfl rfl rfl hk1290) rfl ?_)
        refine TV rfl rfl rfl (Val.pickN rfl hk1290 rfl) ?_
        refine TL.nil ?_
        exact fun a W hF hO=>⟨false,h,hF.sub ⟨rfl,rfl,rfl,rfl,trivial⟩,hO.selT (Ls:=[]) [] 0 rfl rfl rfl⟩
     ·
      refine TC.exit ?_
      refine TQ.thenX ?_
      refine TQ.thenX ?_
      refine TQ.inBX ?_
      exact fun a W hF hO=>⟨Option.some.inj h,hF.sub ⟨rfl,trivial⟩,hO.selT (Ls:=[]) [] 0 rfl rfl rfl⟩
def token_Lex.l0 (a0:ByteArray) (j216:((List S41) → Option ((List S41) × Int × Int))):Nat → Int → (List S41) → Option (Sum ((List S41) × Int × Int) ((List S41)))
 | 0,_,_=>none
 | n518 + 1,x419,l420=>(if x419 < (a0.size:Int) then (token_cut.f a0 x419).bind fun (y654:(Int × Int))=>(cutS? a0 x419 y654.1).bind fun (y680:ByteArray)=>(if y654.2=0 then some (.inl (([]:List S41),x419,2)) else (if l420.length < 4398046511104 then (if y654.2=0 then (j216 (l420 ++ [(⟨y654.2,y680,x419⟩:S41)])).bind fun q_=>some (.inl q_) else (token_skip.f a0 y654.1).bind fun (y701:Int)=>token_Lex.l0 a0 j216 n518 y701 (l420 ++ [(⟨y654.2,y680,x419⟩:S41)])) else none)) else some (.inr l420))
def token_Lex.f (a0:ByteArray):Option ((List S41) × Int × Int):=(if 65536 < (a0.size:Int) then some (([]:List S41),65536,5) else jn (γ:=((List S41) × Int × Int)) (fun (l211:(List S41))=>some (l211,(a0.size:Int),0)) (fun (j216:((List S41) → Option ((List S41) × Int × Int)))=>(token_skip.f a0 0).bind fun (y227:Int)=>(token_Lex.l0 a0 j216 (a0.size + 1) y227 []).bind fun | .inl q_=>some q_ | .inr l513=>(j216 l513)))
def token_Lex.post (G:Gd)  (r:((List S41) × Int × Int)) (v:Value) (G':Gd) (Lr:List Ch):Prop:=G=G'∧∃ (A_1:Option Addr) (c_1:Nat),v=.tuple #[.slice A_1 r.1.length c_1,VI r.2.1,VI r.2.2]∧Lr=[Row k41 41 (.slice A_1 r.1.length c_1) r.1]
theorem token_Lex.calls {G:Gd} {r:((List S41) × Int × Int)} {a0:ByteArray} (h:token_Lex.f a0=some r):Fn Try.prog 17 G [] [.string a0] (token_Lex.post G  r):=by
 refine Fn.intro (e:=[(0,.string a0)]) 25 Try.func17 rfl Try.ntmps17 rfl rfl (Nat.le_of_ble_eq_true rfl) (fun L=>?_)
 unfold token_Lex.f at h
 refine TC.new (ch:=Mk []) Mk.nil ?_
 refine TC.seq ?_
 refine TC.region ?_
 refine TL.cons (TL.alloc (cs:=[.slice none 0 0]) rfl rfl zr32 rfl (fun b2=>?_))
 refine TL.cons (TL.alloc (cs:=[VI 0]) rfl rfl zr3 rfl (fun b3=>?_))
 refine TL.cons (TL.alloc (cs:=[VI 0]) rfl rfl zr33 rfl (fun b4=>?_))
 refine TL.nil ?_
 refine TQ.then_ ?_
 refine TC.seq ?_
 refine TC.seq ?_
 refine TC.region ?_
 refine TV rfl rfl rfl (Val.move rfl) ?_
 refine TV rfl rfl rfl (Val.lenS Try.underlying9 rfl) ?_
 refine TV rfl rfl rfl (Val.cmp rfl rfl run_gtr) ?_
 refine TL.nil ?_
 refine TQ.then_ ?_
 refine TC.cond_p rfl h (fun hc6 h=>?_) (fun hc6 h=>?_)
 ·
  refine TC.seq ?_
  refine TC.region ?_
  refine TL.cons (TL.store 2 (ds:=[.slice none 0 0]) (cs':=[.slice none 0 0]) (L':=(Blk b4 [VI 0] 33::Blk b3 [VI 0] 3::Blk b2 [.slice none 0 0] 32::Mk []::L)) rfl fsz32 rfl rfl rfl rfl rfl (Nat.le_of_ble_eq_true rfl) rfl rfl ?_)
  refine TL.cons (TL.store 1 (ds:=[VI 65536]) (cs':=[VI 65536]) (L':=(Blk b4 [VI 0] 33::Blk b3 [VI 65536] 3::Blk b2 [.slice none 0 0] 32::Mk []::L)) rfl fsz3 rfl rfl rfl rfl rfl (Nat.le_of_ble_eq_true rfl) rfl rfl ?_)
  refine TL.cons (TL.store 0 (ds:=[VI 5]) (cs':=[VI 5]) (L':=(Blk b4 [VI 5] 33::Blk b3 [VI 65536] 3::Blk b2 [.slice none 0 0] 32::Mk []::L)) rfl fsz33 rfl rfl rfl rfl rfl (Nat.le_of_ble_eq_true rfl) rfl rfl ?_)
  refine TL.nil ?_
  refine TQ.then_ ?_
  refine TC.ret ?_
  refine TQ.thenR ?_
  refine TQ.finL (ds:=List.map mark []) (.inl rfl) rfl (fun a_ hx7=>?_)
  refine Lv.marks (L':=(Blk b4 [VI 5] 33::Blk b3 [VI 65536] 3::Blk b2 [.slice none 0 0] 32::Emp::L)) 3 rfl rfl ?_
  refine Lv.nilRow k41 41 ?_
  obtain rfl:=Option.some.inj h
  exact Lv.nil hx7 Try.results17 (.cell 3 rfl rfl agg32 rfl (.cell 2 rfl rfl agg3 rfl (.cell 1 rfl rfl agg33 rfl .nil))) rfl (FRel.mk (Ls:=[Row k41 41 (.slice none 0 0) ([]:List S41)]) [0] 5 (Gd.le.refl _) rfl rfl rfl ⟨rfl,none,0,rfl,rfl⟩)
 ·
  refine TC.skip ?_
  refine TQ.then_ ?_
  refine TC.seq ?_
  refine TC.region ?_
  refine TL.cons (TL.alloc (cs:=[.slice none 0 0]) rfl rfl zr32 rfl (fun b9=>?_))
  refine TL.nil ?_
  refine TQ.then_ ?_
  refine TC.seq ?_
  refine TC.seq ?_
  refine TC.region ?_
  refine TV rfl rfl rfl (Val.move rfl) ?_
  refine TL.cons (TO.inl (args:=[.string a0]) (e':=[(0,.string a0)]) 4 rfl rfl hbd28 rfl rfl Try.func28 rfl Try.ntmps28 rfl rfl (Nat.le_of_ble_eq_true rfl) (fun a10 hf11=>?_))
  refine TC.seq ?_
  refine TC.region ?_
  refine TL.cons (TL.box (cs:=[.string a0]) rfl rfl rfl rfl (fun b13=>?_))
  refine TV rfl rfl rfl (Val.assign rfl) ?_
  refine TL.nil ?_
  refine TQ.then_ ?_
  refine TC.seq ?_
  refine TC.region ?_
  refine TV rfl rfl rfl (Val.makeFunc (xs:=[]) (ys:=[VP b13 0]) rfl rfl) ?_
  refine TV rfl rfl rfl (Val.assign rfl) ?_
  refine TL.nil ?_
  refine TQ.then_ ?_
  refine TC.ret ?_
  refine TQ.fin (v:=.func (.func 40) #[] #[VP b13 0]) (.inl rfl) rfl Try.results28 (.tmp rfl .nil) rfl (After.mk hf11 rfl ?_)
  refine TL.nil ?_
  refine TQ.then_ ?_
  obtain ⟨j216,hj216,h⟩:=jn_no h
  refine TC.tail (fun a W=>∃ (l211:(List S41)) (A212:Option Addr) (c213:Nat) (ds215:List Nat),j216 l211=some r∧Fr (⟨25,List.map mark ds215⟩:Nd) a [(0,.string a0),(2,VP b2 0),(3,VP b3 0),(4,VP b4 0),(5,VP b9 0)]∧Own G (Blk b2 [.slice none 0 0] 32::Blk b3 [VI 0] 3::Blk b4 [VI 0] 33::Blk b9 [.slice A212 l211.length c213] 32::Mk ds215::Row k41 41 (.slice A212 l211.length c213) l211::L) W) ?_ ?_
  ·
   rintro a W ⟨l211,A212,c213,ds215,h,hF,hO⟩
   rw [hj216] at h
   refine TQ.use ?_ hF hO
   clear hF hO
   refine TQ.then_ ?_
   refine TC.seq ?_
   refine TC.region ?_
   refine TV rfl rfl rfl (Val.loadB 3 agg32 rfl rfl rfl) ?_
   refine TV rfl rfl rfl (Val.move rfl) ?_
   refine TV rfl rfl rfl (Val.lenS Try.underlying9 rfl) ?_
   refine TL.cons (TL.store 0 (ds:=[.slice A212 l211.length c213]) (cs':=[.slice A212 l211.length c213]) (L':=(Blk b2 [.slice A212 l211.length c213] 32::Blk b3 [VI 0] 3::Blk b4 [VI 0] 33::Blk b9 [.slice A212 l211.length c213] 32::Mk ds215::Row k41 41 (.slice A212 l211.length c213) l211::L)) rfl fsz32 rfl rfl rfl rfl rfl (Nat.le_of_ble_eq_true rfl) rfl rfl ?_)
   refine TL.cons (TL.store 1 (ds:=[VI (a0.size:Int)]) (cs':=[VI (a0.size:Int)]) (L':=(Blk b2 [.slice A212 l211.length c213] 32::Blk b3 [VI (a0.size:Int)] 3::Blk b4 [VI 0] 33::Blk b9 [.slice A212 l211.length c213] 32::Mk ds215::Row k41 41 (.slice A212 l211.length c213) l211::L)) rfl fsz3 rfl rfl rfl rfl rfl (Nat.le_of_ble_eq_true rfl) rfl rfl ?_)
   refine TL.cons (TL.store 2 (ds:=[VI 0]) (cs':=[VI 0]) (L':=(Blk b2 [.slice A212 l211.length c213] 32::Blk b3 [VI (a0.size:Int)] 3::Blk b4 [VI 0] 33::Blk b9 [.slice A212 l211.length c213] 32::Mk ds215::Row k41 41 (.slice A212 l211.length c213) l211::L)) rfl fsz33 rfl rfl rfl rfl rfl (Nat.le_of_ble_eq_true rfl) rfl rfl ?_)
   refine TL.nil ?_
   refine TQ.then_ ?_
   refine TC.ret ?_
   refine TQ.finL (ds:=List.map mark ds215) (.inl rfl) rfl (fun a_ hx217=>?_)
   refine Lv.marks (L':=(Blk b2 [.slice A212 l211.length c213] 32::Blk b3 [VI (a0.size:Int)] 3::Blk b4 [VI 0] 33::Blk b9 [.slice A212 l211.length c213] 32::Emp::Row k41 41 (.slice A212 l211.length c213) l211::L)) 4 rfl rfl ?_
   obtain rfl:=Option.some.inj h
   exact Lv.nil hx217 Try.results17 (.cell 0 rfl rfl agg32 rfl (.cell 1 rfl rfl agg3 rfl (.cell 2 rfl rfl agg33 rfl .nil))) rfl (FRel.mk (Ls:=[Row k41 41 (.slice A212 l211.length c213) l211]) [5] 6 (Gd.le.refl _) rfl rfl rfl ⟨rfl,A212,c213,rfl,rfl⟩)
  ·
   refine TC.block ?_
   refine TC.rangeFunc (e1:=fun l_=>[(0,.func (.yield l_) #[] #[]),(1,VP b13 0)]) 35 rfl hbd40 Try.func40 rfl Try.ntmps40 rfl (fun _=>rfl) (Nat.le_of_ble_eq_true rfl) (fun a221 R218 o219 o220 hp222 ha223 hb224 hf225 hf226=>?_)
   refine TC.sel (Ls:=[Ob o220 (.deferred (some [])),Mk [],Ob o219 (LoopO R218 .ready none),Blk b13 [.string a0] 9,Blk b9 [.slice none 0 0] 32,Blk b4 [VI 0] 33,Blk b3 [VI 0] 3,Blk b2 [.slice none 0 0] 32]) [1,7,0,2,3,4,5,6] 8 rfl rfl rfl ?_
   refine TC.two (ch:=Mk (o220::[])) Mk.cons ?_
   refine TC.seq ?_
   refine TC.region ?_
   refine TV rfl rfl rfl (Val.loadB 2 agg9 rfl rfl rfl) ?_
   obtain ⟨y227,hy228,h⟩:=bind_no h
   refine TL.cons (TL.callV (Lin:=[]) (args:=[.string a0,VI 0]) rfl rfl rfl hbd41 rfl rfl (token_skip.calls (a0:=a0) (a1:=0) hy228) rfl ?_)
   rintro _ _ _ _ ⟨rfl,rfl,rfl⟩
   refine TV rfl rfl rfl (Val.assign rfl) ?_
   refine TL.nil ?_
   refine TQ.then_ ?_
   obtain ⟨o517,ho517,ko517⟩:=bind_no h
   clear h
   refine TC.tail (fun a W=>∃ (l513:(List S41)) (A514:Option Addr) (c515:Nat),(.inr l513)=o517∧Fr 35 a []∧Own G (Blk b13 [.string a0] 9::Blk b2 [.slice none 0 0] 32::Blk b3 [VI 0] 3::Blk b4 [VI 0] 33::Blk b9 [.slice A514 l513.length c515] 32::Mk (o220::[])::Ob o219 (LoopO R218 .ready none)::Row k41 41 (.slice A514 l513.length c515) l513::L) W) ?_ ?_
   ·
    rintro a W ⟨l513,A514,c515,rfl,hF,hO⟩
    have h:=ko517
    clear ko517 ho517
    refine TQ.use ?_ hF hO
    clear hF hO
    refine TQ.fin (v:=.tuple #[]) (.inr rfl) rfl Try.results40 .nil rfl (RangeP.normal (L':=(Blk b13 [.string a0] 9::Blk b2 [.slice none 0 0] 32::Blk b3 [VI 0] 3::Blk b4 [VI 0] 33::Blk b9 [.slice A514 l513.length c515] 32::Mk (o220::[])::Emp::Row k41 41 (.slice A514 l513.length c515) l513::L)) 6 hf226 rfl rfl rfl ?_)
    refine TQ.inB ?_
    exact fun a W hF hO=>⟨l513,A514,c515,(o220::[]),h,hF.sub ⟨rfl,rfl,rfl,rfl,rfl,trivial⟩,hO.selT (Ls:=[Blk b2 [.slice none 0 0] 32,Blk b3 [VI 0] 3,Blk b4 [VI 0] 33,Blk b9 [.slice A514 l513.length c515] 32,Mk (o220::[]),Row k41 41 (.slice A514 l513.length c515) l513]) [1,2,3,4,5,7] 8 rfl rfl rfl⟩
   ·
    refine TC.block ?_
    intro a W hF hO
    have hS:∃ (x419:Int) (l420:(List S41)) (A421:Option Addr) (c422:Nat),token_Lex.l0 a0 j216 (a0.size + 1) x419 l420=some o517∧Fr 35 a [(0,.func (.yield o219) #[] #[]),(1,VP b13 0),(3,VI x419)]∧Own G (Blk b13 [.string a0] 9::Blk b2 [.slice none 0 0] 32::Blk b3 [VI 0] 3::Blk b4 [VI 0] 33::Blk b9 [.slice A421 l420.length c422] 32::Mk (o220::[])::Ob o219 (LoopO R218 .ready none)::Row k41 41 (.slice A421 l420.length c422) l420::L) W:=by
     exact ⟨y227,[],none,0,ho517,hF.sub ⟨rfl,rfl,rfl,trivial⟩,(Own.nilRow k41 41 hO).selT (Ls:=[Blk b13 [.string a0] 9,Blk b2 [.slice none 0 0] 32,Blk b3 [VI 0] 3,Blk b4 [VI 0] 33,Blk b9 [.slice none ([]:List S41).length 0] 32,Mk (o220::[]),Ob o219 (LoopO R218 .ready none),Row k41 41 (.slice none ([]:List S41).length 0) ([]:List S41)]) [3,7,6,5,4,1,2,0] 8 rfl rfl rfl⟩
    clear hF hO ho517
    refine TC.loop (fun n518 a W=>∃ (x419:Int) (l420:(List S41)) (A421:Option Addr) (c422:Nat),token_Lex.l0 a0 j216 n518 x419 l420=some o517∧Fr 35 a [(0,.func (.yield o219) #[] #[]),(1,VP b13 0),(3,VI x419)]∧Own G (Blk b13 [.string a0] 9::Blk b2 [.slice none 0 0] 32::Blk b3 [VI 0] 3::Blk b4 [VI 0] 33::Blk b9 [.slice A421 l420.length c422] 32::Mk (o220::[])::Ob o219 (LoopO R218 .ready none)::Row k41 41 (.slice A421 l420.length c422) l420::L) W) ?_ ?_ hS
    ·
     rintro a W ⟨x419,l420,A421,c422,h,hF,hO⟩
     exact none_no h
    ·
     clear hS
     rintro n518 a W ⟨x419,l420,A421,c422,h,hF,hO⟩
     rw [token_Lex.l0] at h
     refine TC.use ?_ hF hO
     clear hF hO
     refine TC.seq ?_
     refine TC.seq ?_
     refine TC.region ?_
     refine TV rfl rfl rfl (Val.move rfl) ?_
     refine TV rfl rfl rfl (Val.loadB 0 agg9 rfl rfl rfl) ?_
     refine TV rfl rfl rfl (Val.lenS Try.underlying9 rfl) ?_
     refine TV rfl rfl rfl (Val.cmp rfl rfl run_lss) ?_
     refine TL.nil ?_
     refine TQ.then_ ?_
     refine TC.cond_p rfl h (fun hc607 h=>?_) (fun hc607 h=>?_)
     ·
      refine TC.skip ?_
      refine TQ.then_ ?_
      refine TC.block ?_
      refine TC.seq ?_
      refine TC.region ?_
      refine TV rfl rfl rfl (Val.loadB 0 agg9 rfl rfl rfl) ?_
      refine TV rfl rfl rfl (Val.move rfl) ?_
      obtain ⟨y654,hy655,h⟩:=bind_no h
      refine TL.cons (TL.callV (Lin:=[]) (args:=[.string a0,VI x419]) rfl rfl rfl hbd42 rfl rfl (token_cut.calls (a0:=a0) (a1:=x419) hy655) rfl ?_)
      rintro _ _ _ _ ⟨rfl,rfl,rfl⟩
      refine TV rfl rfl rfl (Val.move rfl) ?_
      refine TV rfl rfl rfl (Val.extract rfl rfl) ?_
      refine TV rfl rfl rfl (Val.extract rfl rfl) ?_
      refine TV rfl rfl rfl (Val.assign rfl) ?_
      refine TV rfl rfl rfl (Val.assign rfl) ?_
      refine TL.nil ?_
      refine TQ.then_ ?_
      refine TC.seq ?_
      refine TC.seq ?_
      refine TC.region ?_
      refine TV rfl rfl rfl (Val.move rfl) ?_
      refine TV rfl rfl rfl (Val.move rfl) ?_
      refine TV rfl rfl rfl (Val.loadB 0 agg9 rfl rfl rfl) ?_
      refine TV rfl rfl rfl (Val.move rfl) ?_
      refine TV rfl rfl rfl (Val.move rfl) ?_
      obtain ⟨y680,hy681,h⟩:=bind_no h
      refine TV rfl rfl rfl (Val.cutS Try.underlying9 rfl rfl rfl hy681) ?_
      refine TV rfl rfl rfl (Val.move rfl) ?_
      refine TV rfl rfl rfl (Val.build (cs:=[VI y654.2,.string y680,VI x419]) (is:=[0,1,2]) (xs:=[.tmp 19,.tmp 23,.tmp 24]) Try.underlying41 zr41 bld41 rfl rfl rfl rfl) ?_
      refine TL.cons (TO.yield 6 rfl rfl rfl rfl hp222 ha223 hb224 rfl hf225 rfl rfl (fun a682 hf683=>?_))
      refine TC.region ?_
      refine TL.cons (TL.alloc (cs:=[VI 0,.string (⟨#[]⟩:ByteArray),VI 0]) rfl rfl zr41 rfl (fun b684=>?_))
      refine TL.cons (TL.store 0 (ds:=[VI y654.2,.string y680,VI x419]) (cs':=[VI y654.2,.string y680,VI x419]) (L':=(Blk b684 [VI y654.2,.string y680,VI x419] 41::Blk b13 [.string a0] 9::Blk b2 [.slice none 0 0] 32::Blk b3 [VI 0] 3::Blk b4 [VI 0] 33::Blk b9 [.slice A421 l420.length c422] 32::Mk (o220::[])::Ob o219 (LoopO R218 .ready none)::Row k41 41 (.slice A421 l420.length c422) l420::L)) rfl fsz41 rfl rfl rfl rfl rfl (Nat.le_of_ble_eq_true rfl) rfl rfl ?_)
      refine TL.nil ?_
      refine TQ.begin (L':=(Blk b684 [VI y654.2,.string y680,VI x419] 41::Blk b13 [.string a0] 9::Blk b2 [.slice none 0 0] 32::Blk b3 [VI 0] 3::Blk b4 [VI 0] 33::Blk b9 [.slice A421 l420.length c422] 32::Mk (o220::[])::Ob o219 (LoopO R218 .busy none)::Row k41 41 (.slice A421 l420.length c422) l420::L)) 7 rfl rfl ?_
      refine TC.block ?_
      refine TC.seq ?_
      refine TC.seq ?_
      refine TC.region ?_
      refine TV rfl rfl rfl (Val.fieldAddrB Try.underlying41 rfl fsz3 rfl rfl rfl) ?_
      refine TV rfl rfl rfl (Val.loadB 0 agg3 rfl rfl rfl) ?_
      refine TV rfl rfl rfl (Val.cmp rfl rfl run_eql) ?_
      refine TL.nil ?_
      refine TQ.then_ ?_
      refine TC.cond_p rfl h (fun hc692 h=>?_) (fun hc692 h=>?_)
      ·
       refine TC.seq ?_
       refine TC.regionAnyS (L0:=(Blk b684 [VI y654.2,.string y680,VI x419] 41::Blk b13 [.string a0] 9::Blk b9 [.slice A421 l420.length c422] 32::Mk (o220::[])::Ob o219 (LoopO R218 .busy none)::Row k41 41 (.slice A421 l420.length c422) l420::L)) [] [0,1] mixed (by kernel_rfl) ?_
       refine TA.take 0 rfl (by kernel_rfl) rfl (PQ.then_ (PQ.then_ (PQ.inB PQ.round))) rfl (Val.fieldAddrB Try.underlying41 rfl fsz3 rfl rfl rfl) (fun W hO=>hO.selT (Ls:=[Blk b684 [VI y654.2,.string y680,VI x419] 41,Blk b13 [.string a0] 9,Blk b9 [.slice A421 l420.length c422] 32,Mk (o220::[]),Ob o219 (LoopO R218 .busy none),Row k41 41 (.slice A421 l420.length c422) l420]) [0,1,5,6,7,8] 9 rfl rfl rfl) ?_
       refine TA.take 1 rfl (by kernel_rfl) rfl (PQ.then_ (PQ.then_ (PQ.inB PQ.round))) rfl (Val.loadB 0 agg3 rfl rfl rfl) (fun W hO=>hO.selT (Ls:=[Blk b684 [VI y654.2,.string y680,VI x419] 41,Blk b13 [.string a0] 9,Blk b9 [.slice A421 l420.length c422] 32,Mk (o220::[]),Ob o219 (LoopO R218 .busy none),Row k41 41 (.slice A421 l420.length c422) l420]) [0,1,5,6,7,8] 9 rfl rfl rfl) ?_
       refine TA.eff 2 rfl (by kernel_rfl) rfl (TL.store 2 (ds:=[.slice none 0 0]) (cs':=[.slice none 0 0]) (L':=(Blk b684 [VI y654.2,.string y680,VI x419] 41::Blk b13 [.string a0] 9::Blk b2 [.slice none 0 0] 32::Blk b3 [VI 0] 3::Blk b4 [VI 0] 33::Blk b9 [.slice A421 l420.length c422] 32::Mk (o220::[])::Ob o219 (LoopO R218 .busy none)::Row k41 41 (.slice A421 l420.length c422) l420::L)) rfl fsz32 rfl rfl rfl rfl rfl (Nat.le_of_ble_eq_true rfl) rfl rfl ?_)
       refine TA.next (fun W hO=>hO.selT (Ls:=[Blk b684 [VI y654.2,.string y680,VI x419] 41,Blk b13 [.string a0] 9,Blk b9 [.slice A421 l420.length c422] 32,Mk (o220::[]),Ob o219 (LoopO R218 .busy none),Row k41 41 (.slice A421 l420.length c422) l420]) [0,1,5,6,7,8] 9 rfl rfl rfl) ?_
       refine TA.eff 3 rfl (by kernel_rfl) rfl (TL.store 3 (ds:=[VI x419]) (cs':=[VI x419]) (L':=(Blk b684 [VI y654.2,.string y680,VI x419] 41::Blk b13 [.string a0] 9::Blk b2 [.slice none 0 0] 32::Blk b3 [VI x419] 3::Blk b4 [VI 0] 33::Blk b9 [.slice A421 l420.length c422] 32::Mk (o220::[])::Ob o219 (LoopO R218 .busy none)::Row k41 41 (.slice A421 l420.length c422) l420::L)) rfl fsz3 rfl rfl rfl rfl rfl (Nat.le_of_ble_eq_true rfl) rfl rfl ?_)
       refine TA.next (fun W hO=>hO.selT (Ls:=[Blk b684 [VI y654.2,.string y680,VI x419] 41,Blk b13 [.string a0] 9,Blk b9 [.slice A421 l420.length c422] 32,Mk (o220::[]),Ob o219 (LoopO R218 .busy none),Row k41 41 (.slice A421 l420.length c422) l420]) [0,1,5,6,7,8] 9 rfl rfl rfl) ?_
       refine TA.eff 4 rfl (by kernel_rfl) rfl (TL.store 4 (ds:=[VI 2]) (cs':=[VI 2]) (L':=(Blk b684 [VI y654.2,.string y680,VI x419] 41::Blk b13 [.string a0] 9::Blk b2 [.slice none 0 0] 32::Blk b3 [VI x419] 3::Blk b4 [VI 2] 33::Blk b9 [.slice A421 l420.length c422] 32::Mk (o220::[])::Ob o219 (LoopO R218 .busy none)::Row k41 41 (.slice A421 l420.length c422) l420::L)) rfl fsz33 rfl rfl rfl rfl rfl (Nat.le_of_ble_eq_true rfl) rfl rfl ?_)
       refine TA.next (fun W hO=>hO.selT (Ls:=[Blk b684 [VI y654.2,.string y680,VI x419] 41,Blk b13 [.string a0] 9,Blk b9 [.slice A421 l420.length c422] 32,Mk (o220::[]),Ob o219 (LoopO R218 .busy none),Row k41 41 (.slice A421 l420.length c422) l420]) [0,1,5,6,7,8] 9 rfl rfl rfl) ?_
       refine TA.done (by kernel_rfl) ?_
       refine TQ.then_ ?_
       refine TC.ret ?_
       refine TQ.thenR ?_
       refine TQ.inBR ?_
       refine TQ.roundR (L':=(Blk b684 [VI y654.2,.string y680,VI x419] 41::Blk b13 [.string a0] 9::Blk b2 [.slice none 0 0] 32::Blk b3 [VI x419] 3::Blk b4 [VI 2] 33::Blk b9 [.slice A421 l420.length c422] 32::Mk (o220::[])::Ob o219 (LoopO R218 .done (some .ret))::Row k41 41 (.slice A421 l420.length c422) l420::L)) 7 rfl rfl (After.mk hf683 rfl ?_)
       refine TV rfl rfl rfl (Val.not_ rfl) ?_
       refine TV rfl rfl rfl (Val.move rfl) ?_
       refine TL.cons (TL.not (Wt.no rfl rfl rfl rfl) rfl ?_)
       refine TL.cons (TL.not (Wt.no rfl rfl rfl rfl) rfl ?_)
       refine TV rfl rfl rfl (Val.pickY rfl rfl rfl) ?_
       refine TL.nil ?_
       refine TQ.then_ ?_
       refine TC.condT rfl ?_
       refine TC.ret ?_
       refine TQ.thenR ?_
       refine TQ.inBR ?_
       refine TQ.thenR ?_
       refine TQ.inBR ?_
       refine TQ.thenR ?_
       refine TQ.fin (v:=.tuple #[]) (.inl rfl) rfl Try.results40 .nil rfl (RangeP.ret (L':=(Blk b684 [VI y654.2,.string y680,VI x419] 41::Blk b13 [.string a0] 9::Blk b2 [.slice none 0 0] 32::Blk b3 [VI x419] 3::Blk b4 [VI 2] 33::Blk b9 [.slice A421 l420.length c422] 32::Mk (o220::[])::Emp::Row k41 41 (.slice A421 l420.length c422) l420::L)) 7 hf226 rfl rfl rfl ?_)
       refine TQ.inBR ?_
       refine TQ.thenR ?_
       refine TQ.thenR ?_
       refine TQ.finL (ds:=List.map mark (o220::[])) (.inl rfl) rfl (fun a_ hx693=>?_)
       refine Lv.marks (L':=(Blk b684 [VI y654.2,.string y680,VI x419] 41::Blk b13 [.string a0] 9::Blk b2 [.slice none 0 0] 32::Blk b3 [VI x419] 3::Blk b4 [VI 2] 33::Blk b9 [.slice A421 l420.length c422] 32::Emp::Emp::Row k41 41 (.slice A421 l420.length c422) l420::L)) 6 rfl rfl ?_
       refine Lv.nilRow k41 41 ?_
       obtain rfl:=Option.some.inj h
       have h:=ko517
       obtain rfl:=Option.some.inj h
       exact Lv.nil hx693 Try.results17 (.cell 3 rfl rfl agg32 rfl (.cell 4 rfl rfl agg3 rfl (.cell 5 rfl rfl agg33 rfl .nil))) rfl (FRel.mk (Ls:=[Row k41 41 (.slice none 0 0) ([]:List S41)]) [0] 10 (Gd.le.refl _) rfl rfl rfl ⟨rfl,none,0,rfl,rfl⟩)
      ·
       refine TC.skip ?_
       refine TQ.then_ ?_
       refine TC.region ?_
       refine TV rfl rfl rfl (Val.loadB 5 agg32 rfl rfl rfl) ?_
       refine TV rfl rfl rfl (Val.loadsB 0 (cs:=[VI y654.2,.string y680,VI x419]) agg41 fsz41 rfl rfl rfl rfl) ?_
       refine TL.cons (TL.buildSlice (xs:=[.tmp 19]) (vs:=[.agg #[VI y654.2,.string y680,VI x419]]) (cs:=[VI y654.2,.string y680,VI x419]) rfl rfl Try.underlying32 zs41 rfl rfl rfl rfl rfl rfl rfl rfl (fun b695=>?_))
       refine TK.new (El.of (k:=k41) (xv:=(⟨y654.2,y680,x419⟩:S41)) (cs:=[VI y654.2,.string y680,VI x419]) (fun W B=>k41_mkM W B _ _)) ?_
       refine TK.sel (Ls:=[Row k41 41 (.slice A421 l420.length c422) l420,El k41 (⟨y654.2,y680,x419⟩:S41) [VI y654.2,.string y680,VI x419],Blk b695 [VI y654.2,.string y680,VI x419] 41,Blk b684 [VI y654.2,.string y680,VI x419] 41,Blk b13 [.string a0] 9,Blk b2 [.slice none 0 0] 32,Blk b3 [VI 0] 3,Blk b4 [VI 0] 33,Blk b9 [.slice A421 l420.length c422] 32,Mk (o220::[]),Ob o219 (LoopO R218 .busy none)]) [10,0,1,2,3,4,5,6,7,8,9] 11 rfl rfl rfl ?_
       obtain ⟨ha696,h⟩:=ite_no h
       refine TL.cons (TL.append (xs:=l420) k41 rfl rfl Try.underlying32 inf41 rfl (Nat.le_of_ble_eq_true rfl) (Nat.le_of_ble_eq_true rfl) rfl rfl (by omega) (fun A697 c698=>?_))
       refine TL.cons (TL.store 6 (ds:=[.slice A697 (l420 ++ [(⟨y654.2,y680,x419⟩:S41)]).length c698]) (cs':=[.slice A697 (l420 ++ [(⟨y654.2,y680,x419⟩:S41)]).length c698]) (L':=(Row k41 41 (.slice A697 (l420 ++ [(⟨y654.2,y680,x419⟩:S41)]).length c698) (l420 ++ [(⟨y654.2,y680,x419⟩:S41)])::Blk b684 [VI y654.2,.string y680,VI x419] 41::Blk b13 [.string a0] 9::Blk b2 [.slice none 0 0] 32::Blk b3 [VI 0] 3::Blk b4 [VI 0] 33::Blk b9 [.slice A697 (l420 ++ [(⟨y654.2,y680,x419⟩:S41)]).length c698] 32::Mk (o220::[])::Ob o219 (LoopO R218 .busy none)::L)) rfl fsz32 rfl rfl rfl rfl rfl (Nat.le_of_ble_eq_true rfl) rfl rfl ?_)
       refine TL.nil ?_
       refine TQ.inB ?_
       refine TQ.roundN (L':=(Row k41 41 (.slice A697 (l420 ++ [(⟨y654.2,y680,x419⟩:S41)]).length c698) (l420 ++ [(⟨y654.2,y680,x419⟩:S41)])::Blk b684 [VI y654.2,.string y680,VI x419] 41::Blk b13 [.string a0] 9::Blk b2 [.slice none 0 0] 32::Blk b3 [VI 0] 3::Blk b4 [VI 0] 33::Blk b9 [.slice A697 (l420 ++ [(⟨y654.2,y680,x419⟩:S41)]).length c698] 32::Mk (o220::[])::Ob o219 (LoopO R218 .ready none)::L)) 8 rfl rfl (After.mk hf683 rfl ?_)
       refine TV rfl rfl rfl (Val.not_ rfl) ?_
       refine TV rfl rfl rfl (Val.move rfl) ?_
       refine TV (Wt.yes rfl rfl rfl rfl) rfl rfl (Val.move rfl) ?_
       refine TV (Wt.yes rfl rfl rfl rfl) rfl rfl (Val.cmp rfl rfl run_eql) ?_
       refine TV rfl rfl rfl (Val.pickN rfl rfl rfl) ?_
       refine TL.nil ?_
       refine TQ.then_ ?_
       refine TC.cond_p rfl h (fun hc700 h=>?_) (fun hc700 h=>?_)
       ·
        refine TC.ret ?_
        refine TQ.thenR ?_
        refine TQ.inBR ?_
        refine TQ.thenR ?_
        refine TQ.inBR ?_
        refine TQ.thenR ?_
        refine TQ.fin (v:=.tuple #[]) (.inl rfl) rfl Try.results40 .nil rfl (RangeP.normal (L':=(Row k41 41 (.slice A697 (l420 ++ [(⟨y654.2,y680,x419⟩:S41)]).length c698) (l420 ++ [(⟨y654.2,y680,x419⟩:S41)])::Blk b684 [VI y654.2,.string y680,VI x419] 41::Blk b13 [.string a0] 9::Blk b2 [.slice none 0 0] 32::Blk b3 [VI 0] 3::Blk b4 [VI 0] 33::Blk b9 [.slice A697 (l420 ++ [(⟨y654.2,y680,x419⟩:S41)]).length c698] 32::Mk (o220::[])::Emp::L)) 8 hf226 rfl rfl rfl ?_)
        refine TQ.inB ?_
        obtain ⟨q_,hq_,h⟩:=bind_no h
        obtain rfl:=Option.some.inj h
        have h:=ko517
        obtain rfl:=Option.some.inj h
        have h:=hq_
        clear hq_
        exact fun a W hF hO=>⟨(l420 ++ [(⟨y654.2,y680,x419⟩:S41)]),A697,c698,(o220::[]),h,hF.sub ⟨rfl,rfl,rfl,rfl,rfl,trivial⟩,hO.selT (Ls:=[Blk b2 [.slice none 0 0] 32,Blk b3 [VI 0] 3,Blk b4 [VI 0] 33,Blk b9 [.slice A697 (l420 ++ [(⟨y654.2,y680,x419⟩:S41)]).length c698] 32,Mk (o220::[]),Row k41 41 (.slice A697 (l420 ++ [(⟨y654.2,y680,x419⟩:S41)]).length c698) (l420 ++ [(⟨y654.2,y680,x419⟩:S41)])]) [3,4,5,6,7,0] 9 rfl rfl rfl⟩
       ·
        refine TC.skip ?_
        refine TQ.then_ ?_
        refine TC.region ?_
        refine TV rfl rfl rfl (Val.loadB 2 agg9 rfl rfl rfl) ?_
        refine TV rfl rfl rfl (Val.move rfl) ?_
        obtain ⟨y701,hy702,h⟩:=bind_no h
        refine TL.cons (TL.callV (Lin:=[]) (args:=[.string a0,VI y654.1]) rfl rfl rfl hbd41 rfl rfl (token_skip.calls (a0:=a0) (a1:=y654.1) hy702) rfl ?_)
        rintro _ _ _ _ ⟨rfl,rfl,rfl⟩
        refine TV rfl rfl rfl (Val.assign rfl) ?_
        refine TL.nil ?_
        refine TQ.inB ?_
        exact fun a W hF hO=>⟨y701,(l420 ++ [(⟨y654.2,y680,x419⟩:S41)]),A697,c698,h,hF.sub ⟨rfl,rfl,rfl,trivial⟩,hO.selT (Ls:=[Blk b13 [.string a0] 9,Blk b2 [.slice none 0 0] 32,Blk b3 [VI 0] 3,Blk b4 [VI 0] 33,Blk b9 [.slice A697 (l420 ++ [(⟨y654.2,y680,x419⟩:S41)]).length c698] 32,Mk (o220::[]),Ob o219 (LoopO R218 .ready none),Row k41 41 (.slice A697 (l420 ++ [(⟨y654.2,y680,x419⟩:S41)]).length c698) (l420 ++ [(⟨y654.2,y680,x419⟩:S41)])]) [2,3,4,5,6,7,8,0] 9 rfl rfl rfl⟩
     ·
      refine TC.exit ?_
      refine TQ.thenX ?_
      refine TQ.thenX ?_
      refine TQ.inBX ?_
      exact fun a W hF hO=>⟨l420,A421,c422,Option.some.inj h,hF.sub trivial,hO.selT (Ls:=[Blk b13 [.string a0] 9,Blk b2 [.slice none 0 0] 32,Blk b3 [VI 0] 3,Blk b4 [VI 0] 33,Blk b9 [.slice A421 l420.length c422] 32,Mk (o220::[]),Ob o219 (LoopO R218 .ready none),Row k41 41 (.slice A421 l420.length c422) l420]) [0,1,2,3,4,5,6,7] 8 rfl rfl rfl⟩
def swagelaw10_small.f:Option Bool:=(token_Lex.f (⟨#[102,117,110,99,32,102,40,97,32,105,110,116,41,32,123,32,112,114,105,110,116,32,49,32,43,32,50,32,42,32,97,59,32,125]⟩:ByteArray)).bind fun (y1:((List S41) × Int × Int))=>(parse_Parse.f y1.1).bind fun (y12:(S24 × Int × Int))=>(parse_Parse.f ([(⟨1,(⟨#[102,117,110,99]⟩:ByteArray),0⟩:S41),(⟨1,(⟨#[105,102]⟩:ByteArray),0⟩:S41)]:List S41)).bind fun (y26:(S24 × Int × Int))=>(if y1.2.2=0 then (if y12.2.2=0 then (if y12.2.1=(y1.1.length:Int) then (parse_Text.f y12.1).bind fun (y87:ByteArray)=>(if (y87.data.toList == (⟨#[102,117,110,99,32,102,32,40,32,97,32,105,110,116,32,41,32,123,32,112,114,105,110,116,32,40,32,49,32,43,32,40,32,50,32,42,32,97,32,41,32,41,32,59,32,125,10]⟩:ByteArray).data.toList)=true then (parse_Size.f y12.1).bind fun (y91:Int)=>(if y91=12 then (if y26.2.1=1 then (if y26.2.2=2 then (parse_Word.f (⟨#[114,101,97,100]⟩:ByteArray)).bind fun (y99:Bool)=>(if y99=true then (parse_Word.f (⟨#[102]⟩:ByteArray)).bind fun (y103:Bool)=>(if (!y103)=true then (parse_Same.f y12.1 y12.1).bind fun (y107:Bool)=>some y107 else some false) else some false) else some false) else some false) else some false) else some false) else some false) else some false) else some false)
def swagelaw10_small.post (G:Gd)  (r:Bool) (v:Value) (G':Gd) (Lr:List Ch):Prop:=G=G'∧v=.bool r∧Lr=[]
theorem swagelaw10_small.calls {G:Gd} {r:Bool} (h:swagelaw10_small.f=some r):Fn Try.prog 7 G [] [] (swagelaw10_small.post G  r):=by
 refine Fn.intro (e:=[]) 71 Try.func7 rfl Try.ntmps7 rfl rfl (Nat.le_of_ble_eq_true rfl) (fun L=>?_)
 unfold swagelaw10_small.f at h
 refine TC.seq ?_
 refine TC.region ?_
 refine TV rfl rfl rfl (Val.assign rfl) ?_
 refine TL.nil ?_
 refine TQ.then_ ?_
 refine TC.seq ?_
 refine TC.region ?_
 obtain ⟨y1,hy2,h⟩:=bind_no h
 refine TL.cons (TL.callV (Lin:=[]) (args:=[.string (⟨#[102,117,110,99,32,102,40,97,32,105,110,116,41,32,123,32,112,114,105,110,116,32,49,32,43,32,50,32,42,32,97,59,32,125]⟩:ByteArray)]) rfl rfl rfl hbd17 rfl rfl (token_Lex.calls (a0:=(⟨#[102,117,110,99,32,102,40,97,32,105,110,116,41,32,123,32,112,114,105,110,116,32,49,32,43,32,50,32,42,32,97,59,32,125]⟩:ByteArray)) hy2) rfl ?_)
 rintro _ _ _ _ ⟨rfl,A3,c4,rfl,rfl⟩
 refine TV rfl rfl rfl (Val.move rfl) ?_
 refine TV rfl rfl rfl (Val.extract rfl rfl) ?_
 refine TV rfl rfl rfl (Val.extract rfl rfl) ?_
 refine TV rfl rfl rfl (Val.extract rfl rfl) ?_
 refine TV rfl rfl rfl (Val.assign rfl) ?_
 refine TV rfl rfl rfl (Val.assign rfl) ?_
 refine TV rfl rfl rfl (Val.assign rfl) ?_
 refine TL.nil ?_
 refine TQ.then_ ?_
 refine TC.seq ?_
 refine TC.region ?_
 refine TV rfl rfl rfl (Val.move rfl) ?_
 refine TK.share (fun G6 e7 hs8 hb9=>?_)
 have rd10:Rd G6 k41 A3 y1.1:=Rd.row hs8
 have le11:y1.1.length ≤ c4:=Row.le hs8
 obtain ⟨y12,hy13,h⟩:=bind_no h
 refine TL.cons (TL.callV (Lin:=[]) (args:=[.slice A3 y1.1.length c4]) rfl rfl rfl hbd18 rfl rfl (parse_Parse.calls (a0:=y1.1) rd10 le11 hy13) rfl ?_)
 rintro _ _ _ _ ⟨rfl,A14,c15,rfl,rfl⟩
 refine TV rfl rfl rfl (Val.move rfl) ?_
 refine TV rfl rfl rfl (Val.extract rfl rfl) ?_
 refine TV rfl rfl rfl (Val.extract rfl rfl) ?_
 refine TV rfl rfl rfl (Val.extract rfl rfl) ?_
 refine TL.cons (TL.alloc (cs:=[VI 0,.string (⟨#[]⟩:ByteArray),VI 0,.slice none 0 0]) rfl rfl zr24 rfl (fun b17=>?_))
 refine TL.cons (TL.store 0 (ds:=[VI y12.1.f0,.string y12.1.f1,VI y12.1.f2,.slice A14 y12.1.f3.length c15]) (cs':=[VI y12.1.f0,.string y12.1.f1,VI y12.1.f2,.slice A14 y12.1.f3.length c15]) (L':=(Blk b17 [VI y12.1.f0,.string y12.1.f1,VI y12.1.f2,.slice A14 y12.1.f3.length c15] 24::Row k24 24 (.slice A14 y12.1.f3.length c15) y12.1.f3::L)) rfl fsz24 rfl rfl rfl rfl rfl (Nat.le_of_ble_eq_true rfl) rfl rfl ?_)
 refine TV rfl rfl rfl (Val.assign rfl) ?_
 refine TV rfl rfl rfl (Val.assign rfl) ?_
 refine TL.nil ?_
 refine TQ.then_ ?_
 refine TC.seq ?_
 refine TC.region ?_
 refine TV rfl rfl rfl (Val.build (cs:=[VI 1,.string (⟨#[102,117,110,99]⟩:ByteArray),VI 0]) (is:=[0,1]) (xs:=[.const (VI 1),.const (.string (⟨#[102,117,110,99]⟩:ByteArray))]) Try.underlying41 zr41 bld41 rfl rfl rfl rfl) ?_
 refine TV rfl rfl rfl (Val.build (cs:=[VI 1,.string (⟨#[105,102]⟩:ByteArray),VI 0]) (is:=[0,1]) (xs:=[.const (VI 1),.const (.string (⟨#[105,102]⟩:ByteArray))]) Try.underlying41 zr41 bld41 rfl rfl rfl rfl) ?_
 refine TL.cons (TL.buildSlice (xs:=[.tmp 22,.tmp 23]) (vs:=[.agg #[VI 1,.string (⟨#[102,117,110,99]⟩:ByteArray),VI 0],.agg #[VI 1,.string (⟨#[105,102]⟩:ByteArray),VI 0]]) (cs:=[VI 1,.string (⟨#[102,117,110,99]⟩:ByteArray),VI 0,VI 1,.string (⟨#[105,102]⟩:ByteArray),VI 0]) rfl rfl Try.underlying32 zs41 rfl rfl rfl rfl rfl rfl rfl rfl (fun b18=>?_))
 refine TK.new (Els.nil k41) ?_
 refine TK.new (El.of (k:=k41) (xv:=(⟨1,(⟨#[102,117,110,99]⟩:ByteArray),0⟩:S41)) (cs:=[VI 1,.string (⟨#[102,117,110,99]⟩:ByteArray),VI 0]) (fun W B=>k41_mkM W B _ _)) ?_
 refine TK.sel (Ls:=[Els k41 [] [],El k41 (⟨1,(⟨#[102,117,110,99]⟩:ByteArray),0⟩:S41) [VI 1,.string (⟨#[102,117,110,99]⟩:ByteArray),VI 0],Blk b18 [VI 1,.string (⟨#[102,117,110,99]⟩:ByteArray),VI 0,VI 1,.string (⟨#[105,102]⟩:ByteArray),VI 0] 41,Blk b17 [VI y12.1.f0,.string y12.1.f1,VI y12.1.f2,.slice A14 y12.1.f3.length c15] 24,Row k24 24 (.slice A14 y12.1.f3.length c15) y12.1.f3]) [1,0,2,3,4] 5 rfl rfl rfl ?_
 refine TK.two (ch:=Els k41 [(⟨1,(⟨#[102,117,110,99]⟩:ByteArray),0⟩:S41)] [VI 1,.string (⟨#[102,117,110,99]⟩:ByteArray),VI 0]) (Els.snoc k41) ?_
 refine TK.new (El.of (k:=k41) (xv:=(⟨1,(⟨#[105,102]⟩:ByteArray),0⟩:S41)) (cs:=[VI 1,.string (⟨#[105,102]⟩:ByteArray),VI 0]) (fun W B=>k41_mkM W B _ _)) ?_
 refine TK.sel (Ls:=[Els k41 [(⟨1,(⟨#[102,117,110,99]⟩:ByteArray),0⟩:S41)] [VI 1,.string (⟨#[102,117,110,99]⟩:ByteArray),VI 0],El k41 (⟨1,(⟨#[105,102]⟩:ByteArray),0⟩:S41) [VI 1,.string (⟨#[105,102]⟩:ByteArray),VI 0],Blk b18 [VI 1,.string (⟨#[102,117,110,99]⟩:ByteArray),VI 0,VI 1,.string (⟨#[105,102]⟩:ByteArray),VI 0] 41,Blk b17 [VI y12.1.f0,.string y12.1.f1,VI y12.1.f2,.slice A14 y12.1.f3.length c15] 24,Row k24 24 (.slice A14 y12.1.f3.length c15) y12.1.f3]) [1,0,2,3,4] 5 rfl rfl rfl ?_
 refine TK.two (ch:=Els k41 [(⟨1,(⟨#[102,117,110,99]⟩:ByteArray),0⟩:S41),(⟨1,(⟨#[105,102]⟩:ByteArray),0⟩:S41)] [VI 1,.string (⟨#[102,117,110,99]⟩:ByteArray),VI 0,VI 1,.string (⟨#[105,102]⟩:ByteArray),VI 0]) (Els.snoc k41) ?_
 refine TK.sel (Ls:=[Blk b18 [VI 1,.string (⟨#[102,117,110,99]⟩:ByteArray),VI 0,VI 1,.string (⟨#[105,102]⟩:ByteArray),VI 0] 41,Els k41 [(⟨1,(⟨#[102,117,110,99]⟩:ByteArray),0⟩:S41),(⟨1,(⟨#[105,102]⟩:ByteArray),0⟩:S41)] [VI 1,.string (⟨#[102,117,110,99]⟩:ByteArray),VI 0,VI 1,.string (⟨#[105,102]⟩:ByteArray),VI 0],Blk b17 [VI y12.1.f0,.string y12.1.f1,VI y12.1.f2,.slice A14 y12.1.f3.length c15] 24,Row k24 24 (.slice A14 y12.1.f3.length c15) y12.1.f3]) [1,0,2,3] 4 rfl rfl rfl ?_
 refine TK.two (ch:=Row k41 41 (.slice (some ⟨b18,0,none⟩) 2 2) ([(⟨1,(⟨#[102,117,110,99]⟩:ByteArray),0⟩:S41),(⟨1,(⟨#[105,102]⟩:ByteArray),0⟩:S41)]:List S41)) (Row.lit k41 rfl rfl) ?_
 refine TK.share (fun G20 e21 hs22 hb23=>?_)
 have rd24:Rd G20 k41 (some ⟨b18,0,none⟩) ([(⟨1,(⟨#[102,117,110,99]⟩:ByteArray),0⟩:S41),(⟨1,(⟨#[105,102]⟩:ByteArray),0⟩:S41)]:List S41):=Rd.row hs22
 have le25:([(⟨1,(⟨#[102,117,110,99]⟩:ByteArray),0⟩:S41),(⟨1,(⟨#[105,102]⟩:ByteArray),0⟩:S41)]:List S41).length ≤ 2:=Row.le hs22
 obtain ⟨y26,hy27,h⟩:=bind_no h
 refine TL.cons (TL.callV (Lin:=[]) (args:=[.slice (some ⟨b18,0,none⟩) 2 2]) rfl rfl rfl hbd18 rfl rfl (parse_Parse.calls (a0:=([(⟨1,(⟨#[102,117,110,99]⟩:ByteArray),0⟩:S41),(⟨1,(⟨#[105,102]⟩:ByteArray),0⟩:S41)]:List S41)) rd24 le25 hy27) rfl ?_)
 rintro _ _ _ _ ⟨rfl,A28,c29,rfl,rfl⟩
 refine TV rfl rfl rfl (Val.move rfl) ?_
 refine TV rfl rfl rfl (Val.extract rfl rfl) ?_
 refine TV rfl rfl rfl (Val.extract rfl rfl) ?_
 refine TV rfl rfl rfl (Val.extract rfl rfl) ?_
 refine TL.cons (TL.alloc (cs:=[VI 0,.string (⟨#[]⟩:ByteArray),VI 0,.slice none 0 0]) rfl rfl zr24 rfl (fun b31=>?_))
 refine TL.cons (TL.store 0 (ds:=[VI y26.1.f0,.string y26.1.f1,VI y26.1.f2,.slice A28 y26.1.f3.length c29]) (cs':=[VI y26.1.f0,.string y26.1.f1,VI y26.1.f2,.slice A28 y26.1.f3.length c29]) (L':=(Blk b31 [VI y26.1.f0,.string y26.1.f1,VI y26.1.f2,.slice A28 y26.1.f3.length c29] 24::Row k24 24 (.slice A28 y26.1.f3.length c29) y26.1.f3::Blk b17 [VI y12.1.f0,.string y12.1.f1,VI y12.1.f2,.slice A14 y12.1.f3.length c15] 24::Row k24 24 (.slice A14 y12.1.f3.length c15) y12.1.f3::L)) rfl fsz24 rfl rfl rfl rfl rfl (Nat.le_of_ble_eq_true rfl) rfl rfl ?_)
 refine TV rfl rfl rfl (Val.assign rfl) ?_
 refine TV rfl rfl rfl (Val.assign rfl) ?_
 refine TL.nil ?_
 refine TQ.then_ ?_
 refine TC.seq ?_
 refine TC.back hb23 ?_
 refine TC.back hb9 ?_
 refine TC.region ?_
 refine TV rfl rfl rfl (Val.move rfl) ?_
 refine TV rfl rfl rfl (Val.cmp rfl rfl run_eql) ?_
 refine TV rfl rfl rfl (Val.move rfl) ?_
 refine TK.split (p:=y1.2.2=0) h (fun hg75 h=>?_) (fun hg75 h=>?_)
 ·
  have hk76:decide (y1.2.2=0)=true:=decide_eq_true hg75
  refine TV (Wt.yes rfl rfl rfl hk76) rfl rfl (Val.move rfl) ?_
  refine TV (Wt.yes rfl rfl rfl hk76) rfl rfl (Val.cmp rfl rfl run_eql) ?_
  refine TV rfl rfl rfl (Val.pickY rfl hk76 rfl) ?_
  refine TV rfl rfl rfl (Val.move rfl) ?_
  refine TK.split (p:=y12.2.2=0) h (fun hg77 h=>?_) (fun hg77 h=>?_)
  ·
   have hk78:decide (y12.2.2=0)=true:=decide_eq_true hg77
   refine TV (Wt.yes rfl rfl rfl hk78) rfl rfl (Val.move rfl) ?_
   refine TV (Wt.yes rfl rfl rfl hk78) rfl rfl (Val.move rfl) ?_
   refine TV (Wt.yes rfl rfl rfl hk78) rfl rfl (Val.len Try.underlying32 rfl) ?_
   refine TV (Wt.yes rfl rfl rfl hk78) rfl rfl (Val.cmp rfl rfl run_eql) ?_
   refine TV rfl rfl rfl (Val.pickY rfl hk78 rfl) ?_
   refine TV rfl rfl rfl (Val.move rfl) ?_
   refine TK.split (p:=y12.2.1=(y1.1.length:Int)) h (fun hg79 h=>?_) (fun hg79 h=>?_)
   ·
    have hk80:decide (y12.2.1=(y1.1.length:Int))=true:=decide_eq_true hg79
    refine TV (Wt.yes rfl rfl rfl hk80) rfl rfl (Val.loadsB 4 (cs:=[VI y12.1.f0,.string y12.1.f1,VI y12.1.f2,.slice A14 y12.1.f3.length c15]) agg24 fsz24 rfl rfl rfl rfl) ?_
    refine TK.sel (Ls:=[Row k24 24 (.slice A14 y12.1.f3.length c15) y12.1.f3,Row k41 41 (.slice A3 y1.1.length c4) y1.1,Row k41 41 (.slice (some ⟨b18,0,none⟩) 2 2) ([(⟨1,(⟨#[102,117,110,99]⟩:ByteArray),0⟩:S41),(⟨1,(⟨#[105,102]⟩:ByteArray),0⟩:S41)]:List S41),Blk b31 [VI y26.1.f0,.string y26.1.f1,VI y26.1.f2,.slice A28 y26.1.f3.length c29] 24,Row k24 24 (.slice A28 y26.1.f3.length c29) y26.1.f3,Blk b17 [VI y12.1.f0,.string y12.1.f1,VI y12.1.f2,.slice A14 y12.1.f3.length c15] 24]) [5,0,1,2,3,4] 6 rfl rfl rfl ?_
    refine TK.share (fun G81 e82 hs83 hb84=>?_)
    have rd85:Rd G81 k24 A14 y12.1.f3:=Rd.row hs83
    have le86:y12.1.f3.length ≤ c15:=Row.le hs83
    obtain ⟨y87,hy88,h⟩:=bind_no h
    refine TL.cons (TL.callV (Lin:=[]) (args:=[.agg #[VI y12.1.f0,.string y12.1.f1,VI y12.1.f2,.slice A14 y12.1.f3.length c15]]) (Wt.yes rfl rfl rfl hk80) rfl rfl hbd9 rfl rfl (parse_Text.calls (a0:=y12.1) rd85 le86 hy88) rfl ?_)
    rintro _ _ _ _ ⟨rfl,rfl,rfl⟩
    refine TV (Wt.yes rfl rfl rfl hk80) rfl rfl (Val.eqT rfl rfl) ?_
    refine TV rfl rfl rfl (Val.pickY rfl hk80 rfl) ?_
    refine TV rfl rfl rfl (Val.move rfl) ?_
    refine TK.split (p:=(y87.data.toList == (⟨#[102,117,110,99,32,102,32,40,32,97,32,105,110,116,32,41,32,123,32,112,114,105,110,116,32,40,32,49,32,43,32,40,32,50,32,42,32,97,32,41,32,41,32,59,32,125,10]⟩:ByteArray).data.toList)=true) h (fun hg89 h=>?_) (fun hg89 h=>?_)
    ·
     have hk90:(y87.data.toList == (⟨#[102,117,110,99,32,102,32,40,32,97,32,105,110,116,32,41,32,123,32,112,114,105,110,116,32,40,32,49,32,43,32,40,32,50,32,42,32,97,32,41,32,41,32,59,32,125,10]⟩:ByteArray).data.toList)=true:=hg89
     refine TV (Wt.yes rfl rfl rfl hk90) rfl rfl (Val.loadsB 4 (cs:=[VI y12.1.f0,.string y12.1.f1,VI y12.1.f2,.slice A14 y12.1.f3.length c15]) agg24 fsz24 rfl rfl rfl rfl) ?_
     obtain ⟨y91,hy92,h⟩:=bind_no h
     refine TL.cons (TL.callV (Lin:=[]) (args:=[.agg #[VI y12.1.f0,.string y12.1.f1,VI y12.1.f2,.slice A14 y12.1.f3.length c15]]) (Wt.yes rfl rfl rfl hk90) rfl rfl hbd11 rfl rfl (parse_Size.calls (a0:=y12.1) rd85 le86 hy92) rfl ?_)
     rintro _ _ _ _ ⟨rfl,rfl,rfl⟩
     refine TV (Wt.yes rfl rfl rfl hk90) rfl rfl (Val.cmp rfl rfl run_eql) ?_
     refine TV rfl rfl rfl (Val.pickY rfl hk90 rfl) ?_
     refine TV rfl rfl rfl (Val.move rfl) ?_
     refine TK.split (p:=y91=12) h (fun hg93 h=>?_) (fun hg93 h=>?_)
     ·
      have hk94:decide (y91=12)=true:=decide_eq_true hg93
      refine TV (Wt.yes rfl rfl rfl hk94) rfl rfl (Val.move rfl) ?_
      refine TV (Wt.yes rfl rfl rfl hk94) rfl rfl (Val.cmp rfl rfl run_eql) ?_
      refine TV rfl rfl rfl (Val.pickY rfl hk94 rfl) ?_
      refine TV rfl rfl rfl (Val.move rfl) ?_
      refine TK.split (p:=y26.2.1=1) h (fun hg95 h=>?_) (fun hg95 h=>?_)
      ·
       have hk96:decide (y26.2.1=1)=true:=decide_eq_true hg95
       refine TV (Wt.yes rfl rfl rfl hk96) rfl rfl (Val.move rfl) ?_
       refine TV (Wt.yes rfl rfl rfl hk96) rfl rfl (Val.cmp rfl rfl run_eql) ?_
       refine TV rfl rfl rfl (Val.pickY rfl hk96 rfl) ?_
       refine TV rfl rfl rfl (Val.move rfl) ?_
       refine TK.split (p:=y26.2.2=2) h (fun hg97 h=>?_) (fun hg97 h=>?_)
       ·
        have hk98:decide (y26.2.2=2)=true:=decide_eq_true hg97
        obtain ⟨y99,hy100,h⟩:=bind_no h
        refine TL.cons (TL.callV (Lin:=[]) (args:=[.string (⟨#[114,101,97,100]⟩:ByteArray)]) (Wt.yes rfl rfl rfl hk98) rfl rfl hbd15 rfl rfl (parse_Word.calls (a0:=(⟨#[114,101,97,100]⟩:ByteArray)) hy100) rfl ?_)
        rintro _ _ _ _ ⟨rfl,rfl,rfl⟩
        refine TV rfl rfl rfl (Val.pickY rfl hk98 rfl) ?_
        refine TV rfl rfl rfl (Val.move rfl) ?_
        refine TK.split (p:=y99=true) h (fun hg101 h=>?_) (fun hg101 h=>?_)
        ·
         have hk102:y99=true:=hg101
         obtain ⟨y103,hy104,h⟩:=bind_no h
         refine TL.cons (TL.callV (Lin:=[]) (args:=[.string (⟨#[102]⟩:ByteArray)]) (Wt.yes rfl rfl rfl hk102) rfl rfl hbd15 rfl rfl (parse_Word.calls (a0:=(⟨#[102]⟩:ByteArray)) hy104) rfl ?_)
         rintro _ _ _ _ ⟨rfl,rfl,rfl⟩
         refine TV (Wt.yes rfl rfl rfl hk102) rfl rfl (Val.not_ rfl) ?_
         refine TV rfl rfl rfl (Val.pickY rfl hk102 rfl) ?_
         refine TV rfl rfl rfl (Val.move rfl) ?_
         refine TK.split (p:=(!y103)=true) h (fun hg105 h=>?_) (fun hg105 h=>?_)
         ·
          have hk106:(!y103)=true:=hg105
          refine TV (Wt.yes rfl rfl rfl hk106) rfl rfl (Val.loadsB 4 (cs:=[VI y12.1.f0,.string y12.1.f1,VI y12.1.f2,.slice A14 y12.1.f3.length c15]) agg24 fsz24 rfl rfl rfl rfl) ?_
          refine TV (Wt.yes rfl rfl rfl hk106) rfl rfl (Val.loadsB 4 (cs:=[VI y12.1.f0,.string y12.1.f1,VI y12.1.f2,.slice A14 y12.1.f3.length c15]) agg24 fsz24 rfl rfl rfl rfl) ?_
          obtain ⟨y107,hy108,h⟩:=bind_no h
          refine TL.cons (TL.callV (Lin:=[]) (args:=[.agg #[VI y12.1.f0,.string y12.1.f1,VI y12.1.f2,.slice A14 y12.1.f3.length c15],.agg #[VI y12.1.f0,.string y12.1.f1,VI y12.1.f2,.slice A14 y12.1.f3.length c15]]) (Wt.yes rfl rfl rfl hk106) rfl rfl hbd13 rfl rfl (parse_Same.calls (a0:=y12.1) (a1:=y12.1) rd85 le86 rd85 le86 hy108) rfl ?_)
          rintro _ _ _ _ ⟨rfl,rfl,rfl⟩
          refine TV rfl rfl rfl (Val.pickY rfl hk106 rfl) ?_
          refine TV rfl rfl rfl (Val.assign rfl) ?_
          refine TL.nil ?_
          refine TQ.then_ ?_
          refine TC.ret ?_
          refine TQ.back hb84 ?_
          obtain rfl:=Option.some.inj h
          exact TQ.fin (.inl rfl) rfl Try.results7 (.tmp rfl .nil) rfl (FRel.mk (Ls:=[]) [] 6 (Gd.le.refl _) rfl rfl rfl ⟨rfl,rfl,rfl⟩)
         ·
          have hk109:(!y103)=false:=(by simpa using hg105)
          refine TL.cons (TL.not (Wt.no rfl rfl rfl hk109) rfl ?_)
          refine TL.cons (TL.not (Wt.no rfl rfl rfl hk109) rfl ?_)
          refine TL.cons (TL.not (Wt.no rfl rfl rfl hk109) rfl ?_)
          refine TV rfl rfl rfl (Val.pickN rfl hk109 rfl) ?_
          refine TV rfl rfl rfl (Val.assign rfl) ?_
          refine TL.nil ?_
          refine TQ.then_ ?_
          refine TC.ret ?_
          refine TQ.back hb84 ?_
          obtain rfl:=Option.some.inj h
          exact TQ.fin (.inl rfl) rfl Try.results7 (.tmp rfl .nil) rfl (FRel.mk (Ls:=[]) [] 6 (Gd.le.refl _) rfl rfl rfl ⟨rfl,rfl,rfl⟩)
        ·
         have hk110:y99=false:=(by simpa using hg101)
         refine TL.cons (TL.not (Wt.no rfl rfl rfl hk110) rfl ?_)
         refine TL.cons (TL.not (Wt.no rfl rfl rfl hk110) rfl ?_)
         refine TV rfl rfl rfl (Val.pickN rfl hk110 rfl) ?_
         refine TV rfl rfl rfl (Val.move rfl) ?_
         refine TL.cons (TL.not (Wt.no rfl rfl rfl rfl) rfl ?_)
         refine TL.cons (TL.not (Wt.no rfl rfl rfl rfl) rfl ?_)
         refine TL.cons (TL.not (Wt.no rfl rfl rfl rfl) rfl ?_)
         refine TV rfl rfl rfl (Val.pickN rfl rfl rfl) ?_
         refine TV rfl rfl rfl (Val.assign rfl) ?_
         refine TL.nil ?_
         refine TQ.then_ ?_
         refine TC.ret ?_
         refine TQ.back hb84 ?_
         obtain rfl:=Option.some.inj h
         exact TQ.fin (.inl rfl) rfl Try.results7 (.tmp rfl .nil) rfl (FRel.mk (Ls:=[]) [] 6 (Gd.le.refl _) rfl rfl rfl ⟨rfl,rfl,rfl⟩)
       ·
        have hk111:decide (y26.2.2=2)=false:=decide_eq_false hg97
        refine TL.cons (TL.not (Wt.no rfl rfl rfl hk111) rfl ?_)
        refine TV rfl rfl rfl (Val.pickN rfl hk111 rfl) ?_
        refine TV rfl rfl rfl (Val.move rfl) ?_
        refine TL.cons (TL.not (Wt.no rfl rfl rfl rfl) rfl ?_)
        refine TL.cons (TL.not (Wt.no rfl rfl rfl rfl) rfl ?_)
        refine TV rfl rfl rfl (Val.pickN rfl rfl rfl) ?_
        refine TV rfl rfl rfl (Val.move rfl) ?_
        refine TL.cons (TL.not (Wt.no rfl rfl rfl rfl) rfl ?_)
        refine TL.cons (TL.not (Wt.no rfl rfl rfl rfl) rfl ?_)
        refine TL.cons (TL.not (Wt.no rfl rfl rfl rfl) rfl ?_)
        refine TV rfl rfl rfl (Val.pickN rfl rfl rfl) ?_
        refine TV rfl rfl rfl (Val.assign rfl) ?_
        refine TL.nil ?_
        refine TQ.then_ ?_
        refine TC.ret ?_
        refine TQ.back hb84 ?_
        obtain rfl:=Option.some.inj h
        exact TQ.fin (.inl rfl) rfl Try.results7 (.tmp rfl .nil) rfl (FRel.mk (Ls:=[]) [] 6 (Gd.le.refl _) rfl rfl rfl ⟨rfl,rfl,rfl⟩)
      ·
       have hk112:decide (y26.2.1=1)=false:=decide_eq_false hg95
       refine TL.cons (TL.not (Wt.no rfl rfl rfl hk112) rfl ?_)
       refine TL.cons (TL.not (Wt.no rfl rfl rfl hk112) rfl ?_)
       refine TV rfl rfl rfl (Val.pickN rfl hk112 rfl) ?_
       refine TV rfl rfl rfl (Val.move rfl) ?_
       refine TL.cons (TL.not (Wt.no rfl rfl rfl rfl) rfl ?_)
       refine TV rfl rfl rfl (Val.pickN rfl rfl rfl) ?_
       refine TV rfl rfl rfl (Val.move rfl) ?_
       refine TL.cons (TL.not (Wt.no rfl rfl rfl rfl) rfl ?_)
       refine TL.cons (TL.not (Wt.no rfl rfl rfl rfl) rfl ?_)
       refine TV rfl rfl rfl (Val.pickN rfl rfl rfl) ?_
       refine TV rfl rfl rfl (Val.move rfl) ?_
       refine TL.cons (TL.not (Wt.no rfl rfl rfl rfl) rfl ?_)
       refine TL.cons (TL.not (Wt.no rfl rfl rfl rfl) rfl ?_)
       refine TL.cons (TL.not (Wt.no rfl rfl rfl rfl) rfl ?_)
       refine TV rfl rfl rfl (Val.pickN rfl rfl rfl) ?_
       refine TV rfl rfl rfl (Val.assign rfl) ?_
       refine TL.nil ?_
       refine TQ.then_ ?_
       refine TC.ret ?_
       refine TQ.back hb84 ?_
       obtain rfl:=Option.some.inj h
       exact TQ.fin (.inl rfl) rfl Try.results7 (.tmp rfl .nil) rfl (FRel.mk (Ls:=[]) [] 6 (Gd.le.refl _) rfl rfl rfl ⟨rfl,rfl,rfl⟩)
     ·
      have hk113:decide (y91=12)=false:=decide_eq_false hg93
      refine TL.cons (TL.not (Wt.no rfl rfl rfl hk113) rfl ?_)
      refine TL.cons (TL.not (Wt.no rfl rfl rfl hk113) rfl ?_)
      refine TV rfl rfl rfl (Val.pickN rfl hk113 rfl) ?_
      refine TV rfl rfl rfl (Val.move rfl) ?_
      refine TL.cons (TL.not (Wt.no rfl rfl rfl rfl) rfl ?_)
      refine TL.cons (TL.not (Wt.no rfl rfl rfl rfl) rfl ?_)
      refine TV rfl rfl rfl (Val.pickN rfl rfl rfl) ?_
      refine TV rfl rfl rfl (Val.move rfl) ?_
      refine TL.cons (TL.not (Wt.no rfl rfl rfl rfl) rfl ?_)
      refine TV rfl rfl rfl (Val.pickN rfl rfl rfl) ?_
      refine TV rfl rfl rfl (Val.move rfl) ?_
      refine TL.cons (TL.not (Wt.no rfl rfl rfl rfl) rfl ?_)
      refine TL.cons (TL.not (Wt.no rfl rfl rfl rfl) rfl ?_)
      refine TV rfl rfl rfl (Val.pickN rfl rfl rfl) ?_
      refine TV rfl rfl rfl (Val.move rfl) ?_
      refine TL.cons (TL.not (Wt.no rfl rfl rfl rfl) rfl ?_)
      refine TL.cons (TL.not (Wt.no rfl rfl rfl rfl) rfl ?_)
      refine TL.cons (TL.not (Wt.no rfl rfl rfl rfl) rfl ?_)
      refine TV rfl rfl rfl (Val.pickN rfl rfl rfl) ?_
      refine TV rfl rfl rfl (Val.assign rfl) ?_
      refine TL.nil ?_
      refine TQ.then_ ?_
      refine TC.ret ?_
      refine TQ.back hb84 ?_
      obtain rfl:=Option.some.inj h
      exact TQ.fin (.inl rfl) rfl Try.results7 (.tmp rfl .nil) rfl (FRel.mk (Ls:=[]) [] 6 (Gd.le.refl _) rfl rfl rfl ⟨rfl,rfl,rfl⟩)
    ·
     have hk114:(y87.data.toList == (⟨#[102,117,110,99,32,102,32,40,32,97,32,105,110,116,32,41,32,123,32,112,114,105,110,116,32,40,32,49,32,43,32,40,32,50,32,42,32,97,32,41,32,41,32,59,32,125,10]⟩:ByteArray).data.toList)=false:=(by simpa using hg89)
     refine TL.cons (TL.not (Wt.no rfl rfl rfl hk114) rfl ?_)
     refine TL.cons (TL.not (Wt.no rfl rfl rfl hk114) rfl ?_)
     refine TL.cons (TL.not (Wt.no rfl rfl rfl hk114) rfl ?_)
     refine TV rfl rfl rfl (Val.pickN rfl hk114 rfl) ?_
     refine TV rfl rfl rfl (Val.move rfl) ?_
     refine TL.cons (TL.not (Wt.no rfl rfl rfl rfl) rfl ?_)
     refine TL.cons (TL.not (Wt.no rfl rfl rfl rfl) rfl ?_)
     refine TV rfl rfl rfl (Val.pickN rfl rfl rfl) ?_
     refine TV rfl rfl rfl (Val.move rfl) ?_
     refine TL.cons (TL.not (Wt.no rfl rfl rfl rfl) rfl ?_)
     refine TL.cons (TL.not (Wt.no rfl rfl rfl rfl) rfl ?_)
     refine TV rfl rfl rfl (Val.pickN rfl rfl rfl) ?_
     refine TV rfl rfl rfl (Val.move rfl) ?_
     refine TL.cons (TL.not (Wt.no rfl rfl rfl rfl) rfl ?_)
     refine TV rfl rfl rfl (Val.pickN rfl rfl rfl) ?_
     refine TV rfl rfl rfl (Val.move rfl) ?_
     refine TL.cons (TL.not (Wt.no rfl rfl rfl rfl) rfl ?_)
     refine TL.cons (TL.not (Wt.no rfl rfl rfl rfl) rfl ?_)
     refine TV rfl rfl rfl (Val.pickN rfl rfl rfl) ?_
     refine TV rfl rfl rfl (Val.move rfl) ?_
     refine TL.cons (TL.not (Wt.no rfl rfl rfl rfl) rfl ?_)
     refine TL.cons (TL.not (Wt.no rfl rfl rfl rfl) rfl ?_)
     refine TL.cons (TL.not (Wt.no rfl rfl rfl rfl) rfl ?_)
     refine TV rfl rfl rfl (Val.pickN rfl rfl rfl) ?_
     refine TV rfl rfl rfl (Val.assign rfl) ?_
     refine TL.nil ?_
     refine TQ.then_ ?_
     refine TC.ret ?_
     refine TQ.back hb84 ?_
     obtain rfl:=Option.some.inj h
     exact TQ.fin (.inl rfl) rfl Try.results7 (.tmp rfl .nil) rfl (FRel.mk (Ls:=[]) [] 6 (Gd.le.refl _) rfl rfl rfl ⟨rfl,rfl,rfl⟩)
   ·
    have hk115:decide (y12.2.1=(y1.1.length:Int))=false:=decide_eq_false hg79
    refine TL.cons (TL.not (Wt.no rfl rfl rfl hk115) rfl ?_)
    refine TL.cons (TL.not (Wt.no rfl rfl rfl hk115) rfl ?_)
    refine TL.cons (TL.not (Wt.no rfl rfl rfl hk115) rfl ?_)
    refine TV rfl rfl rfl (Val.pickN rfl hk115 rfl) ?_
    refine TV rfl rfl rfl (Val.move rfl) ?_
    refine TL.cons (TL.not (Wt.no rfl rfl rfl rfl) rfl ?_)
    refine TL.cons (TL.not (Wt.no rfl rfl rfl rfl) rfl ?_)
    refine TL.cons (TL.not (Wt.no rfl rfl rfl rfl) rfl ?_)
    refine TV rfl rfl rfl (Val.pickN rfl rfl rfl) ?_
    refine TV rfl rfl rfl (Val.move rfl) ?_
    refine TL.cons (TL.not (Wt.no rfl rfl rfl rfl) rfl ?_)
    refine TL.cons (TL.not (Wt.no rfl rfl rfl rfl) rfl ?_)
    refine TV rfl rfl rfl (Val.pickN rfl rfl rfl) ?_
    refine TV rfl rfl rfl (Val.move rfl) ?_
    refine TL.cons (TL.not (Wt.no rfl rfl rfl rfl) rfl ?_)
    refine TL.cons (TL.not (Wt.no rfl rfl rfl rfl) rfl ?_)
    refine TV rfl rfl rfl (Val.pickN rfl rfl rfl) ?_
    refine TV rfl rfl rfl (Val.move rfl) ?_
    refine TL.cons (TL.not (Wt.no rfl rfl rfl rfl) rfl ?_)
    refine TV rfl rfl rfl (Val.pickN rfl rfl rfl) ?_
    refine TV rfl rfl rfl (Val.move rfl) ?_
    refine TL.cons (TL.not (Wt.no rfl rfl rfl rfl) rfl ?_)
    refine TL.cons (TL.not (Wt.no rfl rfl rfl rfl) rfl ?_)
    refine TV rfl rfl rfl (Val.pickN rfl rfl rfl) ?_
    refine TV rfl rfl rfl (Val.move rfl) ?_
    refine TL.cons (TL.not (Wt.no rfl rfl rfl rfl) rfl ?_)
    refine TL.cons (TL.not (Wt.no rfl rfl rfl rfl) rfl ?_)
    refine TL.cons (TL.not (Wt.no rfl rfl rfl rfl) rfl ?_)
    refine TV rfl rfl rfl (Val.pickN rfl rfl rfl) ?_
    refine TV rfl rfl rfl (Val.assign rfl) ?_
    refine TL.nil ?_
    refine TQ.then_ ?_
    refine TC.ret ?_
    obtain rfl:=Option.some.inj h
    exact TQ.fin (.inl rfl) rfl Try.results7 (.tmp rfl .nil) rfl (FRel.mk (Ls:=[]) [] 6 (Gd.le.refl _) rfl rfl rfl ⟨rfl,rfl,rfl⟩)
  ·
   have hk116:decide (y12.2.2=0)=false:=decide_eq_false hg77
   refine TL.cons (TL.not (Wt.no rfl rfl rfl hk116) rfl ?_)
   refine TL.cons (TL.not (Wt.no rfl rfl rfl hk116) rfl ?_)
   refine TL.cons (TL.not (Wt.no rfl rfl rfl hk116) rfl ?_)
   refine TL.cons (TL.not (Wt.no rfl rfl rfl hk116) rfl ?_)
   refine TV rfl rfl rfl (Val.pickN rfl hk116 rfl) ?_
   refine TV rfl rfl rfl (Val.move rfl) ?_
   refine TL.cons (TL.not (Wt.no rfl rfl rfl rfl) rfl ?_)
   refine TL.cons (TL.not (Wt.no rfl rfl rfl rfl) rfl ?_)
   refine TL.cons (TL.not (Wt.no rfl rfl rfl rfl) rfl ?_)
   refine TV rfl rfl rfl (Val.pickN rfl rfl rfl) ?_
   refine TV rfl rfl rfl (Val.move rfl) ?_
   refine TL.cons (TL.not (Wt.no rfl rfl rfl rfl) rfl ?_)
   refine TL.cons (TL.not (Wt.no rfl rfl rfl rfl) rfl ?_)
   refine TL.cons (TL.not (Wt.no rfl rfl rfl rfl) rfl ?_)
   refine TV rfl rfl rfl (Val.pickN rfl rfl rfl) ?_
   refine TV rfl rfl rfl (Val.move rfl) ?_
   refine TL.cons (TL.not (Wt.no rfl rfl rfl rfl) rfl ?_)
   refine TL.cons (TL.not (Wt.no rfl rfl rfl rfl) rfl ?_)
   refine TV rfl rfl rfl (Val.pickN rfl rfl rfl) ?_
   refine TV rfl rfl rfl (Val.move rfl) ?_
   refine TL.cons (TL.not (Wt.no rfl rfl rfl rfl) rfl ?_)
   refine TL.cons (TL.not (Wt.no rfl rfl rfl rfl) rfl ?_)
   refine TV rfl rfl rfl (Val.pickN rfl rfl rfl) ?_
   refine TV rfl rfl rfl (Val.move rfl) ?_
   refine TL.cons (TL.not (Wt.no rfl rfl rfl rfl) rfl ?_)
   refine TV rfl rfl rfl (Val.pickN rfl rfl rfl) ?_
   refine TV rfl rfl rfl (Val.move rfl) ?_
   refine TL.cons (TL.not (Wt.no rfl rfl rfl rfl) rfl ?_)
   refine TL.cons (TL.not (Wt.no rfl rfl rfl rfl) rfl ?_)
   refine TV rfl rfl rfl (Val.pickN rfl rfl rfl) ?_
   refine TV rfl rfl rfl (Val.move rfl) ?_
   refine TL.cons (TL.not (Wt.no rfl rfl rfl rfl) rfl ?_)
   refine TL.cons (TL.not (Wt.no rfl rfl rfl rfl) rfl ?_)
   refine TL.cons (TL.not (Wt.no rfl rfl rfl rfl) rfl ?_)
   refine TV rfl rfl rfl (Val.pickN rfl rfl rfl) ?_
   refine TV rfl rfl rfl (Val.assign rfl) ?_
   refine TL.nil ?_
   refine TQ.then_ ?_
   refine TC.ret ?_
   obtain rfl:=Option.some.inj h
   exact TQ.fin (.inl rfl) rfl Try.results7 (.tmp rfl .nil) rfl (FRel.mk (Ls:=[]) [] 6 (Gd.le.refl _) rfl rfl rfl ⟨rfl,rfl,rfl⟩)
 ·
  have hk117:decide (y1.2.2=0)=false:=decide_eq_false hg75
  refine TL.cons (TL.not (Wt.no rfl rfl rfl hk117) rfl ?_)
  refine TL.cons (TL.not (Wt.no rfl rfl rfl hk117) rfl ?_)
  refine TV rfl rfl rfl (Val.pickN rfl hk117 rfl) ?_
  refine TV rfl rfl rfl (Val.move rfl) ?_
  refine TL.cons (TL.not (Wt.no rfl rfl rfl rfl) rfl ?_)
  refine TL.cons (TL.not (Wt.no rfl rfl rfl rfl) rfl ?_)
  refine TL.cons (TL.not (Wt.no rfl rfl rfl rfl) rfl ?_)
  refine TL.cons (TL.not (Wt.no rfl rfl rfl rfl) rfl ?_)
  refine TV rfl rfl rfl (Val.pickN rfl rfl rfl) ?_
  refine TV rfl rfl rfl (Val.move rfl) ?_
  refine TL.cons (TL.not (Wt.no rfl rfl rfl rfl) rfl ?_)
  refine TL.cons (TL.not (Wt.no rfl rfl rfl rfl) rfl ?_)
  refine TL.cons (TL.not (Wt.no rfl rfl rfl rfl) rfl ?_)
  refine TV rfl rfl rfl (Val.pickN rfl rfl rfl) ?_
  refine TV rfl rfl rfl (Val.move rfl) ?_
  refine TL.cons (TL.not (Wt.no rfl rfl rfl rfl) rfl ?_)
  refine TL.cons (TL.not (Wt.no rfl rfl rfl rfl) rfl ?_)
  refine TL.cons (TL.not (Wt.no rfl rfl rfl rfl) rfl ?_)
  refine TV rfl rfl rfl (Val.pickN rfl rfl rfl) ?_
  refine TV rfl rfl rfl (Val.move rfl) ?_
  refine TL.cons (TL.not (Wt.no rfl rfl rfl rfl) rfl ?_)
  refine TL.cons (TL.not (Wt.no rfl rfl rfl rfl) rfl ?_)
  refine TV rfl rfl rfl (Val.pickN rfl rfl rfl) ?_
  refine TV rfl rfl rfl (Val.move rfl) ?_
  refine TL.cons (TL.not (Wt.no rfl rfl rfl rfl) rfl ?_)
  refine TL.cons (TL.not (Wt.no rfl rfl rfl rfl) rfl ?_)
  refine TV rfl rfl rfl (Val.pickN rfl rfl rfl) ?_
  refine TV rfl rfl rfl (Val.move rfl) ?_
  refine TL.cons (TL.not (Wt.no rfl rfl rfl rfl) rfl ?_)
  refine TV rfl rfl rfl (Val.pickN rfl rfl rfl) ?_
  refine TV rfl rfl rfl (Val.move rfl) ?_
  refine TL.cons (TL.not (Wt.no rfl rfl rfl rfl) rfl ?_)
  refine TL.cons (TL.not (Wt.no rfl rfl rfl rfl) rfl ?_)
  refine TV rfl rfl rfl (Val.pickN rfl rfl rfl) ?_
  refine TV rfl rfl rfl (Val.move rfl) ?_
  refine TL.cons (TL.not (Wt.no rfl rfl rfl rfl) rfl ?_)
  refine TL.cons (TL.not (Wt.no rfl rfl rfl rfl) rfl ?_)
  refine TL.cons (TL.not (Wt.no rfl rfl rfl rfl) rfl ?_)
  refine TV rfl rfl rfl (Val.pickN rfl rfl rfl) ?_
  refine TV rfl rfl rfl (Val.assign rfl) ?_
  refine TL.nil ?_
  refine TQ.then_ ?_
  refine TC.ret ?_
  obtain rfl:=Option.some.inj h
  exact TQ.fin (.inl rfl) rfl Try.results7 (.tmp rfl .nil) rfl (FRel.mk (Ls:=[]) [] 6 (Gd.le.refl _) rfl rfl rfl ⟨rfl,rfl,rfl⟩)
end Go.Proofs.Ythlhmoocgjddpaa.Sy
set_option linter.unusedVariables false
namespace Go.Proofs.Ythlhmoocgjddpaa.Sy
open Go Go.RowKit Go.Proofs.YthlhmoocgjddpaaW.PrintWords
theorem small10 : swagelaw10_small.f = some true := by decide +kernel
end Go.Proofs.Ythlhmoocgjddpaa.Sy
set_option linter.unusedVariables false
set_option linter.unusedSimpArgs false
set_option maxRecDepth 100000
set_option maxHeartbeats 4000000
namespace Go.Proofs.Ythlhmoocgjddpaa.Sy
open Go Go.RowKit Go.Proofs.YthlhmoocgjddpaaW.PrintWords 
def swagelaw10_ParseJoins.l0 (a0:(List S24)) (y5:Bool):Nat → ByteArray → Int → Int → Option (Sum Bool (ByteArray × Int))
 | 0,_,_,_=>none
 | n184 + 1,x122,x123,x124=>jn (γ:=(Sum Bool (ByteArray × Int))) (fun (x277:Bool)=>(if x277=true then (at? a0 x124).bind fun y304=>(swagelaw10_Few.f y304).bind fun (y317:Bool)=>(if (!y317)=true then some (.inl y5) else (parse_Text.f y304).bind fun (y321:ByteArray)=>(if x122.size + y321.size ≤ 9223372036854775807 then (if (cat x122 y321).size + (⟨#[10]⟩:ByteArray).size ≤ 9223372036854775807 then (parse_Size.f y304).bind fun (y325:Int)=>swagelaw10_ParseJoins.l0 a0 y5 n184 (cat (cat x122 y321) (⟨#[10]⟩:ByteArray)) (IntKind.i64.wrap (x123 + y325)) (IntKind.i64.wrap (x124 + 1)) else none) else none)) else some (.inr (x122,x123)))) (fun (j278:(Bool → Option (Sum Bool (ByteArray × Int))))=>(if x124 < (a0.length:Int) then j278 (decide (x124 < 20)) else j278 false))
def swagelaw10_ParseJoins.f (a0:(List S24)):Option Bool:=(swagelaw10_small.f).bind fun (y5:Bool)=>(swagelaw10_ParseJoins.l0 a0 y5 (a0.length + 1) (⟨#[]⟩:ByteArray) 1 0).bind fun | .inl q_=>some q_ | .inr (x181,x182)=>(if 20 < (a0.length:Int) then some y5 else (if y5=true then (parse_Text.f (⟨1,(⟨#[]⟩:ByteArray),0,a0⟩:S24)).bind fun (y261:ByteArray)=>(if (y261.data.toList == x181.data.toList)=true then (parse_Size.f (⟨1,(⟨#[]⟩:ByteArray),0,a0⟩:S24)).bind fun (y265:Int)=>(if y265=x182 then (parse_Same.f (⟨1,(⟨#[]⟩:ByteArray),0,a0⟩:S24) (⟨1,(⟨#[]⟩:ByteArray),0,a0⟩:S24)).bind fun (y269:Bool)=>some y269 else some false) else some false) else some false))
def swagelaw10_ParseJoins.post (G:Gd)  (r:Bool) (v:Value) (G':Gd) (Lr:List Ch):Prop:=G=G'∧v=.bool r∧Lr=[]
theorem swagelaw10_ParseJoins.calls {G:Gd} {r:Bool} {a0:(List S24)} {A1:Option Addr} {c2:Nat} (hr3:Rd G k24 A1 a0) (hl4:a0.length ≤ c2) (h:swagelaw10_ParseJoins.f a0=some r):Fn Try.prog 6 G [] [.slice A1 a0.length c2] (swagelaw10_ParseJoins.post G  r):=by
 refine Fn.intro (e:=[(0,.slice A1 a0.length c2)]) 67 Try.func6 rfl Try.ntmps6 rfl rfl (Nat.le_of_ble_eq_true rfl) (fun L=>?_)
 unfold swagelaw10_ParseJoins.f at h
 refine TC.seq ?_
 refine TC.region ?_
 refine TV rfl rfl rfl (Val.assign rfl) ?_
 refine TL.nil ?_
 refine TQ.then_ ?_
 refine TC.seq ?_
 refine TC.region ?_
 obtain ⟨y5,hy6,h⟩:=bind_no h
 refine TL.cons (TL.callV (Lin:=[]) (args:=[]) rfl rfl rfl hbd7 rfl rfl (swagelaw10_small.calls hy6) rfl ?_)
 rintro _ _ _ _ ⟨rfl,rfl,rfl⟩
 refine TV rfl rfl rfl (Val.assign rfl) ?_
 refine TL.nil ?_
 refine TQ.then_ ?_
 refine TC.seq ?_
 refine TC.region ?_
 refine TV rfl rfl rfl (Val.assign rfl) ?_
 refine TL.nil ?_
 refine TQ.then_ ?_
 refine TC.seq ?_
 refine TC.region ?_
 refine TV rfl rfl rfl (Val.assign rfl) ?_
 refine TL.nil ?_
 refine TQ.then_ ?_
 refine TC.seq ?_
 refine TC.seq ?_
 refine TC.region ?_
 refine TV rfl rfl rfl (Val.assign rfl) ?_
 refine TL.nil ?_
 refine TQ.then_ ?_
 obtain ⟨o183,ho183,ko183⟩:=bind_no h
 clear h
 refine TC.tail (fun a W=>∃ (x181:ByteArray) (x182:Int),(.inr (x181,x182))=o183∧Fr 67 a [(0,.slice A1 a0.length c2),(3,.bool y5),(4,.string x181),(5,VI x182)]∧Own G (L) W) ?_ ?_
 ·
  rintro a W ⟨x181,x182,rfl,hF,hO⟩
  have h:=ko183
  clear ko183 ho183
  refine TQ.use ?_ hF hO
  clear hF hO
  refine TQ.then_ ?_
  refine TC.seq ?_
  refine TC.seq ?_
  refine TC.region ?_
  refine TV rfl rfl rfl (Val.move rfl) ?_
  refine TV rfl rfl rfl (Val.len Try.underlying22 rfl) ?_
  refine TV rfl rfl rfl (Val.cmp rfl rfl run_gtr) ?_
  refine TL.nil ?_
  refine TQ.then_ ?_
  refine TC.cond_p rfl h (fun hc242 h=>?_) (fun hc242 h=>?_)
  ·
   refine TC.seq ?_
   refine TC.region ?_
   refine TV rfl rfl rfl (Val.move rfl) ?_
   refine TV rfl rfl rfl (Val.assign rfl) ?_
   refine TL.nil ?_
   refine TQ.then_ ?_
   refine TC.ret ?_
   refine TQ.thenR ?_
   obtain rfl:=Option.some.inj h
   exact TQ.fin (.inl rfl) rfl Try.results6 (.tmp rfl .nil) rfl (FRel.mk (Ls:=[]) [] 0 (Gd.le.refl _) rfl rfl rfl ⟨rfl,rfl,rfl⟩)
  ·
   refine TC.skip ?_
   refine TQ.then_ ?_
   refine TC.seq ?_
   refine TC.region ?_
   refine TV rfl rfl rfl (Val.move rfl) ?_
   refine TV rfl rfl rfl (Val.build (cs:=[VI 1,.string (⟨#[]⟩:ByteArray),VI 0,.slice A1 a0.length c2]) (is:=[0,3]) (xs:=[.const (VI 1),.tmp 47]) Try.underlying24 zr24 bld24 rfl rfl rfl rfl) ?_
   refine TL.cons (TL.alloc (cs:=[VI 0,.string (⟨#[]⟩:ByteArray),VI 0,.slice none 0 0]) rfl rfl zr24 rfl (fun b243=>?_))
   refine TL.cons (TL.store 0 (ds:=[VI 1,.string (⟨#[]⟩:ByteArray),VI 0,.slice A1 a0.length c2]) (cs':=[VI 1,.string (⟨#[]⟩:ByteArray),VI 0,.slice A1 a0.length c2]) (L':=(Blk b243 [VI 1,.string (⟨#[]⟩:ByteArray),VI 0,.slice A1 a0.length c2] 24::L)) rfl fsz24 rfl rfl rfl rfl rfl (Nat.le_of_ble_eq_true rfl) rfl rfl ?_)
   refine TL.nil ?_
   refine TQ.then_ ?_
   refine TC.seq ?_
   refine TC.region ?_
   refine TV rfl rfl rfl (Val.move rfl) ?_
   refine TV rfl rfl rfl (Val.move rfl) ?_
   refine TK.split (p:=y5=true) h (fun hg259 h=>?_) (fun hg259 h=>?_)
   ·
    have hk260:y5=true:=hg259
    refine TV (Wt.yes rfl rfl rfl hk260) rfl rfl (Val.loadsB 0 (cs:=[VI 1,.string (⟨#[]⟩:ByteArray),VI 0,.slice A1 a0.length c2]) agg24 fsz24 rfl rfl rfl rfl) ?_
    obtain ⟨y261,hy262,h⟩:=bind_no h
    refine TL.cons (TL.callV (Lin:=[]) (args:=[.agg #[VI 1,.string (⟨#[]⟩:ByteArray),VI 0,.slice A1 a0.length c2]]) (Wt.yes rfl rfl rfl hk260) rfl rfl hbd9 rfl rfl (parse_Text.calls (a0:=(⟨1,(⟨#[]⟩:ByteArray),0,a0⟩:S24)) hr3 hl4 hy262) rfl ?_)
    rintro _ _ _ _ ⟨rfl,rfl,rfl⟩
    refine TV (Wt.yes rfl rfl rfl hk260) rfl rfl (Val.move rfl) ?_
    refine TV (Wt.yes rfl rfl rfl hk260) rfl rfl (Val.eqT rfl rfl) ?_
    refine TV rfl rfl rfl (Val.pickY rfl hk260 rfl) ?_
    refine TV rfl rfl rfl (Val.move rfl) ?_
    refine TK.split (p:=(y261.data.toList == x181.data.toList)=true) h (fun hg263 h=>?_) (fun hg263 h=>?_)
    ·
     have hk264:(y261.data.toList == x181.data.toList)=true:=hg263
     refine TV (Wt.yes rfl rfl rfl hk264) rfl rfl (Val.loadsB 0 (cs:=[VI 1,.string (⟨#[]⟩:ByteArray),VI 0,.slice A1 a0.length c2]) agg24 fsz24 rfl rfl rfl rfl) ?_
     obtain ⟨y265,hy266,h⟩:=bind_no h
     refine TL.cons (TL.callV (Lin:=[]) (args:=[.agg #[VI 1,.string (⟨#[]⟩:ByteArray),VI 0,.slice A1 a0.length c2]]) (Wt.yes rfl rfl rfl hk264) rfl rfl hbd11 rfl rfl (parse_Size.calls (a0:=(⟨1,(⟨#[]⟩:ByteArray),0,a0⟩:S24)) hr3 hl4 hy266) rfl ?_)
     rintro _ _ _ _ ⟨rfl,rfl,rfl⟩
     refine TV (Wt.yes rfl rfl rfl hk264) rfl rfl (Val.move rfl) ?_
     refine TV (Wt.yes rfl rfl rfl hk264) rfl rfl (Val.cmp rfl rfl run_eql) ?_
     refine TV rfl rfl rfl (Val.pickY rfl hk264 rfl) ?_
     refine TV rfl rfl rfl (Val.move rfl) ?_
     refine TK.split (p:=y265=x182) h (fun hg267 h=>?_) (fun hg267 h=>?_)
     ·
      have hk268:decide (y265=x182)=true:=decide_eq_true hg267
      refine TV (Wt.yes rfl rfl rfl hk268) rfl rfl (Val.loadsB 0 (cs:=[VI 1,.string (⟨#[]⟩:ByteArray),VI 0,.slice A1 a0.length c2]) agg24 fsz24 rfl rfl rfl rfl) ?_
      refine TV (Wt.yes rfl rfl rfl hk268) rfl rfl (Val.loadsB 0 (cs:=[VI 1,.string (⟨#[]⟩:ByteArray),VI 0,.slice A1 a0.length c2]) agg24 fsz24 rfl rfl rfl rfl) ?_
      obtain ⟨y269,hy270,h⟩:=bind_no h
      refine TL.cons (TL.callV (Lin:=[]) (args:=[.agg #[VI 1,.string (⟨#[]⟩:ByteArray),VI 0,.slice A1 a0.length c2],.agg #[VI 1,.string (⟨#[]⟩:ByteArray),VI 0,.slice A1 a0.length c2]]) (Wt.yes rfl rfl rfl hk268) rfl rfl hbd13 rfl rfl (parse_Same.calls (a0:=(⟨1,(⟨#[]⟩:ByteArray),0,a0⟩:S24)) (a1:=(⟨1,(⟨#[]⟩:ByteArray),0,a0⟩:S24)) hr3 hl4 hr3 hl4 hy270) rfl ?_)
      rintro _ _ _ _ ⟨rfl,rfl,rfl⟩
      refine TV rfl rfl rfl (Val.pickY rfl hk268 rfl) ?_
      refine TV rfl rfl rfl (Val.assign rfl) ?_
      refine TL.nil ?_
      refine TQ.then_ ?_
      refine TC.ret ?_
      obtain rfl:=Option.some.inj h
      exact TQ.fin (.inl rfl) rfl Try.results6 (.tmp rfl .nil) rfl (FRel.mk (Ls:=[]) [] 1 (Gd.le.refl _) rfl rfl rfl ⟨rfl,rfl,rfl⟩)
     ·
      have hk271:decide (y265=x182)=false:=decide_eq_false hg267
      refine TL.cons (TL.not (Wt.no rfl rfl rfl hk271) rfl ?_)
      refine TL.cons (TL.not (Wt.no rfl rfl rfl hk271) rfl ?_)
      refine TL.cons (TL.not (Wt.no rfl rfl rfl hk271) rfl ?_)
      refine TV rfl rfl rfl (Val.pickN rfl hk271 rfl) ?_
      refine TV rfl rfl rfl (Val.assign rfl) ?_
      refine TL.nil ?_
      refine TQ.then_ ?_
      refine TC.ret ?_
      obtain rfl:=Option.some.inj h
      exact TQ.fin (.inl rfl) rfl Try.results6 (.tmp rfl .nil) rfl (FRel.mk (Ls:=[]) [] 1 (Gd.le.refl _) rfl rfl rfl ⟨rfl,rfl,rfl⟩)
    ·
     have hk272:(y261.data.toList == x181.data.toList)=false:=(by simpa using hg263)
     refine TL.cons (TL.not (Wt.no rfl rfl rfl hk272) rfl ?_)
     refine TL.cons (TL.not (Wt.no rfl rfl rfl hk272) rfl ?_)
     refine TL.cons (TL.not (Wt.no rfl rfl rfl hk272) rfl ?_)
     refine TL.cons (TL.not (Wt.no rfl rfl rfl hk272) rfl ?_)
     refine TV rfl rfl rfl (Val.pickN rfl hk272 rfl) ?_
     refine TV rfl rfl rfl (Val.move rfl) ?_
     refine TL.cons (TL.not (Wt.no rfl rfl rfl rfl) rfl ?_)
     refine TL.cons (TL.not (Wt.no rfl rfl rfl rfl) rfl ?_)
     refine TL.cons (TL.not (Wt.no rfl rfl rfl rfl) rfl ?_)
     refine TV rfl rfl rfl (Val.pickN rfl rfl rfl) ?_
     refine TV rfl rfl rfl (Val.assign rfl) ?_
     refine TL.nil ?_
     refine TQ.then_ ?_
     refine TC.ret ?_
     obtain rfl:=Option.some.inj h
     exact TQ.fin (.inl rfl) rfl Try.results6 (.tmp rfl .nil) rfl (FRel.mk (Ls:=[]) [] 1 (Gd.le.refl _) rfl rfl rfl ⟨rfl,rfl,rfl⟩)
   ·
    have hk273:y5=false:=(by simpa using hg259)
    refine TL.cons (TL.not (Wt.no rfl rfl rfl hk273) rfl ?_)
    refine TL.cons (TL.not (Wt.no rfl rfl rfl hk273) rfl ?_)
    refine TL.cons (TL.not (Wt.no rfl rfl rfl hk273) rfl ?_)
    refine TL.cons (TL.not (Wt.no rfl rfl rfl hk273) rfl ?_)
    refine TV rfl rfl rfl (Val.pickN rfl hk273 rfl) ?_
    refine TV rfl rfl rfl (Val.move rfl) ?_
    refine TL.cons (TL.not (Wt.no rfl rfl rfl rfl) rfl ?_)
    refine TL.cons (TL.not (Wt.no rfl rfl rfl rfl) rfl ?_)
    refine TL.cons (TL.not (Wt.no rfl rfl rfl rfl) rfl ?_)
    refine TL.cons (TL.not (Wt.no rfl rfl rfl rfl) rfl ?_)
    refine TV rfl rfl rfl (Val.pickN rfl rfl rfl) ?_
    refine TV rfl rfl rfl (Val.move rfl) ?_
    refine TL.cons (TL.not (Wt.no rfl rfl rfl rfl) rfl ?_)
    refine TL.cons (TL.not (Wt.no rfl rfl rfl rfl) rfl ?_)
    refine TL.cons (TL.not (Wt.no rfl rfl rfl rfl) rfl ?_)
    refine TV rfl rfl rfl (Val.pickN rfl rfl rfl) ?_
    refine TV rfl rfl rfl (Val.assign rfl) ?_
    refine TL.nil ?_
    refine TQ.then_ ?_
    refine TC.ret ?_
    obtain rfl:=Option.some.inj h
    exact TQ.fin (.inl rfl) rfl Try.results6 (.tmp rfl .nil) rfl (FRel.mk (Ls:=[]) [] 1 (Gd.le.refl _) rfl rfl rfl ⟨rfl,rfl,rfl⟩)
 ·
  refine TC.block ?_
  intro a W hF hO
  have hS:∃ (x122:ByteArray) (x123:Int) (x124:Int),swagelaw10_ParseJoins.l0 a0 y5 (a0.length + 1) x122 x123 x124=some o183∧Fr 67 a [(0,.slice A1 a0.length c2),(3,.bool y5),(4,.string x122),(5,VI x123),(6,VI x124)]∧Own G (L) W:=by
   exact ⟨(⟨#[]⟩:ByteArray),1,0,ho183,hF.sub ⟨rfl,rfl,rfl,rfl,rfl,trivial⟩,hO.selT (Ls:=[]) [] 0 rfl rfl rfl⟩
  clear hF hO ho183
  refine TC.loop (fun n184 a W=>∃ (x122:ByteArray) (x123:Int) (x124:Int),swagelaw10_ParseJoins.l0 a0 y5 n184 x122 x123 x124=some o183∧Fr 67 a [(0,.slice A1 a0.length c2),(3,.bool y5),(4,.string x122),(5,VI x123),(6,VI x124)]∧Own G (L) W) ?_ ?_ hS
  ·
   rintro a W ⟨x122,x123,x124,h,hF,hO⟩
   exact none_no h
  ·
   clear hS
   rintro n184 a W ⟨x122,x123,x124,h,hF,hO⟩
   rw [swagelaw10_ParseJoins.l0] at h
   refine TC.use ?_ hF hO
   clear hF hO
   refine TC.seq ?_
   refine TC.seq ?_
   obtain ⟨j278,hj278,h⟩:=jn_no h
   refine TC.tail (fun a W=>∃ (x277:Bool),j278 x277=some o183∧Fr 67 a [(0,.slice A1 a0.length c2),(3,.bool y5),(4,.string x122),(5,VI x123),(6,VI x124),(17,.bool x277)]∧Own G (L) W) ?_ ?_
   ·
    rintro a W ⟨x277,h,hF,hO⟩
    rw [hj278] at h
    refine TQ.use ?_ hF hO
    clear hF hO
    refine TQ.then_ ?_
    refine TC.cond_b rfl h (fun hc280 h=>?_) (fun hc280 h=>?_)
    ·
     refine TC.skip ?_
     refine TQ.then_ ?_
     refine TC.seq ?_
     refine TC.block ?_
     refine TC.seq ?_
     refine TC.region ?_
     refine TV rfl rfl rfl (Val.move rfl) ?_
     refine TV rfl rfl rfl (Val.move rfl) ?_
     obtain ⟨y304,hx305,h⟩:=bind_no h
     obtain ⟨ad306,cs312,hA307,hi308,hj309,hcl310,hK311⟩:=Rd.at hr3 hx305
     obtain ⟨A313,c314,rfl,hr315,hl316⟩:=k24_openR hK311
     refine TV rfl rfl rfl (Val.indexAddr Try.underlying22 fsz24 rfl hA307 rfl hi308 hj309) ?_
     refine TV rfl rfl rfl (Val.loadsS (cs:=[VI y304.f0,.string y304.f1,VI y304.f2,.slice A313 y304.f3.length c314]) agg24 fsz24 rfl rfl (Cl.sub (off:=0) (n:=4) hcl310 rfl)) ?_
     obtain ⟨y317,hy318,h⟩:=bind_no h
     refine TL.cons (TL.callV (Lin:=[]) (args:=[.agg #[VI y304.f0,.string y304.f1,VI y304.f2,.slice A313 y304.f3.length c314]]) rfl rfl rfl hbd8 rfl rfl (swagelaw10_Few.calls (a0:=y304) hr315 hl316 hy318) rfl ?_)
     rintro _ _ _ _ ⟨rfl,rfl,rfl⟩
     refine TV rfl rfl rfl (Val.assign rfl) ?_
     refine TL.nil ?_
     refine TQ.then_ ?_
     refine TC.seq ?_
     refine TC.seq ?_
     refine TC.region ?_
     refine TV rfl rfl rfl (Val.move rfl) ?_
     refine TV rfl rfl rfl (Val.not_ rfl) ?_
     refine TL.nil ?_
     refine TQ.then_ ?_
     refine TC.cond_b rfl h (fun hc320 h=>?_) (fun hc320 h=>?_)
     ·
      refine TC.seq ?_
      refine TC.region ?_
      refine TV rfl rfl rfl (Val.move rfl) ?_
      refine TV rfl rfl rfl (Val.assign rfl) ?_
      refine TL.nil ?_
      refine TQ.then_ ?_
      refine TC.ret ?_
      refine TQ.thenR ?_
      refine TQ.inBR ?_
      refine TQ.thenR ?_
      refine TQ.thenR ?_
      refine TQ.inBR ?_
      refine TQ.thenR ?_
      refine TQ.thenR ?_
      obtain rfl:=Option.some.inj h
      have h:=ko183
      obtain rfl:=Option.some.inj h
      exact TQ.fin (.inl rfl) rfl Try.results6 (.tmp rfl .nil) rfl (FRel.mk (Ls:=[]) [] 0 (Gd.le.refl _) rfl rfl rfl ⟨rfl,rfl,rfl⟩)
     ·
      refine TC.skip ?_
      refine TQ.then_ ?_
      refine TC.seq ?_
      refine TC.region ?_
      refine TV rfl rfl rfl (Val.move rfl) ?_
      refine TV rfl rfl rfl (Val.move rfl) ?_
      refine TV rfl rfl rfl (Val.move rfl) ?_
      refine TV rfl rfl rfl (Val.indexAddr Try.underlying22 fsz24 rfl hA307 rfl hi308 hj309) ?_
      refine TV rfl rfl rfl (Val.loadsS (cs:=[VI y304.f0,.string y304.f1,VI y304.f2,.slice A313 y304.f3.length c314]) agg24 fsz24 rfl rfl (Cl.sub (off:=0) (n:=4) hcl310 rfl)) ?_
      obtain ⟨y321,hy322,h⟩:=bind_no h
      refine TL.cons (TL.callV (Lin:=[]) (args:=[.agg #[VI y304.f0,.string y304.f1,VI y304.f2,.slice A313 y304.f3.length c314]]) rfl rfl rfl hbd9 rfl rfl (parse_Text.calls (a0:=y304) hr315 hl316 hy322) rfl ?_)
      rintro _ _ _ _ ⟨rfl,rfl,rfl⟩
      obtain ⟨hz323,h⟩:=ite_no h
      refine TV rfl rfl rfl (Val.addS rfl rfl hz323) ?_
      obtain ⟨hz324,h⟩:=ite_no h
      refine TV rfl rfl rfl (Val.addS rfl rfl hz324) ?_
      refine TV rfl rfl rfl (Val.assign rfl) ?_
      refine TL.nil ?_
      refine TQ.then_ ?_
      refine TC.region ?_
      refine TV rfl rfl rfl (Val.move rfl) ?_
      refine TV rfl rfl rfl (Val.move rfl) ?_
      refine TV rfl rfl rfl (Val.move rfl) ?_
      refine TV rfl rfl rfl (Val.indexAddr Try.underlying22 fsz24 rfl hA307 rfl hi308 hj309) ?_
      refine TV rfl rfl rfl (Val.loadsS (cs:=[VI y304.f0,.string y304.f1,VI y304.f2,.slice A313 y304.f3.length c314]) agg24 fsz24 rfl rfl (Cl.sub (off:=0) (n:=4) hcl310 rfl)) ?_
      obtain ⟨y325,hy326,h⟩:=bind_no h
      refine TL.cons (TL.callV (Lin:=[]) (args:=[.agg #[VI y304.f0,.string y304.f1,VI y304.f2,.slice A313 y304.f3.length c314]]) rfl rfl rfl hbd11 rfl rfl (parse_Size.calls (a0:=y304) hr315 hl316 hy326) rfl ?_)
      rintro _ _ _ _ ⟨rfl,rfl,rfl⟩
      refine TV rfl rfl rfl (Val.cmp rfl rfl run_add) ?_
      refine TV rfl rfl rfl (Val.assign rfl) ?_
      refine TL.nil ?_
      refine TQ.inB ?_
      refine TQ.then_ ?_
      refine TC.region ?_
      refine TV rfl rfl rfl (Val.move rfl) ?_
      refine TV rfl rfl rfl (Val.cmp rfl rfl run_add) ?_
      refine TV rfl rfl rfl (Val.assign rfl) ?_
      refine TL.nil ?_
      exact fun a W hF hO=>⟨(cat (cat x122 y321) (⟨#[10]⟩:ByteArray)),IntKind.i64.wrap (x123 + y325),IntKind.i64.wrap (x124 + 1),h,hF.sub ⟨rfl,rfl,rfl,rfl,rfl,trivial⟩,hO.selT (Ls:=[]) [] 0 rfl rfl rfl⟩
    ·
     refine TC.exit ?_
     refine TQ.thenX ?_
     refine TQ.thenX ?_
     refine TQ.inBX ?_
     exact fun a W hF hO=>⟨x122,x123,Option.some.inj h,hF.sub ⟨rfl,rfl,rfl,rfl,trivial⟩,hO.selT (Ls:=[]) [] 0 rfl rfl rfl⟩
   ·
    refine TC.region ?_
    refine TV rfl rfl rfl (Val.move rfl) ?_
    refine TV rfl rfl rfl (Val.move rfl) ?_
    refine TV rfl rfl rfl (Val.len Try.underlying22 rfl) ?_
    refine TV rfl rfl rfl (Val.cmp rfl rfl run_lss) ?_
    refine TV rfl rfl rfl (Val.move rfl) ?_
    refine TK.split (p:=x124 < (a0.length:Int)) h (fun hg327 h=>?_) (fun hg327 h=>?_)
    ·
     have hk328:decide (x124 < (a0.length:Int))=true:=decide_eq_true hg327
     refine TV (Wt.yes rfl rfl rfl hk328) rfl rfl (Val.move rfl) ?_
     refine TV (Wt.yes rfl rfl rfl hk328) rfl rfl (Val.cmp rfl rfl run_lss) ?_
     refine TV rfl rfl rfl (Val.pickY rfl hk328 rfl) ?_
     refine TL.nil ?_
     exact fun a W hF hO=>⟨decide (x124 < 20),h,hF.sub ⟨rfl,rfl,rfl,rfl,rfl,rfl,trivial⟩,hO.selT (Ls:=[]) [] 0 rfl rfl rfl⟩
    ·
     have hk329:decide (x124 < (a0.length:Int))=false:=decide_eq_false hg327
     refine TL.cons (TL.not (Wt.no rfl rfl rfl hk329) rfl ?_)
     refine TL.cons (TL.not (Wt.no rfl rfl rfl hk329) rfl ?_)
     refine TV rfl rfl rfl (Val.pickN rfl hk329 rfl) ?_
     refine TL.nil ?_
     exact fun a W hF hO=>⟨false,h,hF.sub ⟨rfl,rfl,rfl,rfl,rfl,rfl,trivial⟩,hO.selT (Ls:=[]) [] 0 rfl rfl rfl⟩
end Go.Proofs.Ythlhmoocgjddpaa.Sy
set_option linter.unusedVariables false
set_option linter.unusedSimpArgs false
namespace Go.Proofs.Ythlhmoocgjddpaa.Sy
open Go Go.RowKit Go.Proofs.YthlhmoocgjddpaaW.PrintWords Go.Proofs.Ythlhmoocgjddpaa.SyO
theorem dp_of : ∀ (k : Nat) (x : S24), dep x ≤ k → cnt x ≤ 400 → Dp (k + 400) x := by
  intro k
  induction k with
  | zero => intro x h _; have := dep_eq x; omega
  | succ k ih =>
    intro x h hc
    have h1 := dep_eq x
    have h2 := cnt_eq x
    have h3 := cntL_len x.f3
    have e : k + 1 + 400 = (k + 400) + 1 := by omega
    rw [e]
    exact ⟨by omega, fun y hy => ih y (by have := depL_mem hy; omega) (by have := cntL_mem hy; omega)⟩
theorem cs_of : ∀ (k n : Nat) (x : S24), upW WF24 n x → cs k x + 1 ≤ cnt x * 1048700 := by
  intro k
  induction k with
  | zero => intro n x _; have := cnt_eq x; simp only [cs]; omega
  | succ k ih =>
    intro n x h
    cases n with
    | zero => exact h.elim
    | succ n =>
      obtain ⟨_, h1, _, _, h2⟩ := h
      have hs : ∀ ks : List S24, (∀ y ∈ ks, upW WF24 n y) → sm (cs k) ks + ks.length ≤ cntL ks * 1048700 := by
        intro ks
        induction ks with
        | nil => intro _; simp [sm, cntL]
        | cons y r ih2 =>
          intro h
          have a := ih n y (h y List.mem_cons_self)
          have b := ih2 (fun z hz => h z (List.mem_cons_of_mem _ hz))
          have e : sm (cs k) (y :: r) = cs k y + sm (cs k) r := by simp [sm]
          simp only [cntL, List.length_cons, e]
          omega
      have h3 := hs x.f3 h2
      have h4 := cnt_eq x
      simp only [cs]
      omega
theorem size_all : ∀ (n : Nat), n ≤ 1000000 → ∀ (x : S24), Dp n x → ∃ k, ∀ m, n ≤ m → parse_Size.fix m x = some k := by
  intro n
  induction n with
  | zero => intro _ x h; exact h.elim
  | succ n ih =>
    intro hn x h
    refine ⟨IntKind.i64.wrap (1 + (x.f3.map fun y => (parse_Size.fix n y).getD 0).sum), fun m hm => ?_⟩
    obtain ⟨m, rfl⟩ : ∃ j, m = j + 1 := ⟨m - 1, by omega⟩
    refine size_g (v := fun y => (parse_Size.fix n y).getD 0) (fun y hy => ?_) (by have := h.1; omega)
    obtain ⟨k, hk⟩ := ih (by omega) y (h.2 y hy)
    rw [hk m (by omega), hk n (by omega)]; rfl
attribute [local irreducible] cs pt
structure Few1 (y : S24) : Prop where
  ok : ok24 y
  c : cnt y ≤ 400
  d : dep y ≤ 61
theorem Few1.dp {y : S24} (h : Few1 y) : Dp 500 y := (dp_of 61 y h.d h.c).mono (by omega)
theorem few_cs {y : S24} (h : Few1 y) : cs 500 y + 1 ≤ 419480000 := by
  obtain ⟨n, hn⟩ := h.ok
  have h1 := cs_of 500 n y hn
  have h2 := Nat.mul_le_mul_right 1048700 h.c
  exact Nat.le_trans h1 (Nat.le_trans h2 (by decide))
theorem Few1.text {y : S24} (h : Few1 y) : ∀ n, 2001 ≤ n → (parse_Text.fix n).1 y = some (jb (pt 500 y)) := fun n hn => (text_fix 500 y h.dp (by have := few_cs h; unfold MX; omega)).2 n (by omega)
theorem Few1.size {y : S24} (h : Few1 y) : parse_Size.f y = some (sz y) := by
  obtain ⟨k, hk⟩ := size_all 500 (by omega) y h.dp
  have : sz y = k := by unfold sz; rw [hk 99999 (by omega)]; rfl
  rw [this]; exact hk 100000 (by omega)
theorem sm_few {ks : List S24} (h : ∀ y ∈ ks, Few1 y) : sm (cs 500) ks ≤ ks.length * 419480000 := by
  induction ks with
  | nil => simp [sm]
  | cons y r ih =>
    have a := few_cs (h y List.mem_cons_self)
    have b := ih (fun z hz => h z (List.mem_cons_of_mem _ hz))
    have e : sm (cs 500) (y :: r) = cs 500 y + sm (cs 500) r := by simp [sm]
    rw [e, List.length_cons]; omega
def tx (y : S24) : ByteArray := jb (pt 500 y)
theorem joins_loop {l : List S24} : ∀ (ys : List S24) (n i : Nat) (acc : ByteArray) (a : Int), l.drop i = ys → ys.length < n → (∀ y ∈ ys, ok24 y) → i ≤ 20 → acc.size ≤ i * 500000000 →
    ∃ r, swagelaw10_ParseJoins.l0 l true n acc (IntKind.i64.wrap a) i = some r ∧ (r = .inl true ∨ (20 < l.length ∧ ∃ q, r = .inr q) ∨
      (l.length ≤ 20 ∧ (∀ y ∈ ys, Few1 y) ∧ r = .inr (cat acc (pg (ys.map tx)), IntKind.i64.wrap (a + (ys.map sz).sum)))) := by
  intro ys
  induction ys with
  | nil =>
    intro n i acc a hd hn _ hi hs
    obtain ⟨n, rfl⟩ : ∃ m, n = m + 1 := ⟨n - 1, by simp at hn; omega⟩
    have h1 := (drop_cases hd).1 rfl
    rw [swagelaw10_ParseJoins.l0]
    dsimp only [jn]
    rw [if_neg h1, if_neg (by simp)]
    refine ⟨_, rfl, .inr (.inr ⟨by omega, (fun y hy => by cases hy), ?_⟩)⟩
    simp [cat, pg]
  | cons y ys ih =>
    intro n i acc a hd hn hok hi hs
    obtain ⟨n, rfl⟩ : ∃ m, n = m + 1 := ⟨n - 1, by simp at hn; omega⟩
    obtain ⟨h1, h2, h3⟩ := (drop_cases hd).2 y ys rfl
    rw [swagelaw10_ParseJoins.l0]
    dsimp only [jn]
    rw [if_pos h1]
    by_cases hi20 : (i : Int) < 20
    · rw [if_pos (decide_eq_true hi20), h2, Option.bind_some]
      obtain ⟨b, hb1, hb2⟩ := few_f y
      rw [hb1, Option.bind_some]
      cases b
      · exact ⟨_, rfl, .inl rfl⟩
      · obtain ⟨hc, hdp⟩ := hb2 rfl
        have F : Few1 y := ⟨hok y List.mem_cons_self, hc, hdp⟩
        have t1 : parse_Text.f y = some (tx y) := F.text 100000 (by omega)
        have t2 := jb_size (pt 500 y)
        have t3 := pt_size 500 y
        have t4 := few_cs F
        have t5 : (tx y).size ≤ 419480000 := by unfold tx; omega
        have cz : ∀ a b : ByteArray, (cat a b).size = a.size + b.size := fun a b => by rw [cat, bsz, List.length_append, bsd, bsd]
        have e3 : (⟨#[10]⟩ : ByteArray).size = 1 := rfl
        have e1 : IntKind.i64.wrap ((i : Int) + 1) = ((i + 1 : Nat) : Int) := by rw [wt (by omega) (by omega)]; omega
        have e2 : IntKind.i64.wrap (IntKind.i64.wrap a + sz y) = IntKind.i64.wrap (a + sz y) := by
          rw [IntKind.wrap_i64, IntKind.wrap_i64, IntKind.wrap_i64]; omega
        rw [if_neg (by simp), t1, Option.bind_some, if_pos (by omega), if_pos (by rw [cz]; omega), F.size, Option.bind_some, e1, e2]
        obtain ⟨r, r1, r2⟩ := ih n (i + 1) (cat (cat acc (tx y)) ⟨#[10]⟩) (a + sz y) h3 (by simp at hn; omega) (fun z hz => hok z (List.mem_cons_of_mem _ hz)) (by omega) (by rw [cz, cz]; omega)
        refine ⟨r, r1, ?_⟩
        rcases r2 with h | h | ⟨q1, q2, q3⟩
        · exact .inl h
        · exact .inr (.inl h)
        · refine .inr (.inr ⟨q1, fun z hz => ?_, ?_⟩)
          · rcases List.mem_cons.1 hz with h | h
            · rw [h]; exact F
            · exact q2 z h
          · rw [q3]
            congr 1
            congr 1
            · simp [cat, pg]
            · simp only [List.map_cons, List.sum_cons]; congr 1; omega
    · rw [if_neg (by simp; omega)]
      exact ⟨_, rfl, .inr (.inl ⟨by omega, _, rfl⟩)⟩
theorem parseJoins_law (l : List S24) (h0 : l.length * 56 ≤ 140737488351232 ∧ ∀ y ∈ l, ok24 y) : swagelaw10_ParseJoins.f l = some true := by
  unfold swagelaw10_ParseJoins.f
  rw [small10, Option.bind_some]
  obtain ⟨r, r1, r2⟩ := joins_loop (l := l) l (l.length + 1) 0 ⟨#[]⟩ 1 rfl (by omega) h0.2 (by omega) (Nat.le_refl 0)
  rw [show IntKind.i64.wrap 1 = 1 from wt (by omega) (by omega), show ((0 : Nat) : Int) = 0 from rfl] at r1
  rw [r1, Option.bind_some]
  rcases r2 with rfl | ⟨h20, q, rfl⟩ | ⟨h20, F, rfl⟩
  · rfl
  · dsimp only
    rw [if_pos (by omega)]
  · dsimp only
    rw [if_neg (by omega), if_pos rfl]
    have hs := sm_few F
    have T : parse_Text.f ⟨1, ⟨#[]⟩, 0, l⟩ = some (pg (l.map tx)) :=
      prog_g (p := pt 500) (c := cs 500) (x := ⟨1, ⟨#[]⟩, 0, l⟩) (r1 := (parse_Text.fix 99999).1) (r2 := (parse_Text.fix 99999).2.1) (r3 := (parse_Text.fix 99999).2.2.1) (r4 := (parse_Text.fix 99999).2.2.2.1) (r5 := (parse_Text.fix 99999).2.2.2.2.1) (r6 := (parse_Text.fix 99999).2.2.2.2.2.1) (r7 := (parse_Text.fix 99999).2.2.2.2.2.2.1) (r8 := (parse_Text.fix 99999).2.2.2.2.2.2.2)
        rfl (fun y hy => ⟨pt_size 500 y, (F y hy).text 99999 (by omega)⟩) (by show sm (cs 500) l + l.length ≤ MX; unfold MX; omega)
    have S : parse_Size.f ⟨1, ⟨#[]⟩, 0, l⟩ = some (IntKind.i64.wrap (1 + (l.map sz).sum)) := size_f ⟨by omega, fun y hy => (F y hy).dp.mono (by omega)⟩
    have M : parse_Same.f ⟨1, ⟨#[]⟩, 0, l⟩ ⟨1, ⟨#[]⟩, 0, l⟩ = some true := by
      have := same_g (rec := parse_Same.fix 99999) (t := ⟨1, ⟨#[]⟩, 0, l⟩) (u := ⟨1, ⟨#[]⟩, 0, l⟩) (by show l.length ≤ 1000; omega) (fun x hx y => same_fix 99999 x y (by have := (F x hx).d; omega) (by have := (F x hx).c; omega))
      rw [same_refl] at this
      exact this
    rw [T, Option.bind_some]
    have hT : (pg (l.map tx)).data.toList = (cat ⟨#[]⟩ (pg (l.map tx))).data.toList := by simp [cat]
    rw [if_pos (by rw [← hT]; simp), S, Option.bind_some, if_pos rfl, M]
    rfl
end Go.Proofs.Ythlhmoocgjddpaa.Sy
