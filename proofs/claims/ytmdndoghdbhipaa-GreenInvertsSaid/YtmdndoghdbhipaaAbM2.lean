/- First, those that; special elements. Plain lemmas. No condition. -/
import Derived.Test.YtmdndoghdbhipaaAbM1
set_option linter.unusedVariables false
set_option linter.unusedSimpArgs false
set_option linter.unusedSectionVars false
namespace Go.Ab
open Go
open Classical
section
variable {α ρ : Type} {r : ρ}
/-- The first i below n with P, or -1. -/
noncomputable def first (n : Nat) (P : Int → Prop) : Int := (fnd (fun e => if P e then some e else none) 0 n).elim (-1) id
theorem first_spec {n : Nat} {P : Int → Prop} : (first n P = -1 ∧ ∀ i : Int, 0 ≤ i → i < n → ¬ P i) ∨ (0 ≤ first n P ∧ first n P < n ∧ P (first n P) ∧ ∀ i, 0 ≤ i → i < first n P → ¬ P i) := by
  unfold first
  cases e : fnd (fun e => if P e then some e else none) 0 n with
  | none =>
    left
    refine ⟨rfl, fun i h0 h1 hp => ?_⟩
    have := fnd_none.1 e i h0 (by omega)
    simp [hp] at this
  | some a =>
    right
    obtain ⟨j, h0, h1, h2, h3⟩ := fnd_some e
    by_cases hp : P j
    · simp [hp] at h2
      subst h2
      refine ⟨h0, by simpa using h1, hp, fun i i0 i1 hi => ?_⟩
      have := h3 i i0 i1
      simp [hi] at this
    · simp [hp] at h2
theorem first_congr {n : Nat} {P Q : Int → Prop} (h : ∀ i : Int, 0 ≤ i → i < n → (P i ↔ Q i)) : first n P = first n Q := by
  unfold first
  rw [fnd_congr (f' := fun e => if Q e then some e else none)]
  intro j h0 h1
  simp only [h j h0 (by omega)]
theorem first_eq {n : Nat} {P : Int → Prop} {e : Int} (h0 : 0 ≤ e) (h1 : e < n) (hp : P e) (hf : ∀ i, 0 ≤ i → i < e → ¬ P i) : first n P = e := by
  rcases first_spec (n := n) (P := P) with ⟨_, h⟩ | ⟨a, b, c, d⟩
  · exact absurd hp (h e h0 h1)
  · have : ¬ first n P < e := fun hlt => hf _ a hlt c
    have : ¬ e < first n P := fun hlt => d e h0 hlt hp
    omega
theorem first_no {n : Nat} {P : Int → Prop} (h : ∀ i : Int, 0 ≤ i → i < n → ¬ P i) : first n P = -1 := by
  rcases first_spec (n := n) (P := P) with ⟨h, _⟩ | ⟨a, b, c, d⟩
  · exact h
  · exact absurd c (h _ a b)
/-- Those of i, i + 1, .., m of them, that are P. -/
noncomputable def sel (P : Int → Prop) : Int → Nat → List Int
  | _, 0 => []
  | i, m + 1 => if P i then i :: sel P (i + 1) m else sel P (i + 1) m
theorem sel_mem {P : Int → Prop} {i x : Int} {m : Nat} : x ∈ sel P i m ↔ i ≤ x ∧ x < i + m ∧ P x := by
  induction m generalizing i with
  | zero => simp [sel]; omega
  | succ m ih =>
    unfold sel
    split
    · rename_i hp
      rw [List.mem_cons, ih]
      constructor
      · rintro (h | ⟨a, b, c⟩)
        · subst h; exact ⟨by omega, by omega, hp⟩
        · exact ⟨by omega, by omega, c⟩
      · rintro ⟨a, b, c⟩
        by_cases h : x = i
        · exact .inl h
        · exact .inr ⟨by omega, by omega, c⟩
    · rename_i hp
      rw [ih]
      constructor
      · rintro ⟨a, b, c⟩
        exact ⟨by omega, by omega, c⟩
      · rintro ⟨a, b, c⟩
        by_cases h : x = i
        · subst h; exact absurd c hp
        · exact ⟨by omega, by omega, c⟩
theorem sel_len {P : Int → Prop} {i : Int} {m : Nat} : (sel P i m).length ≤ m := by
  induction m generalizing i with
  | zero => simp [sel]
  | succ m ih =>
    unfold sel
    have := ih (i := i + 1)
    split <;> simp <;> omega
theorem sel_congr {P Q : Int → Prop} {i : Int} {m : Nat} (h : ∀ j, i ≤ j → j < i + m → (P j ↔ Q j)) : sel P i m = sel Q i m := by
  induction m generalizing i with
  | zero => rfl
  | succ m ih =>
    unfold sel
    rw [ih (fun j a b => h j (by omega) (by omega))]
    by_cases hp : P i
    · rw [if_pos hp, if_pos ((h i (by omega) (by omega)).1 hp)]
    · rw [if_neg hp, if_neg (fun hq => hp ((h i (by omega) (by omega)).2 hq))]
theorem sel_full {P : Int → Prop} {i : Int} {m : Nat} : (sel P i m).length = m ↔ ∀ j, i ≤ j → j < i + m → P j := by
  induction m generalizing i with
  | zero => simp [sel]; intro j a b; omega
  | succ m ih =>
    unfold sel
    have hl := sel_len (P := P) (i := i + 1) (m := m)
    split
    · rename_i hp
      rw [List.length_cons]
      constructor
      · intro h j a b
        by_cases hj : j = i
        · rw [hj]; exact hp
        · exact (ih (i := i + 1)).1 (by omega) j (by omega) (by omega)
      · intro h
        have := (ih (i := i + 1)).2 (fun j a b => h j (by omega) (by omega))
        omega
    · rename_i hp
      constructor
      · intro h; omega
      · intro h; exact absurd (h i (by omega) (by omega)) hp
end

/-! ### Special elements -/
def IsId (t : List (List Int)) (e : Int) : Prop := ∀ x, 0 ≤ x → x < (t.length : Int) → M t e x = x ∧ M t x e = x
def IsZero (t : List (List Int)) (e : Int) : Prop := ∀ x, 0 ≤ x → x < (t.length : Int) → M t e x = e ∧ M t x e = e
noncomputable def idn (t : List (List Int)) : Int := first t.length (IsId t)
noncomputable def zer (t : List (List Int)) : Int := first t.length (IsZero t)
noncomputable def idem (t : List (List Int)) : List Int := sel (fun x => M t x x = x) 0 t.length
/-- All are elements. -/
def El (t : List (List Int)) (l : List Int) : Prop := ∀ x ∈ l, 0 ≤ x ∧ x < (t.length : Int)
theorem rd_all {l : List Int} {P : Int → Prop} : (∀ x ∈ l, P x) ↔ ∀ i, 0 ≤ i → i < (l.length : Int) → P (rd l i) := by
  constructor
  · intro h i h0 h1
    exact h _ (rd_mem h0 h1)
  · intro h x hx
    obtain ⟨i, hi, rfl⟩ := List.getElem_of_mem hx
    have := h i (by omega) (by omega)
    unfold rd at this
    rw [List.getD_eq_getElem?_getD] at this
    simpa [hi] using this

theorem ev_first {A : Type} {Q : A → AH → Prop} {g : Int → Qn A} (n : Nat) (P : Int → Prop) (h2 : ∀ i : Int, 0 ≤ i → i < n → ¬ P i → Ev (g (i + 1)) Q → Ev (g i) Q) (h1 : ∀ i : Int, 0 ≤ i → i < n → P i → first n P = i → Ev (g i) Q) (he : first n P = -1 → Ev (g n) Q) : Ev (g 0) Q := by
  refine ev_for0 (g := g) n (fun i => ∀ j : Int, 0 ≤ j → j < i → ¬ P j) (fun i h0 h1' hi => ?_) (fun hi => he (first_no fun i h0 h1' => hi i h0 h1')) 0 (by omega) (by omega) (fun j a b => by omega)
  by_cases hp : P i
  · exact .inl (h1 i h0 h1' hp (first_eq h0 h1' hp hi))
  · refine .inr ⟨fun j j0 j1 => ?_, h2 i h0 h1' hp⟩
    by_cases hj : j = i
    · rw [hj]; exact hp
    · exact hi j j0 (by omega)
end Go.Ab
