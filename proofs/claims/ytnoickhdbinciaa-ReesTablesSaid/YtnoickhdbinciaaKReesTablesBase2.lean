/- Rules for loops: all, first, those that; what they tell. Plain lemmas. No condition. -/
import Derived.Test.YtnoickhdbinciaaKReesTablesBase
namespace Go.Proofs.Ytnoickhdbinciaa.B
open Go.RowKit Go.Proofs.YtnoickhdbinciaaW.PrintWords
set_option linter.unusedVariables false
set_option linter.unusedSimpArgs false
open Classical
section
variable {α ρ : Type} {r : ρ}
/-- 'ok := true; for i .. { ok = ok && P i }'. -/
theorem ev_all {g : Int → Bool → Nat → Option ρ} (n : Int) (P : Int → Prop) (hn : 0 ≤ n)
    (h1 : ∀ i : Int, 0 ≤ i → i < n → Ev (g (i + 1) false) r → Ev (g i false) r)
    (h2 : ∀ i : Int, 0 ≤ i → i < n → P i → Ev (g (i + 1) true) r → Ev (g i true) r)
    (h3 : ∀ i : Int, 0 ≤ i → i < n → ¬ P i → Ev (g (i + 1) false) r → Ev (g i true) r)
    (e1 : (∀ i : Int, 0 ≤ i → i < n → P i) → Ev (g n true) r) (e2 : (∃ i, 0 ≤ i ∧ i < n ∧ ¬ P i) → Ev (g n false) r) : Ev (g 0 true) r := by
  refine ev_for n (fun i a => (a = true → ∀ j, 0 ≤ j → j < i → P j) ∧ (a = false → ∃ j, 0 ≤ j ∧ j < i ∧ ¬ P j)) ?_ ?_ 0 true (Int.le_refl _) hn ⟨fun _ j a b => by omega, fun h => by cases h⟩
  · intro i a hi0 hi1 ⟨ha, hb⟩
    right
    cases a with
    | false =>
      obtain ⟨j, j0, j1, hj⟩ := hb rfl
      exact ⟨false, ⟨(fun h => by cases h), fun _ => ⟨j, j0, by omega, hj⟩⟩, h1 i hi0 hi1⟩
    | true =>
      by_cases hp : P i
      · refine ⟨true, ⟨fun _ j j0 j1 => ?_, fun h => by cases h⟩, h2 i hi0 hi1 hp⟩
        by_cases hji : j = i
        · rw [hji]; exact hp
        · exact ha rfl j j0 (by omega)
      · exact ⟨false, ⟨(fun h => by cases h), fun _ => ⟨i, hi0, by omega, hp⟩⟩, h3 i hi0 hi1 hp⟩
  · intro a ⟨ha, hb⟩
    cases a with
    | true => exact e1 (ha rfl)
    | false => exact e2 (hb rfl)

/-- The first i below n with P, or -1. -/
noncomputable def first (n : Nat) (P : Int → Prop) : Int := (fnd (fun e => if P e then some e else none) 0 n).elim (-1) id
theorem first_spec {n : Nat} {P : Int → Prop} : (first n P = -1 ∧ ∀ i : Int, 0 ≤ i → i < n → ¬ P i) ∨ (0 ≤ first n P ∧ first n P < n ∧ P (first n P) ∧ ∀ i, 0 ≤ i → i < first n P → ¬ P i) := by
  unfold first
  cases e : fnd (fun e => if P e then some e else none) 0 n with
  | none =>
    left
    refine ⟨rfl, fun i h0 h1 hp => ?_⟩
    have := fnd_none.1 e i h0 (by omega)
    simp [hp] at this
  | some a =>
    right
    obtain ⟨j, h0, h1, h2, h3⟩ := fnd_some e
    by_cases hp : P j
    · simp [hp] at h2
      subst h2
      refine ⟨h0, by simpa using h1, hp, fun i i0 i1 hi => ?_⟩
      have := h3 i i0 i1
      simp [hi] at this
    · simp [hp] at h2
theorem first_eq {n : Nat} {P : Int → Prop} {e : Int} (h0 : 0 ≤ e) (h1 : e < n) (hp : P e) (hf : ∀ i, 0 ≤ i → i < e → ¬ P i) : first n P = e := by
  rcases first_spec (n := n) (P := P) with ⟨_, h⟩ | ⟨a, b, c, d⟩
  · exact absurd hp (h e h0 h1)
  · have : ¬ first n P < e := fun hlt => hf _ a hlt c
    have : ¬ e < first n P := fun hlt => d e h0 hlt hp
    omega
theorem first_no {n : Nat} {P : Int → Prop} (h : ∀ i : Int, 0 ≤ i → i < n → ¬ P i) : first n P = -1 := by
  rcases first_spec (n := n) (P := P) with ⟨h, _⟩ | ⟨a, b, c, d⟩
  · exact h
  · exact absurd c (h _ a b)
theorem ev_first {g : Int → Nat → Option Int} (n : Nat) (P : Int → Prop) 
    (h1 : ∀ i : Int, 0 ≤ i → i < n → P i → Ev (g i) i) (h2 : ∀ (i : Int) r, 0 ≤ i → i < n → ¬ P i → Ev (g (i + 1)) r → Ev (g i) r) (he : Ev (g n) (-1)) : Ev (g 0) (first n P) := by
  refine ev_fnd (g := g) (f := fun e => if P e then some e else none) (ret := id) (n : Int) ?_ he 0 n (by omega) (by omega)
  intro i r' h0 h1' H
  by_cases hp : P i
  · simp only [if_pos hp]; exact h1 i h0 h1' hp
  · simp only [if_neg hp]; exact h2 i r' h0 h1' hp H

/-- Those of i, i + 1, .., m of them, that are P. -/
noncomputable def sel (P : Int → Prop) : Int → Nat → List Int
  | _, 0 => []
  | i, m + 1 => if P i then i :: sel P (i + 1) m else sel P (i + 1) m
end

/-! ### Special elements -/
def IsId (t : List (List Int)) (e : Int) : Prop := ∀ x, 0 ≤ x → x < (t.length : Int) → M t e x = x ∧ M t x e = x
def IsZero (t : List (List Int)) (e : Int) : Prop := ∀ x, 0 ≤ x → x < (t.length : Int) → M t e x = e ∧ M t x e = e
noncomputable def idn (t : List (List Int)) : Int := first t.length (IsId t)
noncomputable def zer (t : List (List Int)) : Int := first t.length (IsZero t)
noncomputable def idem (t : List (List Int)) : List Int := sel (fun x => M t x x = x) 0 t.length
/-- All are elements. -/
def El (t : List (List Int)) (l : List Int) : Prop := ∀ x ∈ l, 0 ≤ x ∧ x < (t.length : Int)
theorem rd_all {l : List Int} {P : Int → Prop} : (∀ x ∈ l, P x) ↔ ∀ i, 0 ≤ i → i < (l.length : Int) → P (rd l i) := by
  constructor
  · intro h i h0 h1
    exact h _ (rd_mem h0 h1)
  · intro h x hx
    obtain ⟨i, hi, rfl⟩ := List.getElem_of_mem hx
    have := h i (by omega) (by omega)
    unfold rd at this
    rw [List.getD_eq_getElem?_getD] at this
    simpa [hi] using this
end Go.Proofs.Ytnoickhdbinciaa.B
