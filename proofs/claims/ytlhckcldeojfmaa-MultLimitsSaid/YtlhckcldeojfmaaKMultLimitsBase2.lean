/- Rules for loops: all, first, those that; what they tell. Plain lemmas. No condition. -/
import Derived.Test.YtlhckcldeojfmaaKMultLimitsBase
namespace Go.Proofs.Ytlhckcldeojfmaa.B
open Go.RowKit Go.Proofs.YtlhckcldeojfmaaW.PrintWords
set_option linter.unusedVariables false
set_option linter.unusedSimpArgs false
open Classical
section
variable {α ρ : Type} {r : ρ}
/-- The first i below n with P, or -1. -/
noncomputable def first (n : Nat) (P : Int → Prop) : Int := (fnd (fun e => if P e then some e else none) 0 n).elim (-1) id
/-- Those of i, i + 1, .., m of them, that are P. -/
noncomputable def sel (P : Int → Prop) : Int → Nat → List Int
  | _, 0 => []
  | i, m + 1 => if P i then i :: sel P (i + 1) m else sel P (i + 1) m
end

/-! ### Special elements -/
def IsId (t : List (List Int)) (e : Int) : Prop := ∀ x, 0 ≤ x → x < (t.length : Int) → M t e x = x ∧ M t x e = x
def IsZero (t : List (List Int)) (e : Int) : Prop := ∀ x, 0 ≤ x → x < (t.length : Int) → M t e x = e ∧ M t x e = e
noncomputable def idn (t : List (List Int)) : Int := first t.length (IsId t)
noncomputable def zer (t : List (List Int)) : Int := first t.length (IsZero t)
noncomputable def idem (t : List (List Int)) : List Int := sel (fun x => M t x x = x) 0 t.length
/-- All are elements. -/
def El (t : List (List Int)) (l : List Int) : Prop := ∀ x ∈ l, 0 ≤ x ∧ x < (t.length : Int)
theorem rd_all {l : List Int} {P : Int → Prop} : (∀ x ∈ l, P x) ↔ ∀ i, 0 ≤ i → i < (l.length : Int) → P (rd l i) := by
  constructor
  · intro h i h0 h1
    exact h _ (rd_mem h0 h1)
  · intro h x hx
    obtain ⟨i, hi, rfl⟩ := List.getElem_of_mem hx
    have := h i (by omega) (by omega)
    unfold rd at this
    rw [List.getD_eq_getElem?_getD] at this
    simpa [hi] using this
end Go.Proofs.Ytlhckcldeojfmaa.B
