/- Groups: inverses. Plain lemmas. No condition. -/
import Derived.Test.YtmdndoghdbhipaaAbM6
set_option linter.unusedVariables false
set_option linter.unusedSimpArgs false
set_option linter.unusedSectionVars false
namespace Go.Ab
open Go
open Classical

/-- y is an inverse of x. -/
def InvP (t : List (List Int)) (x y : Int) : Prop := M t x y = idn t ∧ M t y x = idn t
noncomputable def invOf (t : List (List Int)) (x : Int) : Int := first t.length (InvP t x)
/-- The table of a group. -/
structure Grp (t : List (List Int)) : Prop extends Va t where
  id0 : 0 ≤ idn t
  inv : ∀ x : Int, 0 ≤ x → x < (t.length : Int) → ∃ y : Int, 0 ≤ y ∧ y < (t.length : Int) ∧ InvP t x y
theorem idn_cases (t : List (List Int)) : (idn t = -1 ∧ ∀ e : Int, 0 ≤ e → e < (t.length : Int) → ¬ IsId t e) ∨ (0 ≤ idn t ∧ idn t < (t.length : Int) ∧ IsId t (idn t)) := by
  rcases first_spec (n := t.length) (P := IsId t) with h | ⟨a, b, c, _⟩
  · exact .inl h
  · exact .inr ⟨a, b, c⟩
theorem idn_is {t : List (List Int)} (h : 0 ≤ idn t) : idn t < (t.length : Int) ∧ IsId t (idn t) := by
  rcases idn_cases t with ⟨a, _⟩ | ⟨_, b, c⟩
  · omega
  · exact ⟨b, c⟩
theorem inv_unique {t : List (List Int)} (hv : Va t) (hi : 0 ≤ idn t) {x y z : Int} (x0 : 0 ≤ x) (x1 : x < (t.length : Int)) (y0 : 0 ≤ y) (y1 : y < (t.length : Int)) (z0 : 0 ≤ z) (z1 : z < (t.length : Int)) (hy : InvP t x y) (hz : InvP t x z) : y = z := by
  obtain ⟨i1, hid⟩ := idn_is hi
  have h := hv.asc y x z y0 y1 x0 x1 z0 z1
  rw [hy.2, hz.1, (hid z z0 z1).1, (hid y y0 y1).2] at h
  exact h.symm
theorem invOf_eq {t : List (List Int)} (hv : Va t) (hi : 0 ≤ idn t) {x y : Int} (x0 : 0 ≤ x) (x1 : x < (t.length : Int)) (y0 : 0 ≤ y) (y1 : y < (t.length : Int)) (hy : InvP t x y) : invOf t x = y :=
  first_eq y0 y1 hy (fun z z0 z1 hz => by have := inv_unique hv hi x0 x1 z0 (by omega) y0 y1 hz hy; omega)
theorem Grp.invOf {t : List (List Int)} (hg : Grp t) {x : Int} (x0 : 0 ≤ x) (x1 : x < (t.length : Int)) : 0 ≤ invOf t x ∧ invOf t x < (t.length : Int) ∧ InvP t x (invOf t x) := by
  obtain ⟨y, y0, y1, hy⟩ := hg.inv x x0 x1
  rw [invOf_eq hg.toVa hg.id0 x0 x1 y0 y1 hy]
  exact ⟨y0, y1, hy⟩
noncomputable def invs (t : List (List Int)) : List Int := (List.range t.length).map fun x : Nat => invOf t x
end Go.Ab
