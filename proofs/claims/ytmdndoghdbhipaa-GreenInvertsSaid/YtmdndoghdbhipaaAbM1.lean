/- Tables of elements: shape, associativity, validity. Plain lemmas. No condition. -/
import Derived.Test.YtmdndoghdbhipaaAbAE
set_option linter.unusedVariables false
set_option linter.unusedSimpArgs false
set_option linter.unusedSectionVars false
namespace Go.Ab
open Go
/-- Entry i of a list. -/
def rd (l : List Int) (i : Int) : Int := l.getD i.toNat 0
def rdOf {α : Type} (d : α) (l : List α) (i : Int) : α := l.getD i.toNat d
/-! ### Tables -/
/-- Row x. -/
def R (t : List (List Int)) (x : Int) : List Int := t.getD x.toNat []
/-- The product of x and y. -/
def M (t : List (List Int)) (x y : Int) : Int := rd (R t x) y

/-- A table as it comes in. -/
abbrev In2 (t : List (List Int)) : Prop := t.length ≤ 9223372036854775807 ∧ ∀ v ∈ t, v.length ≤ 9223372036854775807 ∧ ∀ u ∈ v, (Lit.int .i64 u).wf = true
abbrev In1 (l : List Int) : Prop := l.length ≤ 9223372036854775807 ∧ ∀ v ∈ l, (Lit.int .i64 v).wf = true

theorem R_mem {t : List (List Int)} {x : Int} (h0 : 0 ≤ x) (h1 : x < (t.length : Int)) : R t x ∈ t := by
  unfold R
  rw [List.getD_eq_getElem?_getD, List.getElem?_eq_getElem (by omega), Option.getD_some]
  exact List.getElem_mem _
theorem rd_mem {l : List Int} {x : Int} (h0 : 0 ≤ x) (h1 : x < (l.length : Int)) : rd l x ∈ l := by
  unfold rd
  rw [List.getD_eq_getElem?_getD, List.getElem?_eq_getElem (by omega), Option.getD_some]
  exact List.getElem_mem _
theorem In2.row {t : List (List Int)} (h : In2 t) {x : Int} (h0 : 0 ≤ x) (h1 : x < (t.length : Int)) : (R t x).length ≤ 9223372036854775807 := (h.2 _ (R_mem h0 h1)).1

/-- Square, with elements alone. -/
structure Sq (t : List (List Int)) : Prop where
  pos : 0 < (t.length : Int)
  le : (t.length : Int) ≤ 400
  row : ∀ x, 0 ≤ x → x < (t.length : Int) → ((R t x).length : Int) = (t.length : Int)
  lo : ∀ x y, 0 ≤ x → x < (t.length : Int) → 0 ≤ y → y < (t.length : Int) → 0 ≤ M t x y
  hi : ∀ x y, 0 ≤ x → x < (t.length : Int) → 0 ≤ y → y < (t.length : Int) → M t x y < (t.length : Int)

/-- What Shape answers. -/
def Bad (t : List (List Int)) : Prop := ∃ x, 0 ≤ x ∧ x < (t.length : Int) ∧ (((R t x).length : Int) ≠ (t.length : Int) ∨ ∃ y, 0 ≤ y ∧ y < ((R t x).length : Int) ∧ (M t x y < 0 ∨ (t.length : Int) ≤ M t x y))
open Classical in
noncomputable def shp (t : List (List Int)) : Int := if (t.length : Int) > 400 then 3 else if (t.length : Int) = 0 then 4 else if Bad t then 4 else 0
theorem shp_sq {t : List (List Int)} : shp t = 0 ↔ Sq t := by
  unfold shp
  constructor
  · intro h
    split at h
    · omega
    split at h
    · omega
    split at h
    · omega
    rename_i h1 h2 h3
    have hr : ∀ x, 0 ≤ x → x < (t.length : Int) → ((R t x).length : Int) = (t.length : Int) := fun x h0 hx => Classical.byContradiction fun hn => h3 ⟨x, h0, hx, .inl hn⟩
    refine ⟨by omega, by omega, hr, fun x y a b c d => ?_, fun x y a b c d => ?_⟩
    · have := hr x a b
      exact Classical.byContradiction fun hn => h3 ⟨x, a, b, .inr ⟨y, c, by omega, .inl (by omega)⟩⟩
    · have := hr x a b
      exact Classical.byContradiction fun hn => h3 ⟨x, a, b, .inr ⟨y, c, by omega, .inr (by omega)⟩⟩
  · intro h
    have := h.pos
    have := h.le
    rw [if_neg (by omega), if_neg (by omega), if_neg]
    rintro ⟨x, h0, h1, hb | ⟨y, h2, h3, hb⟩⟩
    · exact hb (h.row x h0 h1)
    · have := h.row x h0 h1
      have := h.lo x y h0 h1 h2 (by omega)
      have := h.hi x y h0 h1 h2 (by omega)
      omega
theorem shp_cases (t : List (List Int)) : shp t = 0 ∨ shp t = 3 ∨ shp t = 4 := by
  unfold shp
  split
  · exact .inr (.inl rfl)
  split
  · exact .inr (.inr rfl)
  split
  · exact .inr (.inr rfl)
  · exact .inl rfl
/-- Associative, as far as elements go. -/
def Asc (t : List (List Int)) : Prop := ∀ x y z, 0 ≤ x → x < (t.length : Int) → 0 ≤ y → y < (t.length : Int) → 0 ≤ z → z < (t.length : Int) → M t (M t x y) z = M t x (M t y z)
/-- The least triple that is not associative. -/
def tri (t : List (List Int)) : Option (Int × Int × Int) :=
  fnd (fun x => fnd (fun y => fnd (fun z => if M t (M t x y) z = M t x (M t y z) then none else some (x, y, z)) 0 t.length) 0 t.length) 0 t.length
theorem tri_none {t : List (List Int)} : tri t = none ↔ Asc t := by
  unfold tri Asc
  simp only [fnd_none]
  constructor
  · intro h x y z a b c d e f
    have := h x a (by omega) y c (by omega) z e (by omega)
    split at this
    · assumption
    · cases this
  · intro h x a b y c d z e f
    rw [if_pos (h x y z a (by omega) c (by omega) e (by omega))]
/-- What Validate answers. -/
noncomputable def val (t : List (List Int)) : Int := if shp t = 0 then (if tri t = none then 0 else 5) else shp t
/-- Valid. -/
structure Va (t : List (List Int)) : Prop extends Sq t where
  asc : Asc t
theorem val_va {t : List (List Int)} : val t = 0 ↔ Va t := by
  unfold val
  constructor
  · intro h
    split at h
    · rename_i h1
      split at h
      · rename_i h2
        exact ⟨shp_sq.1 h1, tri_none.1 h2⟩
      · omega
    · rename_i h1
      exact absurd h h1
  · intro h
    rw [if_pos (shp_sq.2 h.toSq), if_pos (tri_none.2 h.asc)]
end Go.Ab
