/- Reading lists by whole numbers: stores, appends, ranges. Plain lemmas. No condition. -/
import Derived.Test.YtmdndoghdbhipaaAbM2
set_option linter.unusedVariables false
set_option linter.unusedSimpArgs false
set_option linter.unusedSectionVars false
namespace Go.Ab
open Go
section
variable {α : Type} (d : α)
theorem getD_set {l : List α} {i j : Nat} {v : α} (h : i < l.length) : (l.set i v).getD j d = if j = i then v else l.getD j d := by
  simp only [List.getD_eq_getElem?_getD, List.getElem?_set]
  by_cases hj : j = i
  · subst hj; simp [h]
  · rw [if_neg (Ne.symm hj), if_neg hj]
theorem getD_snoc {l : List α} {j : Nat} {v : α} (h : j ≤ l.length) : (l ++ [v]).getD j d = if j = l.length then v else l.getD j d := by
  simp only [List.getD_eq_getElem?_getD]
  by_cases hj : j = l.length
  · subst hj; simp
  · rw [List.getElem?_append_left (by omega), if_neg hj]
theorem getD_rep {n j : Nat} {v : α} (h : j < n) : (List.replicate n v).getD j d = v := by
  simp [List.getD_eq_getElem?_getD, List.getElem?_replicate, h]
theorem getD_map {n j : Nat} {f : Nat → α} (h : j < n) : ((List.range n).map f).getD j d = f j := by
  simp [List.getD_eq_getElem?_getD, h]
theorem getD_ext {l m : List α} (hl : l.length = m.length) (h : ∀ j, j < l.length → l.getD j d = m.getD j d) : l = m := by
  refine List.ext_getElem hl fun j h1 h2 => ?_
  have := h j h1
  simpa [List.getD_eq_getElem?_getD, h1, h2] using this
end
theorem rd_set {l : List Int} {i j v : Int} (h0 : 0 ≤ i) (h1 : i < (l.length : Int)) (hj : 0 ≤ j) : rd (l.set i.toNat v) j = if j = i then v else rd l j := by
  show (l.set i.toNat v).getD j.toNat 0 = _
  rw [getD_set 0 (by omega)]
  by_cases h : j = i
  · rw [if_pos h, if_pos (by omega)]
  · rw [if_neg h, if_neg (by omega)]; rfl
theorem rd_snoc {l : List Int} {j v : Int} (hj : 0 ≤ j) (h : j ≤ (l.length : Int)) : rd (l ++ [v]) j = if j = (l.length : Int) then v else rd l j := by
  show (l ++ [v]).getD j.toNat 0 = _
  rw [getD_snoc 0 (by omega)]
  by_cases h : j = (l.length : Int)
  · rw [if_pos h, if_pos (by omega)]
  · rw [if_neg h, if_neg (by omega)]; rfl
theorem rd_rep {n : Nat} {j v : Int} (hj : 0 ≤ j) (h : j < (n : Int)) : rd (List.replicate n v) j = v := getD_rep 0 (by omega)
theorem rd_map {n : Nat} {j : Int} {f : Nat → Int} (hj : 0 ≤ j) (h : j < (n : Int)) : rd ((List.range n).map f) j = f j.toNat := getD_map 0 (by omega)
theorem rd_ext {l m : List Int} (hl : l.length = m.length) (h : ∀ j : Int, 0 ≤ j → j < (l.length : Int) → rd l j = rd m j) : l = m :=
  getD_ext 0 hl fun j hj => by have := h j (by omega) (by omega); simpa [rd] using this
theorem R_set {l : List (List Int)} {i j : Int} {v : List Int} (h0 : 0 ≤ i) (h1 : i < (l.length : Int)) (hj : 0 ≤ j) : R (l.set i.toNat v) j = if j = i then v else R l j := by
  show (l.set i.toNat v).getD j.toNat [] = _
  rw [getD_set [] (by omega)]
  by_cases h : j = i
  · rw [if_pos h, if_pos (by omega)]
  · rw [if_neg h, if_neg (by omega)]; rfl
theorem R_snoc {l : List (List Int)} {j : Int} {v : List Int} (hj : 0 ≤ j) (h : j ≤ (l.length : Int)) : R (l ++ [v]) j = if j = (l.length : Int) then v else R l j := by
  show (l ++ [v]).getD j.toNat [] = _
  rw [getD_snoc [] (by omega)]
  by_cases h : j = (l.length : Int)
  · rw [if_pos h, if_pos (by omega)]
  · rw [if_neg h, if_neg (by omega)]; rfl
theorem R_rep {n : Nat} {j : Int} {v : List Int} (hj : 0 ≤ j) (h : j < (n : Int)) : R (List.replicate n v) j = v := getD_rep [] (by omega)
theorem R_map {n : Nat} {j : Int} {f : Nat → List Int} (hj : 0 ≤ j) (h : j < (n : Int)) : R ((List.range n).map f) j = f j.toNat := getD_map [] (by omega)
theorem R_ext {l m : List (List Int)} (hl : l.length = m.length) (h : ∀ j : Int, 0 ≤ j → j < (l.length : Int) → R l j = R m j) : l = m :=
  getD_ext [] hl fun j hj => by have := h j (by omega) (by omega); simpa [R] using this
theorem rb_set {l : List Bool} {i j : Int} {v : Bool} (h0 : 0 ≤ i) (h1 : i < (l.length : Int)) (hj : 0 ≤ j) : rdOf false (l.set i.toNat v) j = if j = i then v else rdOf false l j := by
  show (l.set i.toNat v).getD j.toNat false = _
  rw [getD_set false (by omega)]
  by_cases h : j = i
  · rw [if_pos h, if_pos (by omega)]
  · rw [if_neg h, if_neg (by omega)]; rfl
theorem rb_rep {n : Nat} {j : Int} {v : Bool} (hj : 0 ≤ j) (h : j < (n : Int)) : rdOf false (List.replicate n v) j = v := getD_rep false (by omega)
theorem rb_ext {l m : List Bool} (hl : l.length = m.length) (h : ∀ j : Int, 0 ≤ j → j < (l.length : Int) → rdOf false l j = rdOf false m j) : l = m :=
  getD_ext false hl fun j hj => by have := h j (by omega) (by omega); simpa [rdOf] using this
/-- Two tables of one shape and with the same entries are the same. -/
theorem M_ext {l m : List (List Int)} (hl : l.length = m.length) (hr : ∀ x : Int, 0 ≤ x → x < (l.length : Int) → (R l x).length = (R m x).length)
    (h : ∀ x y : Int, 0 ≤ x → x < (l.length : Int) → 0 ≤ y → y < ((R l x).length : Int) → M l x y = M m x y) : l = m :=
  R_ext hl fun x h0 h1 => rd_ext (hr x h0 h1) fun y h2 h3 => h x y h0 h1 h2 h3
end Go.Ab
