/- Reading lists by whole numbers: stores, appends, ranges. Plain lemmas. No condition. -/
import Derived.Test.YtlhckcldeojfmaaKMultNeedsBase2
namespace Go.Proofs.Ytlhckcldeojfmaa.B
open Go.RowKit Go.Proofs.YtlhckcldeojfmaaW.PrintWords
set_option linter.unusedVariables false
set_option linter.unusedSimpArgs false
section
variable {α : Type} (d : α)
theorem getD_set {l : List α} {i j : Nat} {v : α} (h : i < l.length) : (l.set i v).getD j d = if j = i then v else l.getD j d := by
  simp only [List.getD_eq_getElem?_getD, List.getElem?_set]
  by_cases hj : j = i
  · subst hj; simp [h]
  · rw [if_neg (Ne.symm hj), if_neg hj]
theorem getD_rep {n j : Nat} {v : α} (h : j < n) : (List.replicate n v).getD j d = v := by
  simp [List.getD_eq_getElem?_getD, List.getElem?_replicate, h]
end
theorem rb_set {l : List Bool} {i j : Int} {v : Bool} (h0 : 0 ≤ i) (h1 : i < (l.length : Int)) (hj : 0 ≤ j) : rdOf false (l.set i.toNat v) j = if j = i then v else rdOf false l j := by
  show (l.set i.toNat v).getD j.toNat false = _
  rw [getD_set false (by omega)]
  by_cases h : j = i
  · rw [if_pos h, if_pos (by omega)]
  · rw [if_neg h, if_neg (by omega)]; rfl
theorem rb_rep {n : Nat} {j : Int} {v : Bool} (hj : 0 ≤ j) (h : j < (n : Int)) : rdOf false (List.replicate n v) j = v := getD_rep false (by omega)
end Go.Proofs.Ytlhckcldeojfmaa.B
