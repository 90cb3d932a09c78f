/- Lists that grow from the front to the back. Plain lemmas. No condition. -/
import Derived.Test.YtmdndoghdbhipaaAbM9
set_option linter.unusedVariables false
set_option linter.unusedSimpArgs false
set_option linter.unusedSectionVars false
namespace Go.Ab
open Go
theorem range_snoc {α : Type} (f : Nat → α) {i : Int} (h0 : 0 ≤ i) : (List.range i.toNat).map f ++ [f i.toNat] = (List.range (i + 1).toNat).map f := by
  rw [show (i + 1).toNat = i.toNat + 1 by omega, List.range_succ]; simp
open Classical in
theorem sel_succ {P : Int → Prop} {i : Int} {m : Nat} : sel P i (m + 1) = if P i then i :: sel P (i + 1) m else sel P (i + 1) m := by conv => lhs; unfold sel
theorem sel_app {P : Int → Prop} {i : Int} {m n : Nat} : sel P i (m + n) = sel P i m ++ sel P (i + m) n := by
  induction m generalizing i with
  | zero => simp [sel]
  | succ m ih =>
    rw [show m + 1 + n = (m + n) + 1 by omega, sel_succ, sel_succ, ih, show i + 1 + (m : Int) = i + ((m + 1 : Nat) : Int) by omega]
    split
    · rfl
    · rfl
theorem sel_snoc {P : Int → Prop} {i : Int} (h0 : 0 ≤ i) (hp : P i) : sel P 0 i.toNat ++ [i] = sel P 0 (i + 1).toNat := by
  rw [show (i + 1).toNat = i.toNat + 1 by omega, sel_app, sel_succ, show 0 + ((i.toNat : Nat) : Int) = i by omega, if_pos hp]; rfl
theorem sel_skip {P : Int → Prop} {i : Int} (h0 : 0 ≤ i) (hp : ¬ P i) : sel P 0 i.toNat = sel P 0 (i + 1).toNat := by
  rw [show (i + 1).toNat = i.toNat + 1 by omega, sel_app, sel_succ, show 0 + ((i.toNat : Nat) : Int) = i by omega, if_neg hp]; simp [sel]
theorem rdOf_set {α : Type} (d : α) {l : List α} {i j : Int} {v : α} (h0 : 0 ≤ i) (h1 : i < (l.length : Int)) (hj : 0 ≤ j) : rdOf d (l.set i.toNat v) j = if j = i then v else rdOf d l j := by
  show (l.set i.toNat v).getD j.toNat d = _
  rw [getD_set d (by omega)]
  by_cases h : j = i
  · rw [if_pos h, if_pos (by omega)]
  · rw [if_neg h, if_neg (by omega)]; rfl
theorem rdOf_rep {α : Type} (d : α) {n : Nat} {j : Int} {v : α} (hj : 0 ≤ j) (h : j < (n : Int)) : rdOf d (List.replicate n v) j = v := getD_rep d (by omega)
theorem rdOf_map {α : Type} (d : α) {n : Nat} {j : Int} {f : Nat → α} (hj : 0 ≤ j) (h : j < (n : Int)) : rdOf d ((List.range n).map f) j = f j.toNat := getD_map d (by omega)
theorem rdOf_ext {α : Type} (d : α) {l m : List α} (hl : l.length = m.length) (h : ∀ j : Int, 0 ≤ j → j < (l.length : Int) → rdOf d l j = rdOf d m j) : l = m :=
  getD_ext d hl fun j hj => by have := h j (by omega) (by omega); simpa [rdOf] using this
end Go.Ab
