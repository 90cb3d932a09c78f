/- Tables made by loops: a rule for filling, opposite, adjoined identity, direct product. Plain lemmas. No condition. -/
import Derived.Test.YtnoickhdbinciaaKReesValidatesLists
namespace Go.Proofs.Ytnoickhdbinciaa.B
open Go.RowKit Go.Proofs.YtnoickhdbinciaaW.PrintWords
set_option linter.unusedVariables false
set_option linter.unusedSimpArgs false
/-- The table of f. -/
def tab (n : Nat) (f : Int → Int → Int) : List (List Int) := (List.range n).map fun x : Nat => (List.range n).map fun y : Nat => f x y
theorem tab_len (n : Nat) (f : Int → Int → Int) : (tab n f).length = n := by simp [tab]
theorem tab_R {n : Nat} {f : Int → Int → Int} {x : Int} (h0 : 0 ≤ x) (h1 : x < n) : R (tab n f) x = (List.range n).map fun y : Nat => f x y := by
  unfold tab
  rw [R_map h0 h1, show ((x.toNat : Nat) : Int) = x by omega]
theorem tab_row {n : Nat} {f : Int → Int → Int} {x : Int} (h0 : 0 ≤ x) (h1 : x < n) : (R (tab n f) x).length = n := by rw [tab_R h0 h1]; simp
theorem tab_M {n : Nat} {f : Int → Int → Int} {x y : Int} (h0 : 0 ≤ x) (h1 : x < n) (h2 : 0 ≤ y) (h3 : y < n) : M (tab n f) x y = f x y := by
  show rd (R (tab n f) x) y = _
  rw [tab_R h0 h1, rd_map h2 h3, show ((y.toNat : Nat) : Int) = y by omega]
theorem tab_eq {n : Nat} {f : Int → Int → Int} {t : List (List Int)} (hl : t.length = n) (hr : ∀ x : Int, 0 ≤ x → x < n → (R t x).length = n) (h : ∀ x y : Int, 0 ≤ x → x < n → 0 ≤ y → y < n → M t x y = f x y) : t = tab n f := by
  refine M_ext (by rw [tab_len, hl]) (fun x h0 h1 => ?_) (fun x y h0 h1 h2 h3 => ?_)
  · rw [hr x h0 (by omega), tab_row h0 (by omega)]
  · have := hr x h0 (by omega)
    rw [h x y h0 (by omega) h2 (by omega), tab_M h0 (by omega) h2 (by omega)]
theorem Sq.tab {t : List (List Int)} (hs : Sq t) : t = tab t.length (M t) := 
  tab_eq rfl (fun x a b => by have := hs.row x a b; omega) (fun _ _ _ _ _ _ => rfl)

section
variable {ρ : Type} {r : ρ}
end

/-! ### Opposite, adjoined identity, direct product -/
def opp (t : List (List Int)) : List (List Int) := tab t.length fun x y => M t y x
def adj (t : List (List Int)) : List (List Int) := tab (t.length + 1) fun x y => if x = (t.length : Int) then y else if y = (t.length : Int) then x else M t x y
def dir (t u : List (List Int)) : List (List Int) := tab (t.length * u.length) fun x y => M t (x / (u.length : Int)) (y / (u.length : Int)) * (u.length : Int) + M u (x % (u.length : Int)) (y % (u.length : Int))
theorem pair_lt {a b n k : Int} (ha0 : 0 ≤ a) (ha : a < n) (h0 : 0 ≤ b) (h1 : b < k) : 0 ≤ a * k + b ∧ a * k + b < n * k := by
  have h2 : 0 ≤ a * k := Int.mul_nonneg ha0 (by omega)
  have h3 : (a + 1) * k ≤ n * k := Int.mul_le_mul_of_nonneg_right (by omega) (by omega)
  rw [Int.add_mul] at h3
  omega
end Go.Proofs.Ytnoickhdbinciaa.B
