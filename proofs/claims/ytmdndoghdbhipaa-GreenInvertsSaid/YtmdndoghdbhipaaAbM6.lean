/- Tables that are filled: the table of a function. Plain lemmas. No condition. -/
import Derived.Test.YtmdndoghdbhipaaAbM5
set_option linter.unusedVariables false
set_option linter.unusedSimpArgs false
set_option linter.unusedSectionVars false
namespace Go.Ab
open Go
/-- The table of f. -/
def tab (n : Nat) (f : Int → Int → Int) : List (List Int) := (List.range n).map fun x : Nat => (List.range n).map fun y : Nat => f x y
theorem tab_len (n : Nat) (f : Int → Int → Int) : (tab n f).length = n := by simp [tab]
theorem tab_R {n : Nat} {f : Int → Int → Int} {x : Int} (h0 : 0 ≤ x) (h1 : x < n) : R (tab n f) x = (List.range n).map fun y : Nat => f x y := by
  unfold tab
  rw [R_map h0 h1, show ((x.toNat : Nat) : Int) = x by omega]
theorem tab_row {n : Nat} {f : Int → Int → Int} {x : Int} (h0 : 0 ≤ x) (h1 : x < n) : (R (tab n f) x).length = n := by rw [tab_R h0 h1]; simp
theorem tab_M {n : Nat} {f : Int → Int → Int} {x y : Int} (h0 : 0 ≤ x) (h1 : x < n) (h2 : 0 ≤ y) (h3 : y < n) : M (tab n f) x y = f x y := by
  show rd (R (tab n f) x) y = _
  rw [tab_R h0 h1, rd_map h2 h3, show ((y.toNat : Nat) : Int) = y by omega]
theorem tab_eq {n : Nat} {f : Int → Int → Int} {t : List (List Int)} (hl : t.length = n) (hr : ∀ x : Int, 0 ≤ x → x < n → (R t x).length = n) (h : ∀ x y : Int, 0 ≤ x → x < n → 0 ≤ y → y < n → M t x y = f x y) : t = tab n f := by
  refine M_ext (by rw [tab_len, hl]) (fun x h0 h1 => ?_) (fun x y h0 h1 h2 h3 => ?_)
  · rw [hr x h0 (by omega), tab_row h0 (by omega)]
  · have := hr x h0 (by omega)
    rw [h x y h0 (by omega) h2 (by omega), tab_M h0 (by omega) h2 (by omega)]
theorem tab_congr {n : Nat} {f g : Int → Int → Int} (h : ∀ x y : Int, 0 ≤ x → x < n → 0 ≤ y → y < n → f x y = g x y) : tab n f = tab n g :=
  tab_eq (tab_len n f) (fun x h0 h1 => tab_row h0 h1) (fun x y h0 h1 h2 h3 => by rw [tab_M h0 h1 h2 h3, h x y h0 h1 h2 h3])
theorem tab_sq {n : Nat} {f : Int → Int → Int} (h0 : 0 < n) (h1 : n ≤ 400) (h : ∀ x y : Int, 0 ≤ x → x < n → 0 ≤ y → y < n → 0 ≤ f x y ∧ f x y < n) : Sq (tab n f) := by
  have hl := tab_len n f
  refine ⟨by omega, by omega, fun x a b => ?_, fun x y a b c d => ?_, fun x y a b c d => ?_⟩
  · have := tab_row (f := f) a (n := n) (by omega); omega
  · rw [tab_M a (by omega) c (by omega)]; exact (h x y a (by omega) c (by omega)).1
  · rw [tab_M a (by omega) c (by omega)]; have := (h x y a (by omega) c (by omega)).2; omega
theorem Sq.tab {t : List (List Int)} (hs : Sq t) : t = tab t.length (M t) := 
  tab_eq rfl (fun x a b => by have := hs.row x a b; omega) (fun _ _ _ _ _ _ => rfl)

section
variable {ρ : Type} {r : ρ}
end

/-! ### Opposite, adjoined identity, direct product -/
def opp (t : List (List Int)) : List (List Int) := tab t.length fun x y => M t y x
def adj (t : List (List Int)) : List (List Int) := tab (t.length + 1) fun x y => if x = (t.length : Int) then y else if y = (t.length : Int) then x else M t x y
def dir (t u : List (List Int)) : List (List Int) := tab (t.length * u.length) fun x y => M t (x / (u.length : Int)) (y / (u.length : Int)) * (u.length : Int) + M u (x % (u.length : Int)) (y % (u.length : Int))
theorem opp_va {t : List (List Int)} (hv : Va t) : Va (opp t) := by
  have hl := tab_len t.length fun x y => M t y x
  have hpos := hv.pos
  have hle := hv.le
  refine ⟨tab_sq (by omega) (by omega) (fun x y a b c d => ⟨hv.lo y x c d a b, hv.hi y x c d a b⟩), ?_⟩
  intro x y z a b c d e f
  unfold opp at *
  rw [hl] at b d f
  have h1 := hv.lo y x c d a b
  have h2 := hv.hi y x c d a b
  have h3 := hv.lo z y e f c d
  have h4 := hv.hi z y e f c d
  rw [tab_M a b c d, tab_M h1 h2 e f, tab_M c d e f, tab_M a b h3 h4]
  exact (hv.asc z y x e f c d a b).symm
theorem adj_va {t : List (List Int)} (hv : Va t) (hn : (t.length : Int) < 400) : Va (adj t) := by
  have hl := tab_len (t.length + 1) fun x y => if x = (t.length : Int) then y else if y = (t.length : Int) then x else M t x y
  have hpos := hv.pos
  have hin : ∀ x y : Int, 0 ≤ x → x < ((t.length + 1 : Nat) : Int) → 0 ≤ y → y < ((t.length + 1 : Nat) : Int) → 0 ≤ (if x = (t.length : Int) then y else if y = (t.length : Int) then x else M t x y) ∧ (if x = (t.length : Int) then y else if y = (t.length : Int) then x else M t x y) < ((t.length + 1 : Nat) : Int) := by
    intro x y a b c d
    split
    · exact ⟨c, d⟩
    split
    · exact ⟨a, b⟩
    · have h1 := hv.lo x y a (by omega) c (by omega)
      have h2 := hv.hi x y a (by omega) c (by omega)
      omega
  refine ⟨tab_sq (by omega) (by omega) hin, ?_⟩
  intro x y z a b c d e f
  unfold adj at *
  rw [hl] at b d f
  have i1 := hin x y a b c d
  have i2 := hin y z c d e f
  rw [tab_M a b c d, tab_M i1.1 i1.2 e f, tab_M c d e f, tab_M a b i2.1 i2.2]
  by_cases hx : x = (t.length : Int)
  · simp only [if_pos hx]
  · by_cases hy : y = (t.length : Int)
    · simp only [if_neg hx, if_pos hy]
    · by_cases hz : z = (t.length : Int)
      · simp only [if_neg hx, if_neg hy, if_pos hz]
        split <;> simp_all
      · have h1 := hv.lo x y a (by omega) c (by omega)
        have h2 := hv.hi x y a (by omega) c (by omega)
        have h3 := hv.lo y z c (by omega) e (by omega)
        have h4 := hv.hi y z c (by omega) e (by omega)
        simp only [if_neg hx, if_neg hy, if_neg hz]
        rw [if_neg (by omega), if_neg (by omega)]
        exact hv.asc x y z a (by omega) c (by omega) e (by omega)
theorem pair_div {a b k : Int} (h0 : 0 ≤ b) (h1 : b < k) : (a * k + b) / k = a ∧ (a * k + b) % k = b := by
  have hk : k ≠ 0 := by omega
  constructor
  · rw [Int.add_comm, Int.add_mul_ediv_right _ _ hk, Int.ediv_eq_zero_of_lt h0 h1]; omega
  · rw [Int.add_comm, Int.add_mul_emod_self_right]; exact Int.emod_eq_of_lt h0 h1
theorem pair_lt {a b n k : Int} (ha0 : 0 ≤ a) (ha : a < n) (h0 : 0 ≤ b) (h1 : b < k) : 0 ≤ a * k + b ∧ a * k + b < n * k := by
  have h2 : 0 ≤ a * k := Int.mul_nonneg ha0 (by omega)
  have h3 : (a + 1) * k ≤ n * k := Int.mul_le_mul_of_nonneg_right (by omega) (by omega)
  rw [Int.add_mul] at h3
  omega
theorem pair_of {x n k : Int} (h0 : 0 ≤ x) (h1 : x < n * k) (hk : 0 < k) : 0 ≤ x / k ∧ x / k < n ∧ 0 ≤ x % k ∧ x % k < k ∧ x = x / k * k + x % k := by
  refine ⟨Int.ediv_nonneg h0 (by omega), Int.ediv_lt_of_lt_mul hk h1, Int.emod_nonneg _ (by omega), Int.emod_lt_of_pos _ hk, ?_⟩
  have := Int.mul_ediv_add_emod x k
  rw [Int.mul_comm] at this
  omega
theorem dir_in {t u : List (List Int)} (hv : Sq t) (hu : Sq u) {x y : Int} (a : 0 ≤ x) (b : x < ((t.length * u.length : Nat) : Int)) (c : 0 ≤ y) (d : y < ((t.length * u.length : Nat) : Int)) :
    0 ≤ M t (x / (u.length : Int)) (y / (u.length : Int)) * (u.length : Int) + M u (x % (u.length : Int)) (y % (u.length : Int)) ∧ M t (x / (u.length : Int)) (y / (u.length : Int)) * (u.length : Int) + M u (x % (u.length : Int)) (y % (u.length : Int)) < ((t.length * u.length : Nat) : Int) := by
  have hk := hu.pos
  rw [Int.natCast_mul] at *
  obtain ⟨x0, x1, x2, x3, _⟩ := pair_of a b hk
  obtain ⟨y0, y1, y2, y3, _⟩ := pair_of c d hk
  exact pair_lt (hv.lo _ _ x0 x1 y0 y1) (hv.hi _ _ x0 x1 y0 y1) (hu.lo _ _ x2 x3 y2 y3) (hu.hi _ _ x2 x3 y2 y3)
theorem dir_va {t u : List (List Int)} (hv : Va t) (hu : Va u) (hn : t.length * u.length ≤ 400) : Va (dir t u) := by
  have hl := tab_len (t.length * u.length) fun x y => M t (x / (u.length : Int)) (y / (u.length : Int)) * (u.length : Int) + M u (x % (u.length : Int)) (y % (u.length : Int))
  have hk := hu.pos
  have hk' := hv.pos
  have hpos : 0 < t.length * u.length := Nat.mul_pos (by omega) (by omega)
  refine ⟨tab_sq hpos hn (fun x y a b c d => dir_in hv.toSq hu.toSq a b c d), ?_⟩
  intro x y z a b c d e f
  unfold dir at *
  rw [hl] at b d f
  have i1 := dir_in hv.toSq hu.toSq a b c d
  have i2 := dir_in hv.toSq hu.toSq c d e f
  rw [tab_M a b c d, tab_M i1.1 i1.2 e f, tab_M c d e f, tab_M a b i2.1 i2.2]
  rw [Int.natCast_mul] at b d f
  obtain ⟨x0, x1, x2, x3, _⟩ := pair_of a b hk
  obtain ⟨y0, y1, y2, y3, _⟩ := pair_of c d hk
  obtain ⟨z0, z1, z2, z3, _⟩ := pair_of e f hk
  have p1 := pair_div (a := M t (x / (u.length : Int)) (y / (u.length : Int))) (hu.lo _ _ x2 x3 y2 y3) (hu.hi _ _ x2 x3 y2 y3)
  have p2 := pair_div (a := M t (y / (u.length : Int)) (z / (u.length : Int))) (hu.lo _ _ y2 y3 z2 z3) (hu.hi _ _ y2 y3 z2 z3)
  rw [p1.1, p1.2, p2.1, p2.2, hv.asc _ _ _ x0 x1 y0 y1 z0 z1, hu.asc _ _ _ x2 x3 y2 y3 z2 z3]
end Go.Ab
