/- Rees matrix semigroups: which are valid, how many elements. Plain lemmas. No condition. -/
import Derived.Test.YtmdndoghdbhipaaAbM7
set_option linter.unusedVariables false
set_option linter.unusedSimpArgs false
set_option linter.unusedSectionVars false
namespace Go.Ab
open Go
open Classical

def zz (Z : Bool) : Int := if Z = true then 1 else 0
theorem zz_cases (Z : Bool) : zz Z = 0 ∧ Z = false ∨ zz Z = 1 ∧ Z = true := by cases Z <;> simp [zz]
def rsize (G : List (List Int)) (m k : Int) (Z : Bool) : Int := if m > 400 then 401 else if k > 400 then 401 else m * k * (G.length : Int) + zz Z
/-- Of the right shape. -/
structure RSh (G : List (List Int)) (m k : Int) (P : List (List Int)) (Z : Bool) : Prop where
  grp : Grp G
  m1 : 1 ≤ m
  k1 : 1 ≤ k
  len : (P.length : Int) = k
  row : ∀ l : Int, 0 ≤ l → l < (P.length : Int) → ((R P l).length : Int) = m
  ent : ∀ l i : Int, 0 ≤ l → l < (P.length : Int) → 0 ≤ i → i < ((R P l).length : Int) → -1 ≤ M P l i ∧ M P l i < (G.length : Int) ∧ (M P l i < 0 → Z = true)
/-- What Validate answers. -/
noncomputable def rval (G : List (List Int)) (m k : Int) (P : List (List Int)) (Z : Bool) : Int := if RSh G m k P Z then (if rsize G m k Z > 400 then 3 else 0) else 4
/-- Valid. -/
structure RVa (G : List (List Int)) (m k : Int) (P : List (List Int)) (Z : Bool) : Prop extends RSh G m k P Z where
  m4 : m ≤ 400
  k4 : k ≤ 400
  sz : m * k * (G.length : Int) + zz Z ≤ 400
theorem rval_rv {G : List (List Int)} {m k : Int} {P : List (List Int)} {Z : Bool} : rval G m k P Z = 0 ↔ RVa G m k P Z := by
  unfold rval rsize
  constructor
  · intro h
    split at h
    · rename_i h1
      by_cases hm : m > 400
      · rw [if_pos hm, if_pos (by omega)] at h; omega
      by_cases hk : k > 400
      · rw [if_neg hm, if_pos hk, if_pos (by omega)] at h; omega
      rw [if_neg hm, if_neg hk] at h
      split at h
      · omega
      · exact ⟨h1, by omega, by omega, by omega⟩
    · omega
  · intro h
    rw [if_pos h.toRSh, if_neg]
    rw [if_neg (by have := h.m4; omega), if_neg (by have := h.k4; omega)]
    have := h.sz
    omega
theorem prod_bounds {a b c : Int} (ha0 : 1 ≤ a) (ha : a ≤ 400) (hb0 : 1 ≤ b) (hb : b ≤ 400) (hc0 : 1 ≤ c) (hc : c ≤ 400) : 1 ≤ a * b ∧ a * b ≤ 160000 ∧ 1 ≤ a * b * c ∧ a * b * c ≤ 64000000 := by
  have h1 : 1 * 1 ≤ a * b := Int.mul_le_mul ha0 hb0 (by omega) (by omega)
  have h2 : a * b ≤ 400 * 400 := Int.mul_le_mul ha hb (by omega) (by omega)
  have h3 : 1 * 1 ≤ a * b * c := Int.mul_le_mul (by omega) hc0 (by omega) (by omega)
  have h4 : a * b * c ≤ 160000 * 400 := Int.mul_le_mul (by omega) hc (by omega) (by omega)
  omega
/-- A row of P that is wrong. -/
def RBad (G : List (List Int)) (m : Int) (P : List (List Int)) (Z : Bool) (l : Int) : Prop := ((R P l).length : Int) ≠ m ∨ ∃ i : Int, 0 ≤ i ∧ i < ((R P l).length : Int) ∧ (M P l i < -1 ∨ (G.length : Int) ≤ M P l i ∨ (M P l i < 0 ∧ Z = false))
theorem rsh_of {G : List (List Int)} {m k : Int} {P : List (List Int)} {Z : Bool} (hg : Grp G) (m1 : 1 ≤ m) (k1 : 1 ≤ k) (hl : (P.length : Int) = k) : (∀ l : Int, 0 ≤ l → l < (P.length : Int) → ¬ RBad G m P Z l) ↔ RSh G m k P Z := by
  constructor
  · intro h
    refine ⟨hg, m1, k1, hl, fun l a b => Classical.byContradiction fun hn => h l a b (.inl hn), fun l i a b c d => ?_⟩
    have hn : ¬ (M P l i < -1 ∨ (G.length : Int) ≤ M P l i ∨ (M P l i < 0 ∧ Z = false)) := fun hx => h l a b (.inr ⟨i, c, d, hx⟩)
    refine ⟨Classical.byContradiction fun hx => hn (.inl (by omega)), Classical.byContradiction fun hx => hn (.inr (.inl (by omega))), fun hx => ?_⟩
    cases hZ : Z with
    | true => rfl
    | false => exact absurd (.inr (.inr ⟨hx, hZ⟩)) hn
  · rintro h l a b (hx | ⟨i, c, d, hx⟩)
    · exact hx (h.row l a b)
    · have := h.ent l i a b c d
      rcases hx with hx | hx | hx
      · omega
      · omega
      · have := this.2.2 hx.1
        rw [hx.2] at this
        cases this
/-- The test of the reference. -/
theorem ref_limit {m k g most : Int} (m1 : 1 ≤ m) (k1 : 1 ≤ k) (g1 : 1 ≤ g) (h0 : 0 ≤ most) : (m > most / g ∨ m * g > most / k) ↔ most < m * k * g := by
  have e : m * k * g = m * g * k := by rw [Int.mul_assoc, Int.mul_comm k g, ← Int.mul_assoc]
  have h1 : m > most / g ↔ most < m * g := Int.ediv_lt_iff_lt_mul (by omega)
  have h2 : m * g > most / k ↔ most < m * g * k := Int.ediv_lt_iff_lt_mul (by omega)
  rw [h1, h2, e]
  have h3 : m * g * 1 ≤ m * g * k := Int.mul_le_mul_of_nonneg_left k1 (Int.mul_nonneg (by omega) (by omega))
  omega
open Classical

/-- The product in a Rees matrix semigroup. -/
def rmul (G : List (List Int)) (k : Int) (P : List (List Int)) (Z : Bool) (x y : Int) : Int :=
  if Z = true ∧ (x = 0 ∨ y = 0) then 0 else
  if M P ((x - zz Z) % k) ((y - zz Z) / k / (G.length : Int)) < 0 then 0 else
  ((x - zz Z) / k / (G.length : Int) * (G.length : Int) + M G (M G ((x - zz Z) / k % (G.length : Int)) (M P ((x - zz Z) % k) ((y - zz Z) / k / (G.length : Int)))) ((y - zz Z) / k % (G.length : Int))) * k + (y - zz Z) % k + zz Z

theorem zz_one {Z : Bool} (h : zz Z = 1) : Z = true := by cases Z <;> simp_all [zz]
theorem RVa.ord {G : List (List Int)} {m k : Int} : m * k * (G.length : Int) = m * (G.length : Int) * k := by rw [Int.mul_assoc, Int.mul_comm k, ← Int.mul_assoc]
theorem RVa.dec {G : List (List Int)} {m k : Int} {P : List (List Int)} {Z : Bool} (h : RVa G m k P Z) {u : Int} (u0 : 0 ≤ u) (u1 : u < m * k * (G.length : Int)) :
    0 ≤ u / k ∧ u / k ≤ u ∧ 0 ≤ u / k / (G.length : Int) ∧ u / k / (G.length : Int) < m ∧ 0 ≤ u / k % (G.length : Int) ∧ u / k % (G.length : Int) < (G.length : Int) ∧ 0 ≤ u % k ∧ u % k < k := by
  have hk := h.k1
  have hg := h.grp.pos
  rw [RVa.ord] at u1
  obtain ⟨a, b, c, d, _⟩ := pair_of u0 u1 (by omega)
  obtain ⟨e, f, i, j, _⟩ := pair_of a b hg
  exact ⟨a, Int.ediv_le_self k u0, e, f, i, j, c, d⟩
theorem RVa.enc {G : List (List Int)} {m k : Int} {P : List (List Int)} {Z : Bool} (h : RVa G m k P Z) {i a l : Int} (i0 : 0 ≤ i) (i1 : i < m) (a0 : 0 ≤ a) (a1 : a < (G.length : Int)) (l0 : 0 ≤ l) (l1 : l < k) :
    0 ≤ i * (G.length : Int) ∧ 0 ≤ (i * (G.length : Int) + a) * k ∧ i * (G.length : Int) + a ≤ (i * (G.length : Int) + a) * k ∧ (i * (G.length : Int) + a) * k + l < m * k * (G.length : Int) := by
  have hk := h.k1
  obtain ⟨a, b⟩ := pair_lt i0 i1 a0 a1
  obtain ⟨c, d⟩ := pair_lt a b l0 l1
  rw [RVa.ord]
  refine ⟨Int.mul_nonneg i0 (by omega), Int.mul_nonneg a (by omega), ?_, d⟩
  have := Int.mul_le_mul_of_nonneg_left hk a
  omega
theorem RVa.dec_enc {G : List (List Int)} {m k : Int} {P : List (List Int)} {Z : Bool} (h : RVa G m k P Z) {i a l : Int} (a0 : 0 ≤ a) (a1 : a < (G.length : Int)) (l0 : 0 ≤ l) (l1 : l < k) :
    ((i * (G.length : Int) + a) * k + l) / k / (G.length : Int) = i ∧ ((i * (G.length : Int) + a) * k + l) / k % (G.length : Int) = a ∧ ((i * (G.length : Int) + a) * k + l) % k = l := by
  obtain ⟨e, f⟩ := pair_div (a := i * (G.length : Int) + a) l0 l1
  obtain ⟨c, d⟩ := pair_div (a := i) a0 a1
  rw [e]
  exact ⟨c, d, f⟩
theorem RVa.P_in {G : List (List Int)} {m k : Int} {P : List (List Int)} {Z : Bool} (h : RVa G m k P Z) {l i : Int} (l0 : 0 ≤ l) (l1 : l < k) (i0 : 0 ≤ i) (i1 : i < m) : l < (P.length : Int) ∧ i < ((R P l).length : Int) ∧ -1 ≤ M P l i ∧ M P l i < (G.length : Int) ∧ (M P l i < 0 → Z = true) := by
  have hl := h.len
  have hr := h.row l l0 (by omega)
  have he := h.ent l i l0 (by omega) i0 (by omega)
  exact ⟨by omega, by omega, he⟩
/-- What Number answers. -/
def rnum (G : List (List Int)) (m k : Int) (Z : Bool) (i a l : Int) : Int := if 0 ≤ i ∧ i < m ∧ 0 ≤ a ∧ a < (G.length : Int) ∧ 0 ≤ l ∧ l < k then (i * (G.length : Int) + a) * k + l + zz Z else -1
theorem rmul_nz {G : List (List Int)} {k : Int} {P : List (List Int)} {Z : Bool} {x y : Int} (x0 : zz Z ≤ x) (y0 : zz Z ≤ y) : ¬ (Z = true ∧ (x = 0 ∨ y = 0)) := by
  rintro ⟨a, b⟩
  have : zz Z = 1 := by simp [zz, a]
  omega
section
variable {G : List (List Int)} {m k : Int} {P : List (List Int)} {Z : Bool}
/-- The table of a Rees matrix semigroup. -/
def rtab (G : List (List Int)) (m k : Int) (P : List (List Int)) (Z : Bool) : List (List Int) := tab (m * k * (G.length : Int) + zz Z).toNat (rmul G k P Z)
/-- What Mul answers of a valid one. -/
def rmulc (G : List (List Int)) (m k : Int) (P : List (List Int)) (Z : Bool) (x y : Int) : Int := if 0 ≤ x ∧ x < m * k * (G.length : Int) + zz Z ∧ 0 ≤ y ∧ y < m * k * (G.length : Int) + zz Z then rmul G k P Z x y else -1
end
end Go.Ab
