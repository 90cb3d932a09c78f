/- What the printed functions on Rees matrix semigroups answer: Size, Number, Mul, Table, Regular, of the program and of the reference; the table is that of a semigroup. No condition but that the parts come in. -/
import Derived.Test.YtnoickhdbinciaaKReesValidatesF17b
import Derived.Test.YtnoickhdbinciaaKReesValidatesF14s
import Derived.Test.YtnoickhdbinciaaKReesValidatesP3
namespace Go.Proofs.Ytnoickhdbinciaa.F
open Go.RowKit Go.Proofs.YtnoickhdbinciaaW.PrintWords Go.Proofs.Ytnoickhdbinciaa.B Go.Proofs.Ytnoickhdbinciaa.PAll
set_option linter.unusedVariables false
set_option linter.unusedSimpArgs false
open Classical

/-- The product in a Rees matrix semigroup. -/
def rmul (G : List (List Int)) (k : Int) (P : List (List Int)) (Z : Bool) (x y : Int) : Int :=
  if Z = true ∧ (x = 0 ∨ y = 0) then 0 else
  if M P ((x - zz Z) % k) ((y - zz Z) / k / (G.length : Int)) < 0 then 0 else
  ((x - zz Z) / k / (G.length : Int) * (G.length : Int) + M G (M G ((x - zz Z) / k % (G.length : Int)) (M P ((x - zz Z) % k) ((y - zz Z) / k / (G.length : Int)))) ((y - zz Z) / k % (G.length : Int))) * k + (y - zz Z) % k + zz Z

theorem RV.ord {G : List (List Int)} {m k : Int} : m * k * (G.length : Int) = m * (G.length : Int) * k := by rw [Int.mul_assoc, Int.mul_comm k, ← Int.mul_assoc]
theorem RV.enc {G : List (List Int)} {m k : Int} {P : List (List Int)} {Z : Bool} (h : RV G m k P Z) {i a l : Int} (i0 : 0 ≤ i) (i1 : i < m) (a0 : 0 ≤ a) (a1 : a < (G.length : Int)) (l0 : 0 ≤ l) (l1 : l < k) :
    0 ≤ i * (G.length : Int) ∧ 0 ≤ (i * (G.length : Int) + a) * k ∧ i * (G.length : Int) + a ≤ (i * (G.length : Int) + a) * k ∧ (i * (G.length : Int) + a) * k + l < m * k * (G.length : Int) := by
  have hk := h.k1
  obtain ⟨a, b⟩ := pair_lt i0 i1 a0 a1
  obtain ⟨c, d⟩ := pair_lt a b l0 l1
  rw [RV.ord]
  refine ⟨Int.mul_nonneg i0 (by omega), Int.mul_nonneg a (by omega), ?_, d⟩
  have := Int.mul_le_mul_of_nonneg_left hk a
  omega
/-- What Number answers. -/
def rnum (G : List (List Int)) (m k : Int) (Z : Bool) (i a l : Int) : Int := if 0 ≤ i ∧ i < m ∧ 0 ≤ a ∧ a < (G.length : Int) ∧ 0 ≤ l ∧ l < k then (i * (G.length : Int) + a) * k + l + zz Z else -1
section
variable {G : List (List Int)} {m k : Int} {P : List (List Int)} {Z : Bool}
theorem semigroupref17_Size_ev (h : RV G m k P Z) : semigroupref17_Size.f G m k P Z = some (m * k * (G.length : Int) + zz Z) := by
  have hsz := h.sz
  have hk := h.k1
  have hm := h.m1
  have hg := h.grp.pos
  have hz := zz_cases Z
  have h1 : 0 ≤ m * (G.length : Int) := Int.mul_nonneg (by omega) (by omega)
  have h2 := Int.mul_le_mul_of_nonneg_left hk h1
  unfold semigroupref17_Size.f
  rw [semigroupref17_base_ev]
  rw [RV.ord] at *
  simp only [Option.bind_some]
  rw [wrap_in (i := m * (G.length : Int)) (by omega) (by omega), wrap_in (i := m * (G.length : Int) * k) (by omega) (by omega), wrap_in (by omega) (by omega)]
/-- The table of a Rees matrix semigroup. -/
def rtab (G : List (List Int)) (m k : Int) (P : List (List Int)) (Z : Bool) : List (List Int) := tab (m * k * (G.length : Int) + zz Z).toNat (rmul G k P Z)
/-- What Mul answers of a valid one. -/
def rmulc (G : List (List Int)) (m k : Int) (P : List (List Int)) (Z : Bool) (x y : Int) : Int := if 0 ≤ x ∧ x < m * k * (G.length : Int) + zz Z ∧ 0 ≤ y ∧ y < m * k * (G.length : Int) + zz Z then rmul G k P Z x y else -1
theorem rees_size_rv (h : RV G m k P Z) : rees_size.f G m k P Z = some (m * k * (G.length : Int) + zz Z) := by
  rw [rees_size_ev h.grp h.m1 h.k1]
  unfold rsize
  have := h.m4
  have := h.k4
  rw [if_neg (by omega), if_neg (by omega)]
theorem rees_Size_ev (hG : In2 G) (hP : In2 P) : Ev (fun n => rees_Size.f n G m k P Z) (if rval G m k P Z = 0 then m * k * (G.length : Int) + zz Z else 0) := by
  unfold rees_Size.f
  refine ev_call (rees_Validate_ev hG hP) (ev_ite (fun h => ?_) (fun h => ev_some (by rw [if_neg h])))
  rw [if_pos h, rees_size_rv (rval_rv.1 h)]
  exact ev_call (ev_some rfl) (ev_some rfl)
end
end Go.Proofs.Ytnoickhdbinciaa.F
