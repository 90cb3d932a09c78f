/- Idempotent powers, the powers as a list. Plain lemmas. No condition. -/
import Derived.Test.YtmdndoghdbhipaaAbM4
set_option linter.unusedVariables false
set_option linter.unusedSimpArgs false
set_option linter.unusedSectionVars false
namespace Go.Ab
open Go
/-- The idempotent power. -/
noncomputable def om (t : List (List Int)) (x : Int) : Int := open Classical in if h : ∃ i, M t (pw t x i) (pw t x i) = pw t x i then pw t x (Classical.choose h) else -1
theorem om_eq {t : List (List Int)} (hv : Va t) {x : Int} (h0 : 0 ≤ x) (h1 : x < (t.length : Int)) {i : Nat} (hi : M t (pw t x i) (pw t x i) = pw t x i) : om t x = pw t x i := by
  unfold om
  rw [dif_pos ⟨i, hi⟩]
  have hj := Classical.choose_spec (⟨i, hi⟩ : ∃ i, M t (pw t x i) (pw t x i) = pw t x i)
  generalize Classical.choose (⟨i, hi⟩ : ∃ i, M t (pw t x i) (pw t x i) = pw t x i) = j at hj
  obtain ⟨a, N, hc⟩ := hv.cyc h0 h1
  have hlt := hc.lt
  obtain ⟨ai, pi⟩ := hc.idem_only hv h0 h1 i hi
  obtain ⟨aj, pj⟩ := hc.idem_only hv h0 h1 j hj
  rw [hc.red hv h0 h1 i ai, hc.red hv h0 h1 j aj]
  congr 2
  have ei := Nat.div_add_mod (i + 1) (N - a)
  have ej := Nat.div_add_mod (j + 1) (N - a)
  rw [pi] at ei
  rw [pj] at ej
  -- both are one less than multiples of the period
  have key : ∀ u v : Nat, u ≤ v → a ≤ u → (u + 1) % (N - a) = 0 → (v + 1) % (N - a) = 0 → (v - a) % (N - a) = (u - a) % (N - a) := by
    intro u v huv hu h1 h2
    have h3 : (v - u) % (N - a) = 0 := by
      obtain ⟨c, hc'⟩ := Nat.dvd_of_mod_eq_zero h1
      obtain ⟨c', hc''⟩ := Nat.dvd_of_mod_eq_zero h2
      rw [show v - u = (N - a) * c' - (N - a) * c by omega, ← Nat.mul_sub]
      exact Nat.mul_mod_right _ _
    rw [show v - a = (v - u) + (u - a) by omega, Nat.add_mod, h3, Nat.zero_add, Nat.mod_mod]
  rcases Nat.le_total i j with h | h
  · exact key i j h ai pi pj
  · exact (key j i h aj pj pi).symm
theorem om_idem {t : List (List Int)} (hv : Va t) {x : Int} (h0 : 0 ≤ x) (h1 : x < (t.length : Int)) : ∃ i, M t (pw t x i) (pw t x i) = pw t x i ∧ om t x = pw t x i := by
  obtain ⟨a, N, hc⟩ := hv.cyc h0 h1
  have hlt := hc.lt
  have := hc.idem hv h0 h1 _ (a + 1) rfl (Nat.le_mul_of_pos_right _ (by omega))
  exact ⟨_, this, om_eq hv h0 h1 this⟩

/-- The powers as a list. -/
def pws (t : List (List Int)) (x : Int) (n : Nat) : List Int := (List.range n).map (pw t x)
theorem pws_len (t : List (List Int)) (x : Int) (n : Nat) : (pws t x n).length = n := by simp [pws]
theorem pws_rd {t : List (List Int)} {x : Int} {n : Nat} {j : Int} (h0 : 0 ≤ j) (h1 : j < (n : Int)) : rd (pws t x n) j = pw t x j.toNat := rd_map h0 h1
theorem pws_snoc (t : List (List Int)) (x : Int) (n : Nat) : pws t x n ++ [pw t x n] = pws t x (n + 1) := by simp [pws, List.range_succ]
end Go.Ab
