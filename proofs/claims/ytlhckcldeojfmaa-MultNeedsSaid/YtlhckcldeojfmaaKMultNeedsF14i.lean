/- What the printed tests for elements answer. No condition but that a list comes in. -/
import Derived.Test.YtlhckcldeojfmaaKMultNeedsBase2
import Derived.Test.YtlhckcldeojfmaaKMultNeedsF14a
import Derived.Test.YtlhckcldeojfmaaKMultNeedsP2
namespace Go.Proofs.Ytlhckcldeojfmaa.F
open Go.RowKit Go.Proofs.YtlhckcldeojfmaaW.PrintWords Go.Proofs.Ytlhckcldeojfmaa.B Go.Proofs.Ytlhckcldeojfmaa.PAll
set_option linter.unusedVariables false
set_option linter.unusedSimpArgs false

open Classical in
theorem semigroupref14_In_ev {t : List (List Int)} {l : List Int} (hl : l.length ≤ 9223372036854775807) : Ev (fun k => semigroupref14_In.f k t l) (decide (El t l)) := by
  unfold semigroupref14_In.f
  refine ev_for0 (g := fun i k => semigroupref14_In.l0 k t l (l.length : Int) i) (l.length : Int) (fun j => ∀ i, 0 ≤ i → i < j → 0 ≤ rd l i ∧ rd l i < (t.length : Int)) ?_ ?_ 0 (by omega) (by omega) (fun i a b => by omega)
  · intro i hi0 hi1 hi
    by_cases hp : 0 ≤ rd l i ∧ rd l i < (t.length : Int)
    · right
      refine ⟨fun j j0 j1 => ?_, fun H => ?_⟩
      · by_cases hj : j = i
        · rw [hj]; exact hp
        · exact hi j j0 (by omega)
      · apply ev_succ
        simp only [semigroupref14_In.l0]
        rw [wrap_add hi0 hi1 (by omega)]
        exact ev_pos hi1 (ev_pos hi0 (ev_pos hi1 (ev_neg (by omega) (ev_neg (by omega) H))))
    · left
      have hf : decide (El t l) = false := by
        simp only [decide_eq_false_iff_not]
        intro h
        exact hp (h _ (rd_mem hi0 hi1))
      rw [hf]
      apply ev_succ
      simp only [semigroupref14_In.l0]
      refine ev_pos hi1 (ev_pos hi0 (ev_pos hi1 (ev_ite (fun _ => ev_some rfl) (fun h => ev_pos (by omega) (ev_some rfl)))))
  · intro hi
    apply ev_succ
    simp only [semigroupref14_In.l0]
    refine ev_neg (by omega) (ev_some ?_)
    have : El t l := rd_all.2 hi
    simp [this]

open Classical in
theorem mult_elements_ev {t : List (List Int)} {l : List Int} (hl : l.length ≤ 9223372036854775807) : Ev (fun k => mult_elements.f k t l) (decide (El t l)) := by
  unfold mult_elements.f
  refine ev_for0 (g := fun i k => mult_elements.l0 k t l (l.length : Int) i) (l.length : Int) (fun j => ∀ i, 0 ≤ i → i < j → 0 ≤ rd l i ∧ rd l i < (t.length : Int)) ?_ ?_ 0 (by omega) (by omega) (fun i a b => by omega)
  · intro i hi0 hi1 hi
    by_cases hp : 0 ≤ rd l i ∧ rd l i < (t.length : Int)
    · right
      refine ⟨fun j j0 j1 => ?_, fun H => ?_⟩
      · by_cases hj : j = i
        · rw [hj]; exact hp
        · exact hi j j0 (by omega)
      · apply ev_succ
        simp only [mult_elements.l0]
        rw [wrap_add hi0 hi1 (by omega)]
        exact ev_pos hi1 (ev_pos hi0 (ev_pos hi1 (ev_neg (by omega) (ev_neg (by omega) H))))
    · left
      have hf : decide (El t l) = false := by
        simp only [decide_eq_false_iff_not]
        intro h
        exact hp (h _ (rd_mem hi0 hi1))
      rw [hf]
      apply ev_succ
      simp only [mult_elements.l0]
      refine ev_pos hi1 (ev_pos hi0 (ev_pos hi1 (ev_ite (fun _ => ev_some rfl) (fun h => ev_pos (by omega) (ev_some rfl)))))
  · intro hi
    apply ev_succ
    simp only [mult_elements.l0]
    refine ev_neg (by omega) (ev_some ?_)
    have : El t l := rd_all.2 hi
    simp [this]
end Go.Proofs.Ytlhckcldeojfmaa.F
