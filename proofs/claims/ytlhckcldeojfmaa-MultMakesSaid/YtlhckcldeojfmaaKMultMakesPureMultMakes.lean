/- The pure statement of MultMakes: for all tables the printed law answers true. No condition. -/
import Derived.Test.YtlhckcldeojfmaaKMultMakesF14f
import Derived.Test.YtlhckcldeojfmaaKMultMakesP3
namespace Go.Proofs.Ytlhckcldeojfmaa.Pure
open Go.RowKit Go.Proofs.YtlhckcldeojfmaaW.PrintWords Go.Proofs.Ytlhckcldeojfmaa.B Go.Proofs.Ytlhckcldeojfmaa.F Go.Proofs.Ytlhckcldeojfmaa.PAll
set_option linter.unusedVariables false
theorem MultMakes (l0 : List (List Int)) (l1 : List (List Int)) (h0 : (l0.length ≤ 9223372036854775807 ∧ ∀ v ∈ l0, (v.length ≤ 9223372036854775807 ∧ ∀ u ∈ v, (Lit.int .i64 u).wf = true))) (h1 : (l1.length ≤ 9223372036854775807 ∧ ∀ v ∈ l1, (v.length ≤ 9223372036854775807 ∧ ∀ u ∈ v, (Lit.int .i64 u).wf = true))) : ∃ k, semigrouplaw14_MultMakes.f k l0 l1 = some true := by
  have awk : Ev (fun k => (semigrouplaw14_awake.f k).bind fun t229 => some t229) true := ev_call awake_ev (ev_some rfl)
  have big : Ev (fun k => semigrouplaw14_MultMakes.j0 k l0 l1 true) true := by
    apply ev_succ
    unfold semigrouplaw14_MultMakes.j0
    exact ev_pos rfl awk
  have key : (shp l0 = 0 → (l0.length : Int) ≤ 12) → (shp l1 = 0 → (l1.length : Int) ≤ 12) → Ev (fun k => semigrouplaw14_MultMakes.j0 k l0 l1 false) true := by
    intro s0 s1
    apply ev_succ
    simp only [semigrouplaw14_MultMakes.j0]
    refine ev_neg (by simp) (ev_call (mult_Opposite_ev h0) (ev_call (mult_Adjoin_ev h0) (ev_call (mult_Direct_ev h0 h1) (ev_call (semigroupref14_Valid_ev h0) ?_))))
    by_cases hv : val l0 = 0
    · have va := va_of hv
      have hs := va.toSq
      have hn := s0 (shp_sq.2 hs)
      rw [if_pos hv, if_pos (show val l0 = 0 ∧ (l0.length : Int) < 400 from ⟨hv, by omega⟩)]
      refine ev_pos (by simp [hv]) (ev_call (semigroupref14_Opposite_ev hs) (ev_call (tab_same _ (by omega) _) (ev_pos rfl (ev_call (semigroupref14_Adjoin_ev hs) (ev_call (tab_same _ (by omega) _) ?_)))))
      rw [show (!true) = false from rfl]
      apply ev_succ
      simp only [semigrouplaw14_MultMakes.j1]
      refine ev_neg (by simp) (ev_call (semigroupref14_Valid_ev h1) ?_)
      by_cases hw : val l1 = 0
      · have hsu := (va_of hw).toSq
        have hm := s1 (shp_sq.2 hsu)
        have hb : l0.length * l1.length ≤ 12 * 12 := Nat.mul_le_mul (by omega) (by omega)
        rw [if_pos ⟨hv, hw, by omega⟩]
        exact ev_pos (by simp [hw]) (ev_call (semigroupref14_Direct_ev hs hsu) (ev_call (tab_same _ (by omega) _) (ev_pos rfl awk)))
      · rw [if_neg (fun hh => hw hh.2.1)]
        exact ev_neg (by simp [hw]) (ev_pos (by simp) awk)
    · rw [if_neg hv, if_neg (fun hh => hv hh.1), if_neg (fun hh => hv hh.1)]
      exact ev_neg (by simp [hv]) (ev_pos (by simp) (ev_pos (by simp) (ev_pos (by simp) awk)))
  apply ev_get
  unfold semigrouplaw14_MultMakes.f
  refine ev_call (semigroupref14_Shape_ev h0) ?_
  have rest : (shp l0 = 0 → (l0.length : Int) ≤ 12) → Ev (fun k => (semigroupref14_Shape.f k l1).bind fun t525 => (if t525 = 0 then (semigrouplaw14_MultMakes.j0 k l0 l1 (decide ((l1.length : Int) > 12))) else (semigrouplaw14_MultMakes.j0 k l0 l1 false))) true := by
    intro s0
    refine ev_call (semigroupref14_Shape_ev h1) (ev_ite (fun h => ?_) (fun h => key s0 (fun hh => absurd hh h)))
    by_cases h2 : (l1.length : Int) > 12
    · simp only [h2, decide_true]
      exact big
    · simp only [h2, decide_false]
      exact key s0 (fun _ => by omega)
  exact ev_ite (fun h => ev_ite (fun _ => big) (fun hn => rest (fun _ => by omega))) (fun h => rest (fun hh => absurd hh h))
end Go.Proofs.Ytlhckcldeojfmaa.Pure
