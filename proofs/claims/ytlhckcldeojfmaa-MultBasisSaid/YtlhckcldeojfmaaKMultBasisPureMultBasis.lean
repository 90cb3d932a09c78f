/- The pure statement of MultBasis: for every table the printed law answers true. No condition. -/
import Derived.Test.YtlhckcldeojfmaaKMultBasisF14k
import Derived.Test.YtlhckcldeojfmaaKMultBasisP3
namespace Go.Proofs.Ytlhckcldeojfmaa.Pure
open Go.RowKit Go.Proofs.YtlhckcldeojfmaaW.PrintWords Go.Proofs.Ytlhckcldeojfmaa.B Go.Proofs.Ytlhckcldeojfmaa.F Go.Proofs.Ytlhckcldeojfmaa.PAll
set_option linter.unusedVariables false
open Classical in
theorem MultBasis (l0 : List (List Int)) (h0 : (l0.length ≤ 9223372036854775807 ∧ ∀ v ∈ l0, (v.length ≤ 9223372036854775807 ∧ ∀ u ∈ v, (Lit.int .i64 u).wf = true))) : ∃ k, semigrouplaw14_MultBasis.f k l0 = some true := by
  have awk : ∀ n : Nat, Ev (fun k => (semigrouplaw14_awake.f k).bind fun t => some t) true := fun _ => ev_call awake_ev (ev_some rfl)
  have key : Ev (fun k => semigrouplaw14_MultBasis.j0 k l0 false) true := by
    apply ev_succ
    simp only [semigrouplaw14_MultBasis.j0]
    refine ev_neg (by simp) (ev_call (mult_Generators_ev h0) (ev_call (mult_Indecomposable_ev h0) (ev_call (mult_Center_ev h0) (ev_call (mult_Commutative_ev h0) (ev_call (semigroupref14_Valid_ev h0) (ev_ite (fun hv => ?_) (fun hv => ?_)))))))
    · have hval : val l0 = 0 := by simpa using hv
      have hs := (va_of hval).toSq
      have hle := hs.le
      obtain ⟨_, gb, _⟩ := gsp_ok (t := l0) l0.length (Nat.le_refl _)
      have il : (ind l0).length ≤ l0.length := sel_len
      have cl : (cen l0).length ≤ l0.length := sel_len
      simp only [if_pos hval]
      exact ev_call (semigroupref14_Generators_ev hs) (ev_call (semigroupref03_Same_ev (by omega)) (ev_pos rfl (ev_call (semigroupref14_Indecomposable_ev hs) (ev_call (semigroupref03_Same_ev (by omega)) (ev_pos rfl (ev_call (semigroupref14_Center_ev hs) (ev_call (semigroupref03_Same_ev (by omega)) (ev_pos rfl (ev_pos (by simp) (awk 0))))))))))
    · have hval : ¬ val l0 = 0 := by simpa using hv
      simp only [if_neg hval]
      exact ev_pos rfl (ev_pos rfl (ev_pos rfl (ev_neg (by simp) (awk 0))))
  apply ev_get
  unfold semigrouplaw14_MultBasis.f
  refine ev_call (semigroupref14_Shape_ev h0) (ev_ite (fun h => ?_) (fun _ => key))
  by_cases h2 : (l0.length : Int) > 20
  · simp only [h2, decide_true]
    apply ev_succ
    simp only [semigrouplaw14_MultBasis.j0]
    exact ev_pos (by simp) (awk 0)
  · simp only [h2, decide_false]
    exact key
end Go.Proofs.Ytlhckcldeojfmaa.Pure
