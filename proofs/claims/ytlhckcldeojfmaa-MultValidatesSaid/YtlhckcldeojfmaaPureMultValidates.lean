/- The pure statement of MultValidates: for every table the printed law answers true. No condition. -/
import Derived.Test.YtlhckcldeojfmaaF14a
namespace Go.Proofs.Ytlhckcldeojfmaa.Pure
open Go.RowKit Go.Proofs.YtlhckcldeojfmaaW.PrintWords Go.Proofs.Ytlhckcldeojfmaa.B Go.Proofs.Ytlhckcldeojfmaa.F Go.Proofs.Ytlhckcldeojfmaa.PAll
theorem MultValidates (l0 : List (List Int)) (h0 : (l0.length ≤ 9223372036854775807 ∧ ∀ v ∈ l0, (v.length ≤ 9223372036854775807 ∧ ∀ u ∈ v, (Lit.int .i64 u).wf = true))) : ∃ k, semigrouplaw14_MultValidates.f k l0 = some true := by
  have key : Ev (fun k => semigrouplaw14_MultValidates.j0 k l0 false) true := by
    apply ev_succ
    simp only [semigrouplaw14_MultValidates.j0]
    refine ev_neg (by simp) ?_
    refine ev_call (mult_Associative_ev h0) (ev_call (semigroupref14_Associative_ev h0) ?_)
    refine ev_pos rfl (ev_pos rfl (ev_pos rfl (ev_pos rfl ?_)))
    refine ev_call (mult_Validate_ev h0) ?_
    exact ev_pos (asc4_val l0).symm (ev_call awake_ev (ev_some rfl))
  apply ev_get
  unfold semigrouplaw14_MultValidates.f
  refine ev_ite (fun h => ?_) (fun h => key)
  by_cases h2 : (l0.length : Int) ≤ 400
  · simp only [h2, decide_true]
    apply ev_succ
    unfold semigrouplaw14_MultValidates.j0
    exact ev_pos rfl (ev_call awake_ev (ev_some rfl))
  · simp only [h2, decide_false]
    exact key
end Go.Proofs.Ytlhckcldeojfmaa.Pure
