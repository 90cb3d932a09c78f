/- The pure statement of ReesTables: for every structure the printed law answers true. No condition. -/
import Derived.Test.YtnoickhdbinciaaKReesTablesF17d
import Derived.Test.YtnoickhdbinciaaKReesTablesF17f
import Derived.Test.YtnoickhdbinciaaKReesTablesP4
namespace Go.Proofs.Ytnoickhdbinciaa.Pure
open Go.RowKit Go.Proofs.YtnoickhdbinciaaW.PrintWords Go.Proofs.Ytnoickhdbinciaa.B Go.Proofs.Ytnoickhdbinciaa.F Go.Proofs.Ytnoickhdbinciaa.PAll
set_option linter.unusedVariables false
theorem ReesTables (l0_0 : List (List Int)) (a0_1 : Int) (a0_2 : Int) (l0_3 : List (List Int)) (a0_4 : Bool) (h0_0 : (l0_0.length ≤ 9223372036854775807 ∧ ∀ v ∈ l0_0, (v.length ≤ 9223372036854775807 ∧ ∀ u ∈ v, (Lit.int .i64 u).wf = true))) (h0_1 : (Lit.int .i64 a0_1).wf = true) (h0_2 : (Lit.int .i64 a0_2).wf = true) (h0_3 : (l0_3.length ≤ 9223372036854775807 ∧ ∀ v ∈ l0_3, (v.length ≤ 9223372036854775807 ∧ ∀ u ∈ v, (Lit.int .i64 u).wf = true))) : ∃ k, semigrouplaw17_ReesTables.f k l0_0 a0_1 a0_2 l0_3 a0_4 = some true := by
  have awk : ∀ n : Nat, Ev (fun k => (semigrouplaw17_awake.f k).bind fun t => some t) true := fun _ => ev_call awake17 (ev_some rfl)
  have big : ∀ x, Ev (fun n => semigrouplaw17_ReesTables.j0 n x true l0_0 a0_1 a0_2 l0_3 a0_4) true := by
    intro x
    apply ev_succ
    simp only [semigrouplaw17_ReesTables.j0]
    exact ev_pos (by simp) (awk 0)
  have key : Ev (fun n => semigrouplaw17_ReesTables.j0 n (rval l0_0 a0_1 a0_2 l0_3 a0_4) false l0_0 a0_1 a0_2 l0_3 a0_4) true := by
    apply ev_succ
    simp only [semigrouplaw17_ReesTables.j0]
    refine ev_neg (by simp) (ev_call (rees_Table_ev h0_0 h0_3) (ev_ite (fun h => ?_) (fun h => ?_)))
    · have hv := rval_rv.1 h
      rw [if_pos h]
      refine ev_pos rfl (ev_call (semigroupref17_Table_ev hv) (ev_call (rtab_same hv) (ev_pos rfl ?_)))
      have ha := rtab_va hv
      exact ev_call (mult_Validate_ev (in2_sq ha.toSq)) (ev_pos (val_va.2 ha) (awk 0))
    · rw [if_neg h]
      exact ev_pos rfl (ev_pos rfl (awk 0))
  apply ev_get
  unfold semigrouplaw17_ReesTables.f
  refine ev_call (large17 h0_0) (ev_ite (fun _ => awk 0) (fun _ => ?_))
  refine ev_call (semigroupref17_Validate_ev h0_0 h0_3) (ev_ite (fun h => ?_) (fun h => key))
  rw [semigroupref17_Size_ev (rval_rv.1 h)]
  refine ev_call (ev_some rfl) ?_
  by_cases h4 : a0_1 * a0_2 * (l0_0.length : Int) + zz a0_4 > 40
  · simp only [h4, decide_true]
    exact big _
  · simp only [h4, decide_false]
    exact key
end Go.Proofs.Ytnoickhdbinciaa.Pure
