/- The pure statement of ReesValidates: for every structure the printed law answers true. No condition. -/
import Derived.Test.YtnoickhdbinciaaKReesValidatesF17d
import Derived.Test.YtnoickhdbinciaaKReesValidatesF17e
import Derived.Test.YtnoickhdbinciaaKReesValidatesP3
namespace Go.Proofs.Ytnoickhdbinciaa.Pure
open Go.RowKit Go.Proofs.YtnoickhdbinciaaW.PrintWords Go.Proofs.Ytnoickhdbinciaa.B Go.Proofs.Ytnoickhdbinciaa.F Go.Proofs.Ytnoickhdbinciaa.PAll
set_option linter.unusedVariables false
theorem ReesValidates (l0_0 : List (List Int)) (a0_1 : Int) (a0_2 : Int) (l0_3 : List (List Int)) (a0_4 : Bool) (h0_0 : (l0_0.length ≤ 9223372036854775807 ∧ ∀ v ∈ l0_0, (v.length ≤ 9223372036854775807 ∧ ∀ u ∈ v, (Lit.int .i64 u).wf = true))) (h0_1 : (Lit.int .i64 a0_1).wf = true) (h0_2 : (Lit.int .i64 a0_2).wf = true) (h0_3 : (l0_3.length ≤ 9223372036854775807 ∧ ∀ v ∈ l0_3, (v.length ≤ 9223372036854775807 ∧ ∀ u ∈ v, (Lit.int .i64 u).wf = true))) : ∃ k, semigrouplaw17_ReesValidates.f k l0_0 a0_1 a0_2 l0_3 a0_4 = some true := by
  have awk : ∀ n : Nat, Ev (fun k => (semigrouplaw17_awake.f k).bind fun t => some t) true := fun _ => ev_call awake17 (ev_some rfl)
  apply ev_get
  unfold semigrouplaw17_ReesValidates.f
  refine ev_call (large17 h0_0) (ev_ite (fun _ => awk 0) (fun _ => ?_))
  refine ev_call (semigroupref17_Validate_ev h0_0 h0_3) (ev_ite (fun h => ?_) (fun h => ?_))
  · have hv := rval_rv.1 h
    refine ev_call (rees_Validate_ev h0_0 h0_3) (ev_pos rfl (ev_call (rees_Size_ev h0_0 h0_3) ?_))
    rw [if_pos h, semigroupref17_Size_ev hv]
    refine ev_call (ev_some rfl) (ev_pos rfl (ev_call (rees_Regular_ev h0_0 h0_3) (ev_call (semigroupref17_Regular_ev hv) (ev_pos ?_ (awk 0)))))
    simp [hv]
  · have hv : ¬ RV l0_0 a0_1 a0_2 l0_3 a0_4 := fun hh => h (rval_rv.2 hh)
    refine ev_call (rees_Validate_ev h0_0 h0_3) (ev_pos rfl (ev_call (rees_Size_ev h0_0 h0_3) ?_))
    rw [if_neg h]
    exact ev_pos rfl (ev_call (rees_Regular_ev h0_0 h0_3) (ev_neg (by simp [hv]) (awk 0)))
end Go.Proofs.Ytnoickhdbinciaa.Pure
