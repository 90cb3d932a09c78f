/- The pure statement of ReesMultiplies: for every structure and numbers the printed law answers true. No condition. -/
import Derived.Test.YtnoickhdbinciaaKReesMultipliesF17d
import Derived.Test.YtnoickhdbinciaaKReesMultipliesP4
namespace Go.Proofs.Ytnoickhdbinciaa.Pure
open Go.RowKit Go.Proofs.YtnoickhdbinciaaW.PrintWords Go.Proofs.Ytnoickhdbinciaa.B Go.Proofs.Ytnoickhdbinciaa.F Go.Proofs.Ytnoickhdbinciaa.PAll
set_option linter.unusedVariables false
theorem ReesMultiplies (l0_0 : List (List Int)) (a0_1 : Int) (a0_2 : Int) (l0_3 : List (List Int)) (a0_4 : Bool) (a1 : Int) (a2 : Int) (a3 : Int) (a4 : Int) (a5 : Int) (h0_0 : (l0_0.length ≤ 9223372036854775807 ∧ ∀ v ∈ l0_0, (v.length ≤ 9223372036854775807 ∧ ∀ u ∈ v, (Lit.int .i64 u).wf = true))) (h0_1 : (Lit.int .i64 a0_1).wf = true) (h0_2 : (Lit.int .i64 a0_2).wf = true) (h0_3 : (l0_3.length ≤ 9223372036854775807 ∧ ∀ v ∈ l0_3, (v.length ≤ 9223372036854775807 ∧ ∀ u ∈ v, (Lit.int .i64 u).wf = true))) (h1 : (Lit.int .i64 a1).wf = true) (h2 : (Lit.int .i64 a2).wf = true) (h3 : (Lit.int .i64 a3).wf = true) (h4 : (Lit.int .i64 a4).wf = true) (h5 : (Lit.int .i64 a5).wf = true) : ∃ k, semigrouplaw17_ReesMultiplies.f k l0_0 a0_1 a0_2 l0_3 a0_4 a1 a2 a3 a4 a5 = some true := by
  have awk : ∀ n : Nat, Ev (fun k => (semigrouplaw17_awake.f k).bind fun t => some t) true := fun _ => ev_call awake17 (ev_some rfl)
  apply ev_get
  unfold semigrouplaw17_ReesMultiplies.f
  refine ev_call (large17 h0_0) (ev_ite (fun _ => awk 0) (fun _ => ?_))
  refine ev_call (rees_Number_ev h0_0 h0_3) (ev_call (rees_Mul_ev h0_0 h0_3) (ev_call (semigroupref17_Validate_ev h0_0 h0_3) (ev_ite (fun h => ?_) (fun h => ?_))))
  · rw [if_pos h, if_pos h, semigroupref17_Number_ev (rval_rv.1 h)]
    exact ev_call (ev_some rfl) (ev_pos rfl (ev_call (semigroupref17_Mul_ev (rval_rv.1 h)) (ev_pos rfl (awk 0))))
  · rw [if_neg h, if_neg h]
    exact ev_pos rfl (ev_pos rfl (awk 0))
end Go.Proofs.Ytnoickhdbinciaa.Pure
