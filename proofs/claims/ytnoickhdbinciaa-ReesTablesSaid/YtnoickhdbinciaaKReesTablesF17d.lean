/- What the helpers of the laws of layer 17 answer. No condition but that a table comes in. -/
import Derived.Test.YtnoickhdbinciaaKReesTablesF17c
import Derived.Test.YtnoickhdbinciaaKReesTablesP4
namespace Go.Proofs.Ytnoickhdbinciaa.F
open Go.RowKit Go.Proofs.YtnoickhdbinciaaW.PrintWords Go.Proofs.Ytnoickhdbinciaa.B Go.Proofs.Ytnoickhdbinciaa.PAll
set_option linter.unusedVariables false
theorem awake17 : Ev (fun k => semigrouplaw17_awake.f k) true := ev_of semigrouplaw17_awake.mono (k := 200) (by decide +kernel)
theorem large17 {t : List (List Int)} (ht : In2 t) {a : Int} : Ev (fun k => semigrouplaw17_large.f k t a) (decide (a < (t.length : Int)) && (shp t == 0)) := by
  unfold semigrouplaw17_large.f
  refine ev_ite (fun h => ev_call (semigroupref14_Shape_ev ht) (ev_some ?_)) (fun h => ev_some ?_)
  · simp [show a < (t.length : Int) by omega]
  · simp [show ¬ a < (t.length : Int) by omega]
end Go.Proofs.Ytnoickhdbinciaa.F
