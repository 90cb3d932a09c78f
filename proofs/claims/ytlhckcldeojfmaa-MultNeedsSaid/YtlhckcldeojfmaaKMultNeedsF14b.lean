/- What the printed functions on special elements answer (identity, zero, idempotents), Same and In. No condition but that tables come in. -/
import Derived.Test.YtlhckcldeojfmaaKMultNeedsBase2
import Derived.Test.YtlhckcldeojfmaaKMultNeedsF14a
import Derived.Test.YtlhckcldeojfmaaKMultNeedsP2
namespace Go.Proofs.Ytlhckcldeojfmaa.F
open Go.RowKit Go.Proofs.YtlhckcldeojfmaaW.PrintWords Go.Proofs.Ytlhckcldeojfmaa.B Go.Proofs.Ytlhckcldeojfmaa.PAll
set_option linter.unusedVariables false
set_option linter.unusedSimpArgs false

theorem va_of {t : List (List Int)} (h : val t = 0) : Va t := val_va.1 h
theorem semigroupref14_Validate_ev {t : List (List Int)} (ht : In2 t) : Ev (fun k => semigroupref14_Validate.f k t) (val t) := by
  unfold semigroupref14_Validate.f
  exact ev_call (semigroupref14_Associative_ev ht) (ev_some (asc4_val t))
theorem semigroupref14_Valid_ev {t : List (List Int)} (ht : In2 t) : Ev (fun k => semigroupref14_Valid.f k t) (val t == 0) := by
  unfold semigroupref14_Valid.f
  exact ev_call (semigroupref14_Validate_ev ht) (ev_some rfl)
end Go.Proofs.Ytlhckcldeojfmaa.F
