/- What the printed functions on special elements answer (identity, zero, idempotents), Same and In. No condition but that tables come in. -/
import Derived.Test.YtlhckcldeojfmaaKMultLimitsBase2
import Derived.Test.YtlhckcldeojfmaaKMultLimitsF14a
import Derived.Test.YtlhckcldeojfmaaKMultLimitsP2
namespace Go.Proofs.Ytlhckcldeojfmaa.F
open Go.RowKit Go.Proofs.YtlhckcldeojfmaaW.PrintWords Go.Proofs.Ytlhckcldeojfmaa.B Go.Proofs.Ytlhckcldeojfmaa.PAll
set_option linter.unusedVariables false
set_option linter.unusedSimpArgs false

theorem va_of {t : List (List Int)} (h : val t = 0) : Va t := val_va.1 h
end Go.Proofs.Ytlhckcldeojfmaa.F
