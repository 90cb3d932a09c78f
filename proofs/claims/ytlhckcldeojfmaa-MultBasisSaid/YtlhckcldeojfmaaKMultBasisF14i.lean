/- What the printed tests for elements answer. No condition but that a list comes in. -/
import Derived.Test.YtlhckcldeojfmaaKMultBasisBase2
import Derived.Test.YtlhckcldeojfmaaKMultBasisF14a
import Derived.Test.YtlhckcldeojfmaaKMultBasisP3
namespace Go.Proofs.Ytlhckcldeojfmaa.F
open Go.RowKit Go.Proofs.YtlhckcldeojfmaaW.PrintWords Go.Proofs.Ytlhckcldeojfmaa.B Go.Proofs.Ytlhckcldeojfmaa.PAll
set_option linter.unusedVariables false
set_option linter.unusedSimpArgs false

end Go.Proofs.Ytlhckcldeojfmaa.F
