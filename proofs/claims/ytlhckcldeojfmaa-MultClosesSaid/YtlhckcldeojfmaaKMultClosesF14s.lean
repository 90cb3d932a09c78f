/- What the printed comparison of tables answers of a table and itself. No condition but that it comes in. -/
import Derived.Test.YtlhckcldeojfmaaKMultClosesTab
import Derived.Test.YtlhckcldeojfmaaKMultClosesF14b
import Derived.Test.YtlhckcldeojfmaaKMultClosesP2
namespace Go.Proofs.Ytlhckcldeojfmaa.F
open Go.RowKit Go.Proofs.YtlhckcldeojfmaaW.PrintWords Go.Proofs.Ytlhckcldeojfmaa.B Go.Proofs.Ytlhckcldeojfmaa.PAll
set_option linter.unusedVariables false
set_option linter.unusedSimpArgs false

end Go.Proofs.Ytlhckcldeojfmaa.F
