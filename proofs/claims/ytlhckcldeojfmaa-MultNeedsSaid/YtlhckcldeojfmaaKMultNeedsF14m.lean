/- What the printed list of members answers. No condition but that marks come in. -/
import Derived.Test.YtlhckcldeojfmaaKMultNeedsLists
import Derived.Test.YtlhckcldeojfmaaKMultNeedsBase2
import Derived.Test.YtlhckcldeojfmaaKMultNeedsF14a
import Derived.Test.YtlhckcldeojfmaaKMultNeedsP2
namespace Go.Proofs.Ytlhckcldeojfmaa.F
open Go.RowKit Go.Proofs.YtlhckcldeojfmaaW.PrintWords Go.Proofs.Ytlhckcldeojfmaa.B Go.Proofs.Ytlhckcldeojfmaa.PAll
set_option linter.unusedVariables false
set_option linter.unusedSimpArgs false

end Go.Proofs.Ytlhckcldeojfmaa.F
