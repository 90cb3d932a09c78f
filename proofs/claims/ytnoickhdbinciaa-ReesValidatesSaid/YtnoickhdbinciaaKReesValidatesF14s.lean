/- What the printed comparison of tables answers of a table and itself. No condition but that it comes in. -/
import Derived.Test.YtnoickhdbinciaaKReesValidatesTab
import Derived.Test.YtnoickhdbinciaaKReesValidatesF14b
import Derived.Test.YtnoickhdbinciaaKReesValidatesP3
namespace Go.Proofs.Ytnoickhdbinciaa.F
open Go.RowKit Go.Proofs.YtnoickhdbinciaaW.PrintWords Go.Proofs.Ytnoickhdbinciaa.B Go.Proofs.Ytnoickhdbinciaa.PAll
set_option linter.unusedVariables false
set_option linter.unusedSimpArgs false

end Go.Proofs.Ytnoickhdbinciaa.F
