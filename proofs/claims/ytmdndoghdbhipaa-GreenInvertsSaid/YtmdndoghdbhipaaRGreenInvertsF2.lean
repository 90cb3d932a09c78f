/- Layer 14: identity, zero, powers, index and period. What they answer. No condition but that a table comes in. -/
import Derived.Test.YtmdndoghdbhipaaRGreenInvertsF1
import Derived.Test.YtmdndoghdbhipaaAbM5
set_option linter.unusedVariables false
set_option linter.unusedSimpArgs false
namespace Go.Ab
open Go
open Classical
end Go.Ab
