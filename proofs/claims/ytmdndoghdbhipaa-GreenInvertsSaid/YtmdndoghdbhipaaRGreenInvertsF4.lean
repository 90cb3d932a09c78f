/- Groups: inverses, of, IsGroup; Inverse and IsGroup of the reference. What they answer. No condition but that a table comes in. -/
import Derived.Test.YtmdndoghdbhipaaRGreenInvertsF2
import Derived.Test.YtmdndoghdbhipaaAbM9
set_option linter.unusedVariables false
set_option linter.unusedSimpArgs false
namespace Go.Ab
open Go
end Go.Ab
