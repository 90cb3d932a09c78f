/- Green's relations: orders, regular classes, inverses, the opposite table. What they answer. No condition but that a table comes in. -/
import Derived.Test.YtmdndoghdbhipaaRGreenStableF11
set_option linter.unusedVariables false
set_option linter.unusedSimpArgs false
namespace Go.Ab
open Go
end Go.Ab
