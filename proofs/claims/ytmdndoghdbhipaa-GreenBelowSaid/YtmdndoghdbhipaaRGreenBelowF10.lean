/- Green's relations: the classes. What they answer. No condition but that a table comes in. -/
import Derived.Test.YtmdndoghdbhipaaRGreenBelowF9
set_option linter.unusedVariables false
set_option linter.unusedSimpArgs false
namespace Go.Ab
open Go
end Go.Ab
