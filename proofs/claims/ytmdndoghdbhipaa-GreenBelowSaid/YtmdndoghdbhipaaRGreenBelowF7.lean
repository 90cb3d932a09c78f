/- Rows compared, members; tables of Rees matrix semigroups, regularity. What they answer. No condition but that a structure comes in. -/
import Derived.Test.YtmdndoghdbhipaaRGreenBelowF6
import Derived.Test.YtmdndoghdbhipaaAbAW
import Derived.Test.YtmdndoghdbhipaaAbM10
set_option linter.unusedVariables false
set_option linter.unusedSimpArgs false
namespace Go.Ab
open Go
end Go.Ab
