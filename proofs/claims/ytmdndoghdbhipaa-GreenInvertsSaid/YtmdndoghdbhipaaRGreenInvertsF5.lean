/- Rees matrix semigroups: zero, size, Validate, number. What they answer. No condition but that a structure comes in. -/
import Derived.Test.YtmdndoghdbhipaaRGreenInvertsF4
set_option linter.unusedVariables false
set_option linter.unusedSimpArgs false
namespace Go.Ab
open Go
end Go.Ab
