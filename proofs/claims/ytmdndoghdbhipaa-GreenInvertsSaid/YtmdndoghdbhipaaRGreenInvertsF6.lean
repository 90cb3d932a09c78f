/- Rees matrix semigroups: numbers and products. What they answer. No condition but that a structure comes in. -/
import Derived.Test.YtmdndoghdbhipaaRGreenInvertsF5
set_option linter.unusedVariables false
set_option linter.unusedSimpArgs false
namespace Go.Ab
open Go
end Go.Ab
