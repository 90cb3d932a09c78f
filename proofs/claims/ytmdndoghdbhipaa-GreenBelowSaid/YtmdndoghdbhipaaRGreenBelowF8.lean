/- Partitions: canonical forms, validity, meets, counts, classes. What they answer. No condition but that rows come in. -/
import Derived.Test.YtmdndoghdbhipaaRGreenBelowF7
import Derived.Test.YtmdndoghdbhipaaAbM12
set_option linter.unusedVariables false
set_option linter.unusedSimpArgs false
namespace Go.Ab
open Go
end Go.Ab
