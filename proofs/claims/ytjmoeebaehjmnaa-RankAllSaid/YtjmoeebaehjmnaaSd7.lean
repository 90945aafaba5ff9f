/- The reference's ToWide; told; the helper's Wide. -/
import Derived.Test.YtjmoeebaehjmnaaSd6
import Derived.Test.YtjmoeebaehjmnaaLibF
set_option linter.unusedVariables false
set_option linter.unusedSimpArgs false
set_option linter.unusedSimpArgs false
set_option linter.unusedVariables false
namespace Go.Ax
open Go Go.Proofs
set_option maxRecDepth 100000
end Go.Ax
