/- slices.Grow of a nil slice: a new empty row. -/
import Derived.Test.YteogpcpleokfbaaGJAg9
import Derived.Shelf.Spec.SlicesGrow
set_option linter.unusedSectionVars false
set_option linter.unusedSimpArgs false
set_option linter.unusedVariables false
namespace Go.Vc
open Go Go.RowKit Go.Shelf Go.Proofs
end Go.Vc
