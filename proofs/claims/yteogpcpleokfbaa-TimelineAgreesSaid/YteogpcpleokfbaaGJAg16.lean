/- slices.Sorted(slices.Values(l)) at ints: a new slice with the same elements in ascending order; what lay before stays. -/
import Derived.Test.YteogpcpleokfbaaGJAg13
import Derived.RangeFuncBox
import Derived.RangeFuncLeaves
import Derived.RangeFuncBound
import Derived.RangeFuncKeeps
import Derived.Maps.AppendAt
import Derived.Shelf.Abstract
import Derived.WalkKit
import Derived.OwnWalkIn
import Derived.TacticsInMore
import Derived.LoopNIn
import Derived.LoopIn
set_option linter.unusedSectionVars false
set_option linter.unusedSimpArgs false
set_option linter.unusedVariables false
namespace Go.Vc
open Go Go.Proofs Go.Shelf Go.RowKit Go.Sort
attribute [local go_sem] Oper.semAt_some
end Go.Vc
