/- slices.SortFunc on a row of the caller's own, at elements of one cell. -/
import Derived.Test.YtdgcjfnpfpbcfaaGreatDoorGJT10
import Derived.Shelf.SlLaysF
set_option linter.unusedSectionVars false
set_option linter.unusedSimpArgs false
set_option linter.unusedVariables false
namespace Go.Vc
open Go Go.RowKit Go.Shelf Go.Proofs Go.Sort
end Go.Vc
