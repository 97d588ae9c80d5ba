/- How long the strings of an argument are, by the bulk of what is read. -/
import Derived.Test.YtdgcjfnpfpbcfaaGreatDoorGJT23
import Derived.Test.YtdgcjfnpfpbcfaaGreatDoorGJT28
import Derived.Test.YtdgcjfnpfpbcfaaGreatDoorGJT29
set_option linter.unusedSectionVars false
set_option linter.unusedSimpArgs false
set_option linter.unusedVariables false
namespace Go.Vc
open Go Go.Proofs Go.RowKit Go.WideShapes Go.ChangeShapes
abbrev bulk {H : Type} (d : DataW H) : Nat := YtdgcjfnpfpbcfaaGreatDoor.Rows.uptoBulk d
section
variable {P : Program} {H : Type} {enc : TypeId × Value → H} {w : World} {base fuel : Nat} {cs : List Value} {x : DataW H × List MemPlace}
end
end Go.Vc
