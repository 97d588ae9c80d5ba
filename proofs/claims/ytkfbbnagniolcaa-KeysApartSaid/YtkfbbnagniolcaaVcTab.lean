import Derived.Test.YtkfbbnagniolcaaVcT
import Derived.Test.YtkfbbnagniolcaaTab
import Derived.Test.YtkfbbnagniolcaaProg
set_option linter.unusedSectionVars false
set_option linter.unusedSimpArgs false
set_option linter.unusedVariables false
namespace Go.Vc
open Go Go.RowKit
theorem tabOK_check : tabCheck Go.Proofs.Try.prog tab (List.range 170) = true := by kernel_rfl
theorem tabOK : TabOK Go.Proofs.Try.prog tab := by
  intro t i h
  have hlt : t < 170 := by
    unfold tab at h
    split at h
    · assumption
    · simp at h
  exact tabCheck_ok tabOK_check t (List.mem_range.2 hlt) i h
end Go.Vc
