
import Derived.Test.YteogpcpleokfbaaGJAg7
import Derived.Test.YteogpcpleokfbaaGJAg2
import Derived.Test.YteogpcpleokfbaaProg
set_option linter.unusedSectionVars false
set_option linter.unusedSimpArgs false
set_option linter.unusedVariables false
namespace Go.Vc
open Go Go.RowKit
theorem tabOK_check : tabCheck Go.Proofs.Try.prog tab (List.range 155) = true := by kernel_rfl
theorem tabOK : TabOK Go.Proofs.Try.prog tab := by
  intro t i h
  have hlt : t < 155 := by
    unfold tab at h
    split at h
    · assumption
    · simp at h
  exact tabCheck_ok tabOK_check t (List.mem_range.2 hlt) i h
end Go.Vc
/- Common: predicates that functions compute; the first index. -/
namespace Go.Vc
open Go Go.Proofs
theorem mix : Go.Proofs.Try.prog.follows .mixedOrders = true := by kernel_rfl
instance (k : IntKind) (e : Int) : Decidable (rng k e) := by cases k <;> (unfold rng; exact inferInstance)
end Go.Vc
