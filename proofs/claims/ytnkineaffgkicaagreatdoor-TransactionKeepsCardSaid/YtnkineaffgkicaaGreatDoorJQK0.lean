/- A part of the proof. -/
import Derived.Test.YtnkineaffgkicaaGreatDoorRows
import Derived.Test.YtnkineaffgkicaaGreatDoorCards
import Derived.JoinedOf
import Derived.KernelRfl
set_option maxHeartbeats 16000000
set_option maxRecDepth 100000
set_option linter.unusedVariables false
set_option linter.defProp false
namespace Go.Proofs.YtnkineaffgkicaaGreatDoor
open Go
theorem j0K:Rows.transactionKeepsRow.inPlace=Tryz.checked.prog.inPlace 4:=by kernel_rfl
end Go.Proofs.YtnkineaffgkicaaGreatDoor
