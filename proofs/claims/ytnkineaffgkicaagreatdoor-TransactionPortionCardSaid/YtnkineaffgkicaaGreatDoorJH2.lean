/- A part of the proof. -/
import Derived.Test.YtnkineaffgkicaaGreatDoorRows
import Derived.Test.YtnkineaffgkicaaGreatDoorCards
import Derived.SevenTiedAt
import Derived.KernelRfl
set_option maxHeartbeats 0
set_option maxRecDepth 100000
namespace Go.Proofs.YtnkineaffgkicaaGreatDoor
open Go
theorem hJ:false=Tryz.checked.prog.looks []:=by kernel_rfl
theorem hK:Tryz.checked.prog.mainIs=some (Rows.transactionStepsCard.stood.harness.1,Rows.transactionStepsCard.stood.harness.2.toList):=by kernel_rfl
end Go.Proofs.YtnkineaffgkicaaGreatDoor
