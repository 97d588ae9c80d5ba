/- A part of the proof. -/
import Derived.Test.YtnkineaffgkicaaGreatDoorRows
import Derived.Test.YtnkineaffgkicaaGreatDoorCards
import Derived.JoinedOf
import Derived.KernelRfl
set_option maxHeartbeats 0
set_option maxRecDepth 100000
namespace Go.Proofs.YtnkineaffgkicaaGreatDoor
open Go
theorem j0O:Rows.transactionPortionRow.inPlace=Tryz.checked.prog.inPlace 9:=by kernel_rfl
end Go.Proofs.YtnkineaffgkicaaGreatDoor
