/- A part of the proof. -/
import Derived.Test.YtnkineaffgkicaaGreatDoorRows
import Derived.Test.YtnkineaffgkicaaGreatDoorCards
import Derived.JoinedOf
import Derived.KernelRfl
set_option maxHeartbeats 0
set_option maxRecDepth 100000
namespace Go.Proofs.YtnkineaffgkicaaGreatDoor
open Go
theorem j3O:Rows.transactionPortionRow.named=Tryz.checked.prog.varsNamed 9:=by kernel_rfl
end Go.Proofs.YtnkineaffgkicaaGreatDoor
