/- A part of the proof. -/
import Derived.Test.YtnkineaffgkicaaGreatDoorRows
import Derived.Test.YtnkineaffgkicaaGreatDoorCards
import Derived.JoinedOf
import Derived.KernelRfl
set_option maxHeartbeats 0
set_option maxRecDepth 100000
namespace Go.Proofs.YtnkineaffgkicaaGreatDoor
open Go
theorem hE:Tryz.checked.prog.stopsHeard=true:=by kernel_rfl
theorem hF:Tryz.checked.prog.mayEnter=true:=by kernel_rfl
theorem hG:Rows.transactionStepsRow.plainKeys=Tryz.checked.prog.plainKeys:=by kernel_rfl
theorem hI:Rows.transactionStepsRow.lifted=Tryz.checked.prog.liftsFinal:=by kernel_rfl
end Go.Proofs.YtnkineaffgkicaaGreatDoor
