/- A part of the proof. -/
import Derived.Test.YtnkineaffgkicaaGreatDoorRows
import Derived.Test.YtnkineaffgkicaaGreatDoorCards
import Derived.JoinedOf
import Derived.KernelRfl
set_option maxHeartbeats 0
set_option maxRecDepth 100000
namespace Go.Proofs.YtnkineaffgkicaaGreatDoor
open Go
theorem hA:laidOutB Tryz.checked.prog=true:=by kernel_rfl
theorem hB:mapsRowed Tryz.checked.prog=true:=by kernel_rfl
theorem hC:Tryz.checked.prog.stops=[]:=by kernel_rfl
theorem hD:Tryz.checked.prog.stopKnobs=[]:=by kernel_rfl
end Go.Proofs.YtnkineaffgkicaaGreatDoor
