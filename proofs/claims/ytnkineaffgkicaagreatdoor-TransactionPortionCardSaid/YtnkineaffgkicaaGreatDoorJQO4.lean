/- A part of the proof. -/
import Derived.Test.YtnkineaffgkicaaGreatDoorJQO0
import Derived.Test.YtnkineaffgkicaaGreatDoorJQO1
import Derived.Test.YtnkineaffgkicaaGreatDoorJQO2
import Derived.Test.YtnkineaffgkicaaGreatDoorJQO3
import Derived.Test.YtnkineaffgkicaaGreatDoorJH0
import Derived.Test.YtnkineaffgkicaaGreatDoorJH1
set_option maxHeartbeats 0
set_option maxRecDepth 100000
namespace Go.Proofs.YtnkineaffgkicaaGreatDoor
open Go
theorem aph:joinedFacts Tryz.checked.prog 9 Tryz.f9 Rows.transactionPortionSpec Rows.transactionPortionRow=true:=by
 unfold joinedFacts;rw[<-j0O,<-j1O,<-j2O,<-j3O,hA,hB,hC,hD,hE,hF,<-hG,<-hI];kernel_rfl
end Go.Proofs.YtnkineaffgkicaaGreatDoor
