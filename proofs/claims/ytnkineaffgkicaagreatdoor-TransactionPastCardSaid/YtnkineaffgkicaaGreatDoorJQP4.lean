/- A part of the proof. -/
import Derived.Test.YtnkineaffgkicaaGreatDoorJQP0
import Derived.Test.YtnkineaffgkicaaGreatDoorJQP1
import Derived.Test.YtnkineaffgkicaaGreatDoorJQP2
import Derived.Test.YtnkineaffgkicaaGreatDoorJQP3
import Derived.Test.YtnkineaffgkicaaGreatDoorJH0
import Derived.Test.YtnkineaffgkicaaGreatDoorJH1
set_option maxHeartbeats 0
set_option maxRecDepth 100000
namespace Go.Proofs.YtnkineaffgkicaaGreatDoor
open Go
theorem aoJ:joinedFacts Tryz.checked.prog 8 Tryz.f8 Rows.transactionPastSpec Rows.transactionPastRow=true:=by
 unfold joinedFacts;rw[<-j0P,<-j1P,<-j2P,<-j3P,hA,hB,hC,hD,hE,hF,<-hG,<-hI];kernel_rfl
end Go.Proofs.YtnkineaffgkicaaGreatDoor
