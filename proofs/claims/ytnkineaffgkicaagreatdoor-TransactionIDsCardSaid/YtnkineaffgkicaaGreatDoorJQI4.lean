/- A part of the proof. -/
import Derived.Test.YtnkineaffgkicaaGreatDoorJQI0
import Derived.Test.YtnkineaffgkicaaGreatDoorJQI1
import Derived.Test.YtnkineaffgkicaaGreatDoorJQI2
import Derived.Test.YtnkineaffgkicaaGreatDoorJQI3
import Derived.Test.YtnkineaffgkicaaGreatDoorJH0
import Derived.Test.YtnkineaffgkicaaGreatDoorJH1
set_option maxHeartbeats 16000000
set_option maxRecDepth 100000
set_option linter.unusedVariables false
set_option linter.defProp false
namespace Go.Proofs.YtnkineaffgkicaaGreatDoor
open Go
theorem aoR:joinedFacts Tryz.checked.prog 5 Tryz.f5 Rows.transactionIDsSpec Rows.transactionIDsRow=true:=by
 unfold joinedFacts;rw[<-j0I,<-j1I,<-j2I,<-j3I,hA,hB,hC,hD,hE,hF,<-hG,<-hI];kernel_rfl
end Go.Proofs.YtnkineaffgkicaaGreatDoor
