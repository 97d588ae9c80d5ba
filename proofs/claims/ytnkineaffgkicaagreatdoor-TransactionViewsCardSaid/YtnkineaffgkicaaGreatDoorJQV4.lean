/- A part of the proof. -/
import Derived.Test.YtnkineaffgkicaaGreatDoorJQV0
import Derived.Test.YtnkineaffgkicaaGreatDoorJQV1
import Derived.Test.YtnkineaffgkicaaGreatDoorJQV2
import Derived.Test.YtnkineaffgkicaaGreatDoorJQV3
import Derived.Test.YtnkineaffgkicaaGreatDoorJH0
import Derived.Test.YtnkineaffgkicaaGreatDoorJH1
set_option maxHeartbeats 16000000
set_option maxRecDepth 100000
set_option linter.unusedVariables false
set_option linter.defProp false
namespace Go.Proofs.YtnkineaffgkicaaGreatDoor
open Go
theorem aos:joinedFacts Tryz.checked.prog 3 Tryz.f3 Rows.transactionViewsSpec Rows.transactionViewsRow=true:=by
 unfold joinedFacts;rw[<-j0V,<-j1V,<-j2V,<-j3V,hA,hB,hC,hD,hE,hF,<-hG,<-hI];kernel_rfl
end Go.Proofs.YtnkineaffgkicaaGreatDoor
