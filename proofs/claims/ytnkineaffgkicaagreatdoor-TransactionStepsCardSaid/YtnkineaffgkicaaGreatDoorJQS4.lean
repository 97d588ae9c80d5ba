/- A part of the proof of TransactionSteps. -/
import Derived.Test.YtnkineaffgkicaaGreatDoorJQS0
import Derived.Test.YtnkineaffgkicaaGreatDoorJQS1
import Derived.Test.YtnkineaffgkicaaGreatDoorJQS2
import Derived.Test.YtnkineaffgkicaaGreatDoorJQS3
import Derived.Test.YtnkineaffgkicaaGreatDoorJH0
import Derived.Test.YtnkineaffgkicaaGreatDoorJH1
set_option maxHeartbeats 16000000
set_option maxRecDepth 100000
set_option linter.unusedVariables false
set_option linter.defProp false
namespace Go.Proofs.YtnkineaffgkicaaGreatDoor
open Go
theorem aeO:joinedFacts Tryz.checked.prog 6 Tryz.f6 Rows.transactionStepsSpec Rows.transactionStepsRow=true:=by
 unfold joinedFacts;rw[<-j0S,<-j1S,<-j2S,<-j3S,hA,hB,hC,hD,hE,hF,<-hG,<-hI];kernel_rfl
end Go.Proofs.YtnkineaffgkicaaGreatDoor
