/- A part of the proof. -/
import Derived.Test.YtnkineaffgkicaaGreatDoorJQK0
import Derived.Test.YtnkineaffgkicaaGreatDoorJQK1
import Derived.Test.YtnkineaffgkicaaGreatDoorJQK2
import Derived.Test.YtnkineaffgkicaaGreatDoorJQK3
import Derived.Test.YtnkineaffgkicaaGreatDoorJH0
import Derived.Test.YtnkineaffgkicaaGreatDoorJH1
set_option maxHeartbeats 16000000
set_option maxRecDepth 100000
set_option linter.unusedVariables false
set_option linter.defProp false
namespace Go.Proofs.YtnkineaffgkicaaGreatDoor
open Go
theorem aoV:joinedFacts Tryz.checked.prog 4 Tryz.f4 Rows.transactionKeepsSpec Rows.transactionKeepsRow=true:=by
 unfold joinedFacts;rw[<-j0K,<-j1K,<-j2K,<-j3K,hA,hB,hC,hD,hE,hF,<-hG,<-hI];kernel_rfl
end Go.Proofs.YtnkineaffgkicaaGreatDoor
