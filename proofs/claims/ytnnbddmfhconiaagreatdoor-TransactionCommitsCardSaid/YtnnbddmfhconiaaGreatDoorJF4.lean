/- A part of the proof of TransactionCommits. -/
import Derived.Test.YtnnbddmfhconiaaGreatDoorJF0
import Derived.Test.YtnnbddmfhconiaaGreatDoorJF1
import Derived.Test.YtnnbddmfhconiaaGreatDoorJF2
import Derived.Test.YtnnbddmfhconiaaGreatDoorJF3
set_option maxHeartbeats 16000000
set_option maxRecDepth 100000
set_option linter.unusedVariables false
set_option linter.defProp false
namespace Go.Proofs.YtnnbddmfhconiaaGreatDoor
open Go
theorem UI:joinedFacts Tryz.checked.prog 3 Tryz.f3 Rows.transactionCommitsSpec Rows.transactionCommitsRow=true:=by
 unfold joinedFacts;rw[<-j0,<-j1,<-j2,<-j3];kernel_rfl
end Go.Proofs.YtnnbddmfhconiaaGreatDoor
