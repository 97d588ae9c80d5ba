/- A part of the proof of TransactionCommits. -/
import Derived.Test.YtnnbddmfhconiaaGreatDoorRows
import Derived.Test.YtnnbddmfhconiaaGreatDoorCards
import Derived.JoinedOf
import Derived.KernelRfl
set_option maxHeartbeats 16000000
set_option maxRecDepth 100000
set_option linter.unusedVariables false
set_option linter.defProp false
namespace Go.Proofs.YtnnbddmfhconiaaGreatDoor
open Go
theorem j3:Rows.transactionCommitsRow.named=Tryz.checked.prog.varsNamed 3:=by kernel_rfl
end Go.Proofs.YtnnbddmfhconiaaGreatDoor
