/- A part of the proof. -/
import Derived.Test.YtnkineaffgkicaaGreatDoorJQG
set_option maxHeartbeats 0
set_option maxRecDepth 100000
namespace Go.Proofs.YtnkineaffgkicaaGreatDoor
open Go
theorem c8O:Rows.transactionPortionCard.goes=Rows.transactionPortionCard.stood.row.goesBy Tryz.checked.prog:=by
 show false=_;symm;unfold OpenClaim.goesBy Program.goesAt Program.goesFrom;have a:∀o:Option FuncId,o.any Tryz.prog.goes=false:=λ o=>by cases o<;>simp[Tr]
 have e:Tryz.checked.prog=Tryz.prog:=rfl;rw[e,a,Bool.false_or];cases Rows.transactionPortionCard.stood.row.start<;>simp[Tr]
end Go.Proofs.YtnkineaffgkicaaGreatDoor
