/- TransactionKeeps: that after every successful commit all keys, foreign keys and constraints hold. Conditions: the tables of package strconv and math/bits stand as the program's text lays them (tied by the card). -/
import Derived.Test.YtnkineaffgkicaaGreatDoorJQKY
import Derived.Test.YtnkineaffgkicaaGreatDoorJQK5
import Derived.Test.YtnkineaffgkicaaGreatDoorJH2
import Derived.Test.YtnkineaffgkicaaGreatDoorTie
set_option maxHeartbeats 16000000
set_option maxRecDepth 100000
set_option linter.unusedVariables false
set_option linter.defProp false
namespace Go.Proofs.YtnkineaffgkicaaGreatDoor.transactionKeeps
open Go Go.Vc Go.RowKit Go.WideShapes Go.ChangeShapes
theorem proved:Rows.TransactionKeepsCardSaid:=
 Claim7.holds_tied_plain_at .later [] [.data,.data,.data] true Rows.transactionKeepsCard.stood.harness Rows.transactionKeepsCard.stood.looks
  said (λ _ h=>by cases h) (by kernel_rfl) (λ _ h=>by cases h) transactionKeeps_row_tie rfl ⟨rfl,rfl⟩ hK rfl
  (λ f g e b=>by
   obtain rfl:f=4:=abC ((show Tryz.prog.funcNamed "annalist/annalistlaw25.TransactionKeeps"=some 4 by kernel_rfl).symm.trans e)|>.symm
   obtain rfl:g=Tryz.f4:=(abC (Tryz.func4.symm.trans b)).symm
   exact⟨hJ,λ j t c=>by
    rw[Tryz.params4]at c
    have d:t∈[23,24,25]:=by simpa using Array.mem_of_getElem? c
    have a:(([23,24,25]:List TypeId).all λ u=> !Tryz.prog.wantsStandIn u)=true:=by kernel_rfl
    exact(show Tryz.prog.wantsStandIn t=false by simpa using aaG.1 a t d)⟩)
  (show false=_ from c8K)
#print axioms proved
end Go.Proofs.YtnkineaffgkicaaGreatDoor.transactionKeeps
