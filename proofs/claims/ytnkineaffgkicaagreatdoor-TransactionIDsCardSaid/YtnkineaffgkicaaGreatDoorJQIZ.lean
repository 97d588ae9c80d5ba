/- TransactionIDs: that the versions added by a commit have new IDs, in ascending order in each table, and that no other version is changed except that its recorded period ends. Conditions: the tables of package strconv and math/bits stand as the program's text lays them (tied by the card). -/
import Derived.Test.YtnkineaffgkicaaGreatDoorJQIY
import Derived.Test.YtnkineaffgkicaaGreatDoorJQI5
import Derived.Test.YtnkineaffgkicaaGreatDoorJH2
import Derived.Test.YtnkineaffgkicaaGreatDoorTie
set_option maxHeartbeats 16000000
set_option maxRecDepth 100000
set_option linter.unusedVariables false
set_option linter.defProp false
namespace Go.Proofs.YtnkineaffgkicaaGreatDoor.transactionIDs
open Go Go.Vc Go.RowKit Go.WideShapes Go.ChangeShapes
theorem proved:Rows.TransactionIDsCardSaid:=
 Claim7.holds_tied_plain_at .later [] [.data,.data,.data] true Rows.transactionIDsCard.stood.harness Rows.transactionIDsCard.stood.looks
  said (λ _ h=>by cases h) (by kernel_rfl) (λ _ h=>by cases h) transactionIDs_row_tie rfl ⟨rfl,rfl⟩ hK rfl
  (λ f g e b=>by
   obtain rfl:f=5:=abC ((show Tryz.prog.funcNamed "annalist/annalistlaw25.TransactionIDs"=some 5 by kernel_rfl).symm.trans e)|>.symm
   obtain rfl:g=Tryz.f5:=(abC (Tryz.func5.symm.trans b)).symm
   exact⟨hJ,λ j t c=>by
    rw[Tryz.params5]at c
    have d:t∈[23,24,25]:=by simpa using Array.mem_of_getElem? c
    have a:(([23,24,25]:List TypeId).all λ u=> !Tryz.prog.wantsStandIn u)=true:=by kernel_rfl
    exact(show Tryz.prog.wantsStandIn t=false by simpa using aaG.1 a t d)⟩)
  (show false=_ from c8I)
#print axioms proved
end Go.Proofs.YtnkineaffgkicaaGreatDoor.transactionIDs
