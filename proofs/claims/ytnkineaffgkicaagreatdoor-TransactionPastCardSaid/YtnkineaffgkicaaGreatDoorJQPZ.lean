/- TransactionPast: that a commit does not change what was recorded at any earlier instant, neither rows nor columns. Conditions: the tables of package strconv and math/bits stand as the program's text lays them (tied by the card). -/
import Derived.Test.YtnkineaffgkicaaGreatDoorJQPY
import Derived.Test.YtnkineaffgkicaaGreatDoorJQP5
import Derived.Test.YtnkineaffgkicaaGreatDoorJH2
import Derived.Test.YtnkineaffgkicaaGreatDoorTie
set_option maxHeartbeats 0
set_option maxRecDepth 100000
namespace Go.Proofs.YtnkineaffgkicaaGreatDoor.transactionPast
open Go Go.Vc Go.RowKit Go.WideShapes Go.ChangeShapes
theorem proved:Rows.TransactionPastCardSaid:=
 Claim7.holds_tied_plain_at .later [] [.data,.data,.data] true Rows.transactionPastCard.stood.harness Rows.transactionPastCard.stood.looks
  said (λ _ h=>by cases h) (by kernel_rfl) (λ _ h=>by cases h) transactionPast_row_tie rfl ⟨rfl,rfl⟩ hK rfl
  (λ f g e b=>by
   obtain rfl:f=8:=abC ((show Tryz.prog.funcNamed "annalist/annalistlaw25.TransactionPast"=some 8 by kernel_rfl).symm.trans e)|>.symm
   obtain rfl:g=Tryz.f8:=(abC (Tryz.func8.symm.trans b)).symm
   exact⟨hJ,λ j t c=>by
    rw[Tryz.params8]at c
    have d:t∈[23,24,25,22]:=by simpa using Array.mem_of_getElem? c
    have a:(([23,24,25,22]:List TypeId).all λ u=> !Tryz.prog.wantsStandIn u)=true:=by kernel_rfl
    exact(show Tryz.prog.wantsStandIn t=false by simpa using aaG.1 a t d)⟩)
  (show false=_ from c8P)
#print axioms proved
end Go.Proofs.YtnkineaffgkicaaGreatDoor.transactionPast
