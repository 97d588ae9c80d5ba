/- TransactionPortion: that edits of rows do not change the current rows of any table on a day that is in none of their portions. Conditions: the tables of package strconv and math/bits stand as the program's text lays them (tied by the card). -/
import Derived.Test.YtnkineaffgkicaaGreatDoorJQOY
import Derived.Test.YtnkineaffgkicaaGreatDoorJQO5
import Derived.Test.YtnkineaffgkicaaGreatDoorJH2
import Derived.Test.YtnkineaffgkicaaGreatDoorTie
set_option maxHeartbeats 0
set_option maxRecDepth 100000
namespace Go.Proofs.YtnkineaffgkicaaGreatDoor.transactionPortion
open Go Go.Vc Go.RowKit Go.WideShapes Go.ChangeShapes
theorem proved:Rows.TransactionPortionCardSaid:=
 Claim7.holds_tied_plain_at .later [] [.data,.data,.data] true Rows.transactionPortionCard.stood.harness Rows.transactionPortionCard.stood.looks
  said (λ _ h=>by cases h) (by kernel_rfl) (λ _ h=>by cases h) transactionPortion_row_tie rfl ⟨rfl,rfl⟩ hK rfl
  (λ f g e b=>by
   obtain rfl:f=9:=abC ((show Tryz.prog.funcNamed "annalist/annalistlaw25.TransactionPortion"=some 9 by kernel_rfl).symm.trans e)|>.symm
   obtain rfl:g=Tryz.f9:=(abC (Tryz.func9.symm.trans b)).symm
   exact⟨hJ,λ j t c=>by
    rw[Tryz.params9]at c
    have d:t∈[23,24,25,22]:=by simpa using Array.mem_of_getElem? c
    have a:(([23,24,25,22]:List TypeId).all λ u=> !Tryz.prog.wantsStandIn u)=true:=by kernel_rfl
    exact(show Tryz.prog.wantsStandIn t=false by simpa using aaG.1 a t d)⟩)
  (show false=_ from c8O)
#print axioms proved
end Go.Proofs.YtnkineaffgkicaaGreatDoor.transactionPortion
