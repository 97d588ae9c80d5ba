/- A part of the proof. -/
import Derived.Test.YtnkineaffgkicaaGreatDoorH11
import Derived.Shelf.Spec.SlicesGrow
set_option maxHeartbeats 0
set_option maxRecDepth 100000
set_option linter.unusedVariables false
set_option linter.defProp false
namespace Go.Vc
open Go Go.Shelf Go.Proofs Go.RowKit
def Pq {P:Program}{Γ:fh}(R:cE P Γ){c:Ren}(a:Lays8.n4 P c){j:tj}(hj:Γ (c.t 25)=some j)(X:0<j.size)(s:0<j.bytes){n r:Nat}{H:Heap}(hb:n*j.bytes<=140737488355328):
  af P (c.f 4) [.slice none 0 0,Φi n] H ⟨false,[(false,[.row r (c.t 25)])]⟩ (λ m x _=>m=0/\x=[]):=by
 refine⟨fN.mI a.f4 rfl,λ w D=>?_⟩;have h:=R _ _ hj;obtain⟨T,z,i1,i2,i3,Y,Q⟩:=h.info;have hn:n<=n*j.bytes:=ace _ s;have k:∀(d:World) (v:Value),Below w.heap.size w d->w.drawn<=d.drawn->World.ownsRow d w.heap.size (c.t 25) (P.cellsOf (c.t 25)) v 0 []->(∀g,v.ownBlock=some g->w.heap.size<=g)->
   ∃A y q,Ending.returned v= .returned A/\Fits ⟨false,[(false,[.row r (c.t 25)])]⟩ (λ m x _=>m=0/\x=[]) A y q/\KF w d H y/\(∀r∈q,Dd P w d y r)/\bg q:=by
  intro d v E F i hg;have p:∀b o u,H b o=some u->b<w.heap.size:=by
   intro b o u l;exact(D b o u l).lt
  refine⟨v,H,[⟨v,c.t _,0,[]⟩],rfl,⟨⟨v,c.t _,0,[]⟩,[],rfl,rfl,v,rfl,rfl,rfl,rfl,rfl⟩,⟨E,Heap.le_refl _,λ _ _ _=>rfl,λ b o u l=>?_,F⟩,λ r B=>?_,abz _ _⟩
  .exact(D b o u l).keep (E.block b (p b o u l))
  .rw[aaD]at B;subst B;refine⟨i,N' λ g Z o=>?_⟩;cases hh:H g o with
   | none=>rfl
   | some u=>grind
 by_cases K:n=0
 .subst K;refine(Any8.slices_Grow_room a _ 0 0 0 w (by simp) (by simp) (by simp) (by simp)).mono ?_;rintro e d ⟨rfl,rfl⟩;exact k _ _ (adI _ _) (aaB _) (N' (.inl ⟨rfl,rfl⟩)) (by simp[Value.ownBlock])
 .refine(Any8.slices_Grow_grow a _ z i1 Y (by omega) _ 0 0 n [] w (by simp) (by omega) (by grind) (by omega) (by simp) (λ _=>rfl) (by simp)).mono ?_;rintro e d ⟨rfl,rfl⟩;refine k _ _ (Below.drew (adI _ _)|>.alloc (aaB _) _) (ads _) (N' (.inr ⟨w.heap.size,grownCap w _ 0 _,_,rfl,aaB _,adj _ _,by simp,aen w _ _ _ (by simp[maxLen];omega),?_,by simp⟩)) (by simp[Value.ownBlock]);have a0:z.cells.size=P.cellsOf (c.t 25):=by rw[Q,h.cellsOf];simpa using h.zlen
  have G:=grownCap_ge w (0+n) 0 (c.t 25);simp only[Builtin.zeroCells];simp;rw[<-acS];grind
end Go.Vc
