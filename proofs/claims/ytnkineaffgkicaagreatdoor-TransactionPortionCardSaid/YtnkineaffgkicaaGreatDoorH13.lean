/- A part of the proof. -/
import Derived.Test.YtnkineaffgkicaaGreatDoorH12
import Derived.Shelf.Sort.Plain
import Derived.Shelf.Slices.In.SortNone
import Derived.Shelf.Slices.CompactI
set_option maxHeartbeats 0
set_option maxRecDepth 100000
set_option linter.unusedVariables false
set_option linter.defProp false
namespace Go.Vc
open Go Go.Sort Go.Shelf Go.Proofs Go.RowKit
def qS {H:Heap}:∀{a:G'} {l:I'},Row H a l->a=l.map (Value.int .i64)/\∀x∈l,ae .i64 x
 | a,[],h=>⟨h,by simp⟩
 | a,x::l,⟨vs,ys,h1,h2,h3⟩=>by
  obtain⟨b,e⟩:=qS h3;obtain⟨c,d⟩:=h2;grind
def nO {H:Heap}:∀{l:I'},(∀x∈l,ae .i64 x)->Row H (l.map (Value.int .i64)) l
 |[],_=>rfl
 | x::l,h=>⟨[Φi x],_,rfl,⟨rfl,h x (by simp)⟩,nO λ y a=>h y (by grind)⟩
def zb (w:World)(g:Nat)(l:I'):putRow (Value.int .i64) w g 0 l.toArray=putRow id w g 0 (l.map (Value.int .i64)).toArray:=by
 have h:(putCells (Value.int .i64) 0 l.toArray)=putCells id 0 (l.map (Value.int .i64)).toArray:=by
  unfold putCells;grind
 unfold putRow;grind
def Gm {w:World}{H:Heap}{g n:Nat}{F:Array Value}{os:Array Obj}{a:Array Value}{e:TypeId}(j:ct H w)(r:∀o,H g o=none)(h:w.heap[g]?=some (.cells a e (0,0)))(i:F.size<=a.size):ct H (grow (putRow id (Sort.ahead w n) g 0 F) os):=by
 obtain⟨f,m,s,p,l,q⟩:=cV (n:=n) (os:=os) h i;intro b o v k;have c:b≠g:=by
  grind
 have d:=j b o v k;exact d.keep (l b d.lt c)
def Ce {w:World}{g c n:Nat}{a:Array Value}{e:TypeId}{l:I'}(b:w.heap[g]?=some (.cells a e (0,0)))(f:l.length=n)(i:a.toList.take n=l.map (Value.int .i64)):Holds (Value.int .i64) w g 0 l.toArray:=by
 intro j d;have h:a.toList[j]?=(l.map (Value.int .i64))[j]?:=by grind
 refine⟨?_,by simp[World.frozen?,b]⟩;simp[World.cell?];grind
def fN.xM {P:Program}{f:FuncId}{B:Func}(h:P.funcs[f]?=some B)(a:B.body.isSome=true)(b:(B.name== "runtime.NumGoroutine")=false):fN P f:=⟨B,h,a,b⟩
theorem Mx {P:Program}{S:Ren}(L:Lays.n189 P S){e:TypeId}(X:P.cellsOf e=1){H:Heap}{n:Nat}{U:G'}{l:I'}(T:Row H U l)(M:l.length=n)(hn:n<=140737488355328):
  dJ P (S.f 189) [.slice none 0 0] 0 e n U true H ⟨true,[]⟩ (λ d (j:Heap)=>Row j d (l.mergeSort λ x y=>decide (x<=y))):=by
 refine⟨fN.xM L.f189 rfl (by rfl),λ w B s V hB R=>?_⟩;obtain⟨⟨o,b⟩,z,a⟩:=R;simp only at o b z a;rw[X]at o b;obtain⟨e1,e2⟩:=qS T;have q:∀(i:World) (d:List _),bV w i H H s.ownBlock->fH P i B H ⟨s,e,n,d⟩->Row H d (l.mergeSort λ x y=>decide (x<=y))->
   ∃v j K d,Ending.returned (.tuple #[])= .returned v/\Fits ⟨true,[]⟩ ((λ d (j)=>Row j d (l.mergeSort λ x y=>decide (x<=y))) d) v j K/\
    bV w i H j s.ownBlock/\(true=true->fH P i B j ⟨s,e,n,d⟩)/\
    (∀r∈K,fH P i B j r/\∀g,r.s.ownBlock=some g->w.heap.size<=g\/(true=false/\s.ownBlock=some g))/\bg K:=by
  intro i d Z W hm;exact⟨_,H,[],d,rfl,⟨rfl,rfl,hm⟩,Z,λ _=>W,by simp,List.Pairwise.nil⟩
 by_cases Q:n=0
 .subst Q;obtain rfl:l=[]:=aal M;have J:=T;subst J;have t:∃p c,s= .slice p 0 c:=by
   grind
  obtain⟨p,c,rfl⟩:=t;refine(Any.slices_Sort_int_none L p c w).mono ?_;rintro e i ⟨rfl,rfl⟩;exact q _ [] (bV.same V) ⟨⟨by simp,by rw[X];omega⟩,z,a⟩ (by simp[Row])
 rcases b with⟨-,h0⟩ |⟨g,c,a0,rfl,D,C,N,I,a1,O⟩
 .grind
 have E:=(aaA.1 C).1;have hH:=Ce (c:=c) C M (by grind);have h:=Any.slices_Sort_int L g 0 c l w hH E (by omega);rw[M]at h;refine h.mono ?_;rintro e' i ⟨rfl,m,os,rfl⟩;rw[zb];have t:(l.mergeSort λ x y=>decide (x<=y)).length=n:=by simp_all
 have u:∀x∈(l.mergeSort λ x y=>decide (x<=y)),ae _ x:=λ x W=>e2 x (by simp_all);obtain⟨A,Y,k2,k3,k4,k5⟩:=cV (n:=m) (F:=((l.mergeSort λ x y=>decide (x<=y)).map _).toArray) (os:=os) C (by grind);refine q _ _ ⟨⟨rfl,rfl,rfl,k5,λ k hk G=>k4 k hk (λ e=>G (by rw[e];rfl)),acp _ _⟩,Heap.le_refl _,λ _ _ _ _=>rfl,Gm V (a g rfl) C (by grind)⟩
  ⟨⟨by grind,.inr ⟨g,c,A,rfl,D,Y,N,I,by grind,?_⟩⟩,?_,a⟩ (nO u)
 .grind
 simp_all
def ko (l:I')(x:Int):Lib.compact (l++[x])=Lib.compact l++(if l.getLast?=some x then[]else[x]):=by
 have a:∀m,m<=l.length->Lib.compactUpTo (l++[x]).toArray m=Lib.compactUpTo l.toArray m:=by
  intro m c;unfold Lib.compactUpTo;have b:(List.range m).filter (Lib.keeps (l++[x]).toArray)=(List.range m).filter (Lib.keeps l.toArray):=by
   apply acg;unfold Lib.keeps;grind
  rw[b];apply acV;grind
 unfold Lib.compact;rw[show(l++[x]).length=l.length+1 by simp,Lib.compactUpTo_succ];unfold Lib.keeps;grind
def wm (l:I'):(Lib.compact l).Sublist l:=by
 have a:∀r:I',(Lib.compact r.reverse).Sublist r.reverse:=by
  intro r;induction r with
  | nil=>exact aex _
  | cons x l b=>
   rw[List.reverse_cons,ko];grind
 have:=a l.reverse;grind
theorem DN {P:Program}{ρ:Ren}(L:Lays2.n20 P ρ){e:TypeId}(he:P.cellsOf e=1){H:Heap}{n r:Nat}{xs:G'}{l:I'}(U:Row H xs l)(T:l.length=n)(hn:n<=140737488355328):
  dJ P (ρ.f 20) [.slice none 0 0] 0 e n xs false H ⟨false,[(false,[.row r e])]⟩ (λ _=>λ m (d:G') (o:Heap)=>m=(Lib.compact l).length/\Row o d (Lib.compact l)):=by
 refine⟨fN.xM L.f20 rfl (by rfl),λ w B s hs hB X=>?_⟩;obtain⟨⟨y,b⟩,C,a⟩:=X;simp only at y b C a;rw[he]at y b;obtain⟨e1,e2⟩:=qS U;have z:∀(j:World) (v:Value) (m:Nat) (d:G'),bV w j H H s.ownBlock->fH P j B H ⟨v,e,m,d⟩->(∀g,v.ownBlock=some g->s.ownBlock=some g)->m=(Lib.compact l).length/\Row H d (Lib.compact l)->
   ∃Z o R d,Ending.returned v= .returned Z/\Fits ⟨false,[(false,[.row r e])]⟩ ((λ _=>λ m (d:G') (o:Heap)=>m=(Lib.compact l).length/\Row o d (Lib.compact l):G'->bo [(false,[.row r e])] (Heap->Prop)) d) Z o R/\
    bV w j H o s.ownBlock/\(false=true->fH P j B o ⟨s,e,n,d⟩)/\
    (∀r∈R,fH P j B o r/\∀g,r.s.ownBlock=some g->w.heap.size<=g\/(false=false/\s.ownBlock=some g))/\bg R:=by
  intro j v m d hg hx hv hm;refine⟨v,H,[⟨v,e,m,d⟩],d,rfl,⟨⟨v,e,m,d⟩,[],rfl,rfl,v,rfl,rfl,rfl,hm⟩,hg,by simp,λ r U=>?_,abz _ _⟩;grind
 by_cases W:n=0
 .subst W;obtain rfl:l=[]:=aal T;have M:=U;subst M;have N:∃p c,s= .slice p 0 c:=by
   grind
  obtain⟨p,c,rfl⟩:=N;refine(Any.slices_Compact_int_empty L p c w).mono ?_;rintro e' j ⟨rfl,rfl⟩;exact z _ _ 0 [] (bV.same hs) ⟨⟨by simp,by rw[he];omega⟩,C,a⟩ (λ _ h=>h) ⟨rfl,rfl⟩
 rcases b with⟨-,h0⟩ |⟨g,c,Q,rfl,I,G,a1,K,V,u⟩
 .grind
 simp at V u;have a0:=(aaA.1 G).1;have hH:=Ce (c:=c) G T (by grind);have i:=Any.slices_Compact_int L g 0 c l w hH (by omega) (by omega);rw[T]at i;refine i.mono ?_;rintro e' j ⟨rfl,q,rfl⟩;rw[zb];have D:=wm l;have a2:(Lib.compact l).length<=n:=by grind
 have O:(((Lib.compact l)++List.replicate (n-(Lib.compact l).length) 0).map (Value.int .i64)).toArray.size=n:=by grind
 obtain⟨t,Y,k2,k3,k4,k5⟩:=cV (n:=q) (F:=(((Lib.compact l)++List.replicate (n-(Lib.compact l).length) 0).map (Value.int .i64)).toArray) (os:=#[]) G (by grind);have A:=Gm (n:=q) (os:=#[]) hs (a g rfl) G (by grind:(((Lib.compact l)++List.replicate (n-(Lib.compact l).length) 0).map (Value.int .i64)).toArray.size<=Q.size);obtain⟨F,hF⟩:∃F,F=((Lib.compact l++List.replicate (n-(Lib.compact l).length) 0).map (Value.int .i64)).toArray:=⟨_,rfl⟩;rw[<-hF]at Y k3 k4 k5 A O⊢;have hk:t.toList.take (Lib.compact l).length=(Lib.compact l).map (Value.int .i64):=by
  have:=aak (List.take (Lib.compact l).length) k3;grind
 have E:Row H _ _:=nO λ x hx=>e2 x (D.subset hx);have h1:bV w (putRow _ (Sort.ahead w q) g 0 F) H H (Value.slice (some ⟨g,0,none⟩) n c).ownBlock:=⟨⟨rfl,rfl,rfl,k5,λ k hk J=>k4 k hk (λ e=>J (by rw[e];rfl)),acp _ _⟩,Heap.le_refl _,λ _ _ _ _=>rfl,A⟩;generalize Lib.compact l=S at*;have h2:fH P (putRow id (Sort.ahead w q) g 0 F) B H ⟨.slice (some ⟨g,0,none⟩) S.length c,e,S.length,S.map (Value.int .i64)⟩:=by
  refine⟨⟨by grind,.inr ⟨g,c,t,rfl,I,Y,by grind,K,by grind,?_⟩⟩,?_,a⟩
  .grind
  grind
 exact z _ _ _ _ h1 h2 (λ _ h=>h) ⟨rfl,E⟩
end Go.Vc
