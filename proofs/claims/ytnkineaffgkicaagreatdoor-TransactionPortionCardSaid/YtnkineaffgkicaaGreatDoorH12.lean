/- A part of the proof. -/
import Derived.Test.YtnkineaffgkicaaGreatDoorH11
import Derived.Shelf.SlSortCmp.NoneTotal
set_option maxHeartbeats 0
set_option maxRecDepth 100000
set_option linter.unusedVariables false
set_option linter.defProp false
set_option linter.unusedSimpArgs false
namespace Go.Vc
open Go Go.Sort Go.Shelf Go.Proofs Go.RowKit
section
structure TM (P:Program)(ρ:Ren)(sz:Nat):Prop where
 L:SlLaysF0.n6 P ρ
 agg:∀w,(isAgg (ρ.t 24)).run P w= .ok true w
 size:∀w,(Go.sizeOf (ρ.t 24)).run P w= .ok sz w
 cells:P.cellsOf (ρ.t 24)=sz
section
variable {α:Type}[Inhabited α]{enc:α->G'}{k:Nat}
def nN (c:∀x,(enc x).length=k):∀(l:List α),(flatK enc k l.toArray).toList=l.flatMap enc:=by
 intro l;have a:∀(l:List α) (t:Nat),t<l.length*k->(l.flatMap enc)[t]?=some (enc l.toArray[t/k]!)[t%k]! :=by
  intro l;induction l with
  | nil=>simp
  | cons x l d=>
   intro t f;have g:0<k:=by
    grind
   by_cases h:t<k
   .rw[Nat.div_eq_of_lt h,Nat.mod_eq_of_lt h];grind
   .have b:t-k<l.length*k:=by
     rw[aav,acS]at f;omega
    have i:t/k=(t-k)/k+1:=by rw[Nat.div_eq_sub_div g (by omega)]
    have m:t%k=(t-k)%k:=by rw[Nat.mod_eq_sub_mod (by omega)]
    grind
 apply abU;intro t;have j:(flatK enc k l.toArray).toList.length=l.length*k:=by simp
 have e:(l.flatMap enc).length=l.length*k:=by
  induction l with
  | nil=>simp
  | cons x l d=>simp[c,acS]at*;omega
 by_cases h:t<l.length*k
 .have:=get_flatK enc k l.toArray t (by grind);grind
 grind
def cV {w:World}{g n:Nat}{b:Array Value}{e:TypeId}{F:Array Value}{os:Array Obj}(c:w.heap[g]?=some (.cells b e (0,0)))(j:F.size<=b.size):
  ∃a,(grow (putRow id (Sort.ahead w n) g 0 F) os).heap[g]?=some (.cells a e (0,0))/\a.size=b.size/\a.toList.take F.size=F.toList/\
   (∀k,k<w.heap.size->k≠g->(grow (putRow id (Sort.ahead w n) g 0 F) os).heap[k]?=w.heap[k]?)/\w.heap.size<=(grow (putRow id (Sort.ahead w n) g 0 F) os).heap.size:=by
 have d:=(aaA.1 c).1;refine⟨putCells id 0 F b,?_,by simp[putCells],?_,?_,?_⟩
 .rw[heap_grow_old _ _ (by simp_all)];simp[putRow,mapBlock,Array.getElem?_modify,c,onCells]
 .apply abU;intro t;by_cases i:t<F.size
  .simp[putCells];grind
  grind
 .intro k h f;rw[heap_grow_old _ _ (by simp_all)];simp[putRow,mapBlock];grind
 simp
end
def uM {T:Type}[Rep T]{H:Heap}:∀{a:G'} {l:List T},Row H a l->∃d:List {x:G'×T//Rep.rel H x.1 x.2},d.map (λ x=>x.1.2)=l/\d.flatMap (λ x=>x.1.1)=a
 | a,[],h=>⟨[],rfl,h.symm⟩
 | a,t::l,⟨vs,ys,h1,h2,h3⟩=>by
  obtain⟨d,b,c⟩:=uM h3;exact⟨⟨(vs,t),h2⟩::d,T' (by grind)⟩
def uN {T:Type}[Rep T]{H:Heap}:∀(d:List {x:G'×T//Rep.rel H x.1 x.2}),Row H (d.flatMap (λ x=>x.1.1)) (d.map (λ x=>x.1.2))
 |[]=>rfl
 | x::d=>⟨x.1.1,_,rfl,x.2,uN d⟩
def Tg (P:Program)(T:Type)[Rep T](H:Heap)(f:FuncId)(b:G')(e:T->T->Int):Prop:=
 ∀(a:Heap) (d c:G') (s t:T),Heap.le H a->Rep.rel a d s->Rep.rel a c t->af P f ([.agg ⟨d⟩,.agg ⟨c⟩]++b) a gL (λ r _=>r=e s t)
def kQ {P:Program}{f:FuncId}(h:fN P f):∀a w,(callFunc f a).run P w= .ok (.enter f a) w:=by
 obtain⟨i,d,b,e⟩:=h;obtain⟨c,g⟩:=Option.isSome_iff_exists.1 b;exact enters_of d e g
def Gl {P:Program}{ρ:Ren}{T:Type}[Rep T](L:TM P ρ (Rep.sz T)){H:Heap}{n:Nat}{xs:G'}{l:List T}(hr:Row H xs l)(hl:l.length=n)(hn:n<=140737488355328)
  {f:FuncId} (hf:fN P f) {cap:G'} {cf:T->T->Int} (hO:SWO (ltOf cf)) (X:Tg P T H f cap cf):
  dJ P (ρ.f 6) [.slice none 0 0,.func (.func f) #[] ⟨cap⟩] 0 (ρ.t 24) n xs true H ⟨true,[]⟩ (λ D (G:Heap)=>∃m:List T,Row G D m/\m.Perm l/\m.Pairwise (λ a b=>¬cf b a<0)):=by
 refine⟨fN.mI L.L.f6 rfl,λ w B s hs hB b4=>?_⟩;obtain⟨⟨Q,u⟩,a3,h⟩:=b4;simp only at Q u a3 h;rw[L.cells]at Q u;obtain⟨d,e1,e2⟩:=uM hr;have R:∀(q:World) (D:List _),bV w q H H s.ownBlock->fH P q B H ⟨s,ρ.t 24,n,D⟩->(∃m:List T,Row H D m/\m.Perm l/\m.Pairwise (λ a b=>¬cf b a<0))->
   ∃v G nr D,Ending.returned (.tuple #[])= .returned v/\Fits ⟨true,[]⟩ ((λ D (G)=>∃m:List T,Row G D m/\m.Perm l/\m.Pairwise (λ a b=>¬cf b a<0)) D) v G nr/\
    bV w q H G s.ownBlock/\(true=true->fH P q B G ⟨s,ρ.t 24,n,D⟩)/\
    (∀r∈nr,fH P q B G r/\∀g,r.s.ownBlock=some g->w.heap.size<=g\/(true=false/\s.ownBlock=some g))/\bg nr:=by
  intro q D hg hx hm;exact⟨_,H,[],D,rfl,⟨rfl,rfl,hm⟩,hg,λ _=>hx,N' List.Pairwise.nil⟩
 by_cases b1:n=0
 .subst b1;obtain rfl:l=[]:=aal hl;have b7:=hr;subst b7;have b0:∃p c,s= .slice p 0 c:=by
   grind
  obtain⟨p,c,rfl⟩:=b0;refine(AnyF.slices_SortFunc_none L.L p c _ w).mono ?_;rintro e q ⟨rfl,rfl⟩;refine R _ [] (bV.same hs) ⟨(N' (by rw[L.cells];omega)),a3,h⟩ ⟨[],rfl,acA _,List.Pairwise.nil⟩
 rcases u with⟨-,h0⟩ |⟨g,c,a5,rfl,b6,hb,a0,b2,c4,a6⟩
 .grind
 have c5:d.length=n:=by grind
 obtain⟨d0,-⟩:∃x,x∈d:=by
  cases d with
  | nil=>grind
  | cons x r=>simp
 haveI:Inhabited _:=⟨d0⟩
 have S:∀x:{x:List _×T//Rep.rel H _ x.2},x.1.1.length=Rep.sz T:=λ x=>Rep.len x.2;have a7:=(aaA.1 hb).1;have c3:(flatK (λ x:{x:List _×T//Rep.rel H _ _}=>x.1.1) (Rep.sz T) d.toArray).toList=xs:=by rw[nN S,e2]
 have Y:d.toArray.size=n:=by grind
 have c7:n*Rep.sz T<=c*Rep.sz T:=aaC _ a0;have hH:HoldsK (λ x:{x:G'×T//Rep.rel H x.1 x.2}=>x.1.1) (Rep.sz T) w g 0 d.toArray:=by
  intro j hj;have M:a5.toList[j]?=xs[j]?:=by grind
  refine⟨?_,by simp[World.frozen?,hb]⟩;simp[World.cell?];grind
 have b8:CmpLays P f ⟨cap⟩ (λ x:{x:G'×T//Rep.rel H x.1 x.2}=>x.1.1) (Rep.sz T) (λ x y=>cf x.1.2 y.1.2) g 0 d.toArray.size w:=by
  intro m os V c2 x y;obtain⟨c0,k1,k2,k3,k4,k5⟩:=cV (n:=m) (F:=flatK (λ x:{x:List _×T//Rep.rel H _ _}=>x.1.1) (Rep.sz T) V) (os:=os) hb (by simp_all);have a8:ct H (sortWorldK (λ x:{x:List _×T//Rep.rel H _ _}=>x.1.1) (Rep.sz T) w g 0 m V os):=by
   intro b o v I;have K:b≠g:=by
    rintro rfl;rw[h b rfl o]at I;grind
   have M:=hs b o v I;refine M.keep ?_;have:=k4 b M.lt K;unfold sortWorldK putRowK;grind
  have b9:=(X H _ _ _ _ (ah H) x.2 y.2).2 _ a8;have ea:(#[Value.agg x.1.1.toArray,Value.agg y.1.1.toArray]++(⟨cap⟩:Array Value))=([Value.agg ⟨x.1.1⟩,.agg ⟨y.1.1⟩]++cap).toArray:=by
   simp
  refine acd (by rw[ea];omega) ?_;rintro e q ⟨v,G,nr,rfl,Z,A,-,-⟩;obtain⟨r,v',a2,c1,I,hr⟩:=Z;simp[xJ]at a2;subst a2;simp at I;subst I hr;refine⟨rfl,q.drawn-(sortWorldK (λ x:{x:List _×T//Rep.rel H _ _}=>x.1.1) (Rep.sz T) w g 0 m V os).drawn,q.heap.extract (sortWorldK (λ x:{x:List _×T//Rep.rel H _ _}=>x.1.1) (Rep.sz T) w g 0 m V os).heap.size q.heap.size,?_⟩;generalize sortWorldK _ _ w g 0 m V _=W at A;have hd:=A.drawn;have e3:q.heap=W.heap++q.heap.extract W.heap.size q.heap.size:=by
   apply adB;intro i;by_cases hi:i<W.heap.size
   .rw[acn hi,A.below.block i hi]
   grind
  have e4:q.drawn=W.drawn+(q.drawn-W.drawn):=by omega
  cases q with
  | mk a b c d e=>
   have o1:=A.below.os;have o2:=A.below.tape;have o3:=A.below.output;unfold grow World.drewN;grind
 have U:SWO (ltOf λ x y:{x:List _×T//Rep.rel H x.1 x.2}=>cf _ y.1.2):=
  ⟨λ x=>hO.irrefl _,λ x y z=>hO.trans _ _ _,λ x y z=>hO.ntrans _ _ _⟩
 have C:=AnyQ.slices_SortFunc L.L _ L.agg L.size _ S (λ x=>Rep.one x.2) _ U f _ g 0 c _ w
  (kQ hf) b8 hH a7 (by grind)
 rw[Y]at C;refine C.mono ?_;rintro e q ⟨rfl,E,m,os,hp,b5,rfl⟩;have N:E.size=n:=by rw[hp.1,Y]
 obtain⟨O,k1,k2,k3,k4,k5⟩:=cV (n:=m) (F:=flatK (λ x:{x:List _×T//Rep.rel H _ _}=>x.1.1) (Rep.sz T) E) (os:=os) hb (by simp_all);have b3:(flatK (λ x:{x:G'×T//Rep.rel H x.1 x.2}=>x.1.1) (Rep.sz T) E).toList=E.toList.flatMap (λ x=>x.1.1):=by
  have:=nN S E.toList;omega
 have J:Row H _ (E.toList.map _):=uN _;have c6:(E.toList.flatMap (λ x=>x.1.1)).length=n*Rep.sz T:=by
  have:=J.length;grind
 refine R _ _ ⟨⟨rfl,rfl,rfl,k5,λ k S a4=>k4 k S (λ e=>a4 (by rw[e];rfl)),acp _ _⟩,Heap.le_refl _,λ _ _ _ _=>rfl,?_⟩ ⟨⟨by rw[L.cells];grind,.inr ⟨g,c,O,rfl,b6,k1,a0,b2,by rw[L.cells];grind,?_⟩⟩,?_,h⟩ ⟨_,J,?_,?_⟩
 .intro b o v I;have K:b≠g:=by
   rintro rfl;rw[h b rfl o]at I;grind
  have M:=hs b o v I;refine M.keep ?_;have:=k4 b M.lt K;unfold sortWorldK putRowK;grind
 .rw[L.cells,<-b3,<-k3,size_flatK,N]
 .intro x hx;obtain⟨y,_,hy⟩:=aaZ.1 hx;exact Rep.one y.2 x hy
 .have M:E.toList.Perm d:=by
   have:=hp.2.2;have a1:E.extract 0 n=E:=by grind
   grind
  grind
 .rw[aaX];intro i j hi hj a9;have:=b5 i j (abi _) a9 (by grind);simp[ltOf]at this;grind
end
structure TY (P:Program)(ρ:Ren)(sz:Nat):Prop where
 L:SlLaysF0.n20 P ρ
 agg:∀w,(isAgg (ρ.t 24)).run P w= .ok true w
 size:∀w,(Go.sizeOf (ρ.t 24)).run P w= .ok sz w
 cells:P.cellsOf (ρ.t 24)=sz
def Lh {P:Program}{ρ:Ren}{T:Type}[Rep T](u:TY P ρ (Rep.sz T)){i j:Nat}(a5:i<=j){H:Heap}{n:Nat}{xs:G'}{l:List T}(hr:Row H xs l)(hl:l.length=n)(hj:j<=n)(hn:n<=140737488355328)
  {f:FuncId} (hf:fN P f) {cap:G'} {cf:T->T->Int} (hO:SWO (ltOf cf)) (a7:Tg P T H f cap cf):
  dJ P (ρ.f 20) [.slice none 0 0,Φi i,Φi j,.func (.func f) #[] ⟨cap⟩] 0 (ρ.t 24) n xs true H ⟨true,[]⟩ (λ X (Y:Heap)=>∃m:List T,Row Y X (l.take i++m++l.drop j)/\m.Perm ((l.take j).drop i)/\m.Pairwise (λ a b=>¬cf b a<0)):=by
 refine⟨fN.mI u.L.f20 rfl,λ w B s hs hB c2=>?_⟩;obtain⟨⟨a3,E⟩,b2,A⟩:=c2;simp only at a3 E b2 A;rw[u.cells]at a3 E;obtain⟨d,e1,e2⟩:=uM hr;have a4:∀(D:World) (X:List _),bV w D H H s.ownBlock->fH P D B H ⟨s,ρ.t 24,n,X⟩->(∃m:List T,Row H X (l.take i++m++l.drop j)/\m.Perm ((l.take j).drop i)/\m.Pairwise (λ a b=>¬cf b a<0))->
   ∃v Y nr X,Ending.returned (.tuple #[])= .returned v/\Fits ⟨true,[]⟩ ((λ X (Y)=>∃m:List T,Row Y X (l.take i++m++l.drop j)/\m.Perm ((l.take j).drop i)/\m.Pairwise (λ a b=>¬cf b a<0)) X) v Y nr/\
    bV w D H Y s.ownBlock/\(true=true->fH P D B Y ⟨s,ρ.t 24,n,X⟩)/\
    (∀r∈nr,fH P D B Y r/\∀g,r.s.ownBlock=some g->w.heap.size<=g\/(true=false/\s.ownBlock=some g))/\bg nr:=by
  intro D X hg hx hm;exact⟨_,H,[],X,rfl,⟨rfl,rfl,hm⟩,hg,λ _=>hx,N' List.Pairwise.nil⟩
 by_cases b9:n=0
 .subst b9;obtain rfl:l=[]:=aal hl;have c5:=hr;subst c5;have b8:∃p c,s= .slice p 0 c:=by
   grind
  obtain⟨p,c,rfl⟩:=b8;obtain rfl:j=0:=by omega
  obtain rfl:i=0:=by omega
  refine(AnyF.insertionSortCmpFunc_none u.L p c _ w).mono ?_;rintro e D ⟨rfl,rfl⟩;refine a4 _ [] (bV.same hs) ⟨(T' (by rw[u.cells];simp_all)),b2,A⟩ ⟨[],rfl,acA _,List.Pairwise.nil⟩
 rcases E with⟨-,h0⟩ |⟨g,c,b4,rfl,c4,hb,b0,c0,d5,b5⟩
 .grind
 have d6:d.length=n:=by grind
 obtain⟨d0,-⟩:∃x,x∈d:=by
  cases d with
  | nil=>grind
  | cons x r=>simp_all
 haveI:Inhabited _:=⟨d0⟩
 have hk:∀x:{x:List _×T//Rep.rel H _ x.2},x.1.1.length=Rep.sz T:=λ x=>Rep.len x.2;have b6:=(aaA.1 hb).1;have d4:(flatK (λ x:{x:List _×T//Rep.rel H _ _}=>x.1.1) (Rep.sz T) d.toArray).toList=xs:=by rw[nN hk,e2]
 have a8:d.toArray.size=n:=by grind
 have e5:n*Rep.sz T<=c*Rep.sz T:=aaC _ b0;have hH:HoldsK (λ x:{x:G'×T//Rep.rel H x.1 x.2}=>x.1.1) (Rep.sz T) w g 0 d.toArray:=by
  intro j hj;have h1:b4.toList[j]?=xs[j]?:=by grind
  refine⟨?_,by simp[World.frozen?,hb]⟩;simp[World.cell?,id];grind
 have c6:CmpLays P f ⟨cap⟩ (λ x:{x:G'×T//Rep.rel H x.1 x.2}=>x.1.1) (Rep.sz T) (λ x y=>cf x.1.2 y.1.2) g 0 d.toArray.size w:=by
  intro m os dk d3 x y;obtain⟨c9,k1,k2,k3,k4,k5⟩:=cV (n:=m) (F:=flatK (λ x:{x:G'×T//Rep.rel H x.1 x.2}=>x.1.1) (Rep.sz T) dk) (os:=os) hb (by simp_all);have b7:ct H (sortWorldK (λ x:{x:G'×T//Rep.rel H x.1 x.2}=>x.1.1) (Rep.sz T) w g 0 m dk os):=by
   intro b o v hv;have a0:b≠g:=by
    rintro rfl;rw[A b rfl o]at hv;grind
   have h1:=hs b o v hv;refine h1.keep ?_;have:=k4 b h1.lt a0;unfold sortWorldK putRowK;grind
  have c8:=(a7 H _ _ _ _ (ah H) x.2 y.2).2 _ b7;have ea:(#[Value.agg x.1.1.toArray,Value.agg y.1.1.toArray]++(⟨cap⟩:Array Value))=([Value.agg ⟨x.1.1⟩,.agg ⟨y.1.1⟩]++cap).toArray:=by
   grind
  refine acd (by rw[ea];omega) ?_;rintro e D ⟨v,Y,nr,rfl,a9,G,-,-⟩;obtain⟨r,v',b1,d1,hv,hr⟩:=a9;simp[xJ,acf]at b1;subst b1;simp at hv;subst hv hr;refine⟨rfl,D.drawn-(sortWorldK (λ x:{x:List _×T//Rep.rel H _ _}=>x.1.1) (Rep.sz T) w g 0 m dk os).drawn,D.heap.extract (sortWorldK (λ x:{x:List _×T//Rep.rel H _ _}=>x.1.1) (Rep.sz T) w g 0 m dk os).heap.size D.heap.size,?_⟩;generalize sortWorldK _ _ w g 0 m dk _=h at G;have hd:=G.drawn;have e3:D.heap=h.heap++D.heap.extract h.heap.size D.heap.size:=by
   apply adB;intro i;by_cases hi:i<h.heap.size
   .rw[acn hi,G.below.block i hi]
   grind
  have e4:D.drawn=h.drawn+(D.drawn-h.drawn):=by omega
  cases D with
  | mk a b c d e=>
   have o1:=G.below.os;have o2:=G.below.tape;have o3:=G.below.output;unfold grow World.drewN;grind
 have a6:SWO (ltOf λ x y:{x:List _×T//Rep.rel H x.1 x.2}=>cf _ y.1.2):=
  ⟨λ x=>hO.irrefl _,λ x y z=>hO.trans _ _ _,λ x y z=>hO.ntrans _ _ _⟩
 have Q:=AnyQ.insertionSortCmpFunc u.L _ u.agg u.size _ hk (λ x=>Rep.one x.2) _ f _ g 0 c i j _ w
  (kQ hf) c6 hH b6 a5 (by grind) (by grind)
 rw[a8]at Q;refine Q.mono ?_;rintro e D ⟨rfl,m,os,rfl⟩;obtain⟨hp,c3⟩:=insertionSort_holds a6 d.toArray i j a5 (by grind);generalize insertionSort _ d.toArray i j=K at*;have a1:K.size=n:=by rw[hp.1,a8]
 obtain⟨a2,k1,k2,k3,k4,k5⟩:=cV (n:=m) (F:=flatK (λ x:{x:List _×T//Rep.rel H _ _}=>x.1.1) (Rep.sz T) K) (os:=os) hb (by simp_all);have c1:(flatK (λ x:{x:G'×T//Rep.rel H x.1 x.2}=>x.1.1) (Rep.sz T) K).toList=K.toList.flatMap (λ x=>x.1.1):=by
  have:=nN hk K.toList;omega
 have R:Row H _ (K.toList.map _):=uN _;have e0:(K.toList.flatMap (λ x=>x.1.1)).length=n*Rep.sz T:=by
  have:=R.length;grind
 refine a4 _ (K.toList.flatMap (λ x=>x.1.1)) ⟨⟨rfl,rfl,rfl,k5,λ k hk b3=>k4 k hk (λ e=>b3 (by rw[e];rfl)),acp _ _⟩,Heap.le_refl _,λ _ _ _ _=>rfl,?_⟩ ⟨⟨by rw[u.cells];grind,.inr ⟨g,c,a2,rfl,c4,k1,b0,c0,by rw[u.cells];grind,?_⟩⟩,?_,A⟩ ⟨(K.extract i j).toList.map (λ x=>x.1.2),?_,?_,?_⟩
 .intro b o v hv;have a0:b≠g:=by
   rintro rfl;rw[A b rfl o]at hv;grind
  have h1:=hs b o v hv;refine h1.keep ?_;have:=k4 b h1.lt a0;unfold sortWorldK putRowK;grind
 .rw[u.cells,<-c1,<-k3,size_flatK,a1]
 .intro x hx;obtain⟨y,_,hy⟩:=aaZ.1 hx;exact Rep.one y.2 x hy
 .have Z:K.toList=d.take i++(K.extract i j).toList++d.drop j:=by
   have c7:=hp.2.1;apply abU;intro t;by_cases h1:t<i
   .grind
   .by_cases h2:t<j
    .grind
    .rw[abk (by grind),aae,acq];grind
  have:=aak (List.map (λ x:{x:List _×T//Rep.rel H _ _}=>x.1.2)) Z;rw[this]at R;rw[<-e1];simpa[List.map_take]using R
 .have h1:=hp.2.2;have h2:(d.toArray.extract i j).toList=(d.take j).drop i:=by
   simp;rw[aej]
  rw[<-e1,<-List.map_take,<-List.map_drop];grind
 .rw[acJ];rw[aaX];intro p q d2 d8 d9;have d7:(K.extract i j).toList.length=j-i:=by grind
  have:=c3 (i+p) (i+q) (by simp) (by omega) (by omega);simp[ltOf]at this;grind
end Go.Vc
