/- A part of the proof. -/
import Derived.Test.YtnkineaffgkicaaGreatDoorH12
import Derived.Shelf.SlLaysF
set_option maxHeartbeats 0
set_option maxRecDepth 100000
set_option linter.unusedVariables false
set_option linter.defProp false
namespace Go.Vc
open Go Go.Sort Go.Shelf Go.Proofs Go.RowKit
def Kg {b:Type}[Inhabited b](a:b->Value)(w:World)(g:Nat)(l:List b):putRow a w g 0 l.toArray=putRow id w g 0 (l.map a).toArray:=by
 have h:(putCells a 0 l.toArray)=putCells id 0 (l.map a).toArray:=by
  unfold putCells;grind
 unfold putRow;grind
def Ao {T:Type}[Rep T](c:Rep.sz T=1){H:Heap}:∀{a:G'} {l:List T},Row H a l->∃d:List {x:Value×T//Rep.rel H [x.1] x.2},d.map (λ x=>x.1.2)=l/\d.map (λ x=>x.1.1)=a
 | a,[],h=>⟨[],rfl,h.symm⟩
 | a,t::l,⟨vs,ys,e1,e2,e3⟩=>by
  obtain⟨d,e,f⟩:=Ao c e3;have b:=Rep.len e2;rw[c]at b;obtain⟨v,rfl⟩:∃v,vs=[v]:=by
   match vs,b with
   |[v],_=>simp
  exact⟨⟨(v,t),e2⟩::d,T' (by grind)⟩
def Ap {T:Type}[Rep T]{H:Heap}:∀(d:List {x:Value×T//Rep.rel H [x.1] x.2}),Row H (d.map (λ x=>x.1.1)) (d.map (λ x=>x.1.2))
 |[]=>rfl
 | x::d=>⟨[x.1.1],_,rfl,x.2,Ap d⟩
def Ul (P:Program)(T:Type)[Rep T](H:Heap)(f:FuncId)(b:G')(c:T->T->Int):Prop:=
 ∀(a:Heap) (v u:Value) (s t:T),Heap.le H a->Rep.rel a [v] s->Rep.rel a [u] t->af P f ([v,u]++b) a gL (λ r _=>r=c s t)
def NU {P:Program}{S:Ren}{T:Type}[Rep T](M:Rep.sz T=1)(L:SlLaysF.n6 P S)(E:P.cellsOf (S.t 24)=1){H:Heap}{n:Nat}{xs:G'}{l:List T}(hr:Row H xs l)(hl:l.length=n)(hn:n<=140737488355328)
  {f:FuncId} (hf:fN P f) {cap:G'} {cf:T->T->Int} (hO:SWO (ltOf cf)) (Z:Ul P T H f cap cf):
  dJ P (S.f 6) [.slice none 0 0,.func (.func f) #[] ⟨cap⟩] 0 (S.t 24) n xs true H ⟨true,[]⟩ (λ D (I:Heap)=>∃m:List T,Row I D m/\m.Perm l/\m.Pairwise (λ a b=>¬cf b a<0)):=by
 refine⟨fN.mI L.f6 rfl,λ w B s hs hB b6=>?_⟩;obtain⟨⟨V,u⟩,a5,h⟩:=b6;simp only at V u a5 h;rw[E]at V u;obtain⟨d,e1,e2⟩:=Ao M hr;have X:∀(q:World) (D:List _),bV w q H H s.ownBlock->fH P q B H ⟨s,S.t 24,n,D⟩->(∃m:List T,Row H D m/\m.Perm l/\m.Pairwise (λ a b=>¬cf b a<0))->
   ∃v I nr D,Ending.returned (.tuple #[])= .returned v/\Fits ⟨true,[]⟩ ((λ D (I)=>∃m:List T,Row I D m/\m.Perm l/\m.Pairwise (λ a b=>¬cf b a<0)) D) v I nr/\
    bV w q H I s.ownBlock/\(true=true->fH P q B I ⟨s,S.t 24,n,D⟩)/\
    (∀r∈nr,fH P q B I r/\∀g,r.s.ownBlock=some g->w.heap.size<=g\/(true=false/\s.ownBlock=some g))/\bg nr:=by
  intro q D hg hx hm;exact⟨_,H,[],D,rfl,⟨rfl,rfl,hm⟩,hg,λ _=>hx,N' List.Pairwise.nil⟩
 by_cases b3:n=0
 .subst b3;obtain rfl:l=[]:=aal hl;have b9:=hr;subst b9;have b1:∃p c,s= .slice p 0 c:=by
   grind
  obtain⟨p,c,rfl⟩:=b1;refine(AnyF.slices_SortFunc_none {L with} p c _ w).mono ?_;rintro e q ⟨rfl,rfl⟩;refine X _ [] (bV.same hs) ⟨(N' (by simp_all)),a5,h⟩ ⟨[],rfl,acA _,List.Pairwise.nil⟩
 rcases u with⟨-,h0⟩ |⟨g,c,a7,rfl,b8,hb,b5,b4,b2,O⟩
 .grind
 simp at b2 O;have c6:d.length=n:=by grind
 obtain⟨d0,-⟩:∃x,x∈d:=by
  cases d with
  | nil=>grind
  | cons x r=>simp
 haveI:Inhabited _:=⟨d0⟩
 have J:OneCell (λ x:{x:Value×T//Rep.rel H [x.1] x.2}=>x.1.1):=λ x=>Rep.one x.2 _ (by simp);have a8:=(aaA.1 hb).1;have a0:d.toArray.size=n:=by grind
 have hH:Holds (λ x:{x:Value×T//Rep.rel H [x.1] x.2}=>x.1.1) w g 0 d.toArray:=by
  intro j hj;refine⟨?_,by simp[World.frozen?,hb]⟩;have h2:a7.toList[j]?=xs[j]?:=by grind
  simp[World.cell?];grind
 have N:∀(m:Nat) (G:Array _) (os:Array _),sortWorld (λ x:{x:Value×T//Rep.rel H [x.1] x.2}=>x.1.1) w g 0 m G os=grow (putRow id (Sort.ahead w m) g 0 (G.toList.map (λ x=>x.1.1)).toArray) os:=by
  intro m G os;unfold sortWorld;rw[<-Kg]
 have c0:CmpLays1 P f ⟨cap⟩ (λ x:{x:Value×T//Rep.rel H [x.1] x.2}=>x.1.1) (λ x y=>cf x.1.2 y.1.2) g 0 d.toArray.size w:=by
  intro m os G c5 x y;obtain⟨c3,k1,k2,k3,k4,k5⟩:=cV (n:=m) (F:=(G.toList.map (λ x=>x.1.1)).toArray) (os:=os) hb (by grind);have a9:ct H (sortWorld (λ x:{x:Value×T//Rep.rel H _ _}=>x.1.1) w g 0 m G os):=by
   intro b o v K;have Q:b≠g:=by
    rintro rfl;rw[h b rfl o]at K;grind
   have M:=hs b o v K;refine M.keep ?_;rw[N];exact k4 b M.lt Q
  have c2:=(Z H _ _ _ _ (ah H) x.2 y.2).2 _ a9;have ea:(#[x.1.1,y.1.1]++(⟨cap⟩:Array Value))=([x.1.1,y.1.1]++cap).toArray:=by
   simp
  refine acd (by rw[ea];omega) ?_;rintro e q ⟨v,I,nr,rfl,a2,A,-,-⟩;obtain⟨r,v',a4,c4,K,hr⟩:=a2;simp[xJ]at a4;subst a4;simp at K;subst K hr;refine⟨rfl,q.drawn-(sortWorld (λ x:{x:Value×T//Rep.rel H _ _}=>x.1.1) w g 0 m G os).drawn,q.heap.extract (sortWorld (λ x:{x:Value×T//Rep.rel H _ _}=>x.1.1) w g 0 m G os).heap.size q.heap.size,?_⟩;generalize sortWorld _ w g 0 m G _=W at A;have hd:=A.drawn;have e3:q.heap=W.heap++q.heap.extract W.heap.size q.heap.size:=by
   apply adB;intro i;by_cases hi:i<W.heap.size
   .rw[acn hi,A.below.block i hi]
   grind
  have e4:q.drawn=W.drawn+(q.drawn-W.drawn):=by omega
  cases q with
  | mk a b c d e=>
   have o1:=A.below.os;have o2:=A.below.tape;have o3:=A.below.output;unfold grow World.drewN;grind
 have Y:SWO (ltOf λ x y:{x:Value×T//Rep.rel H [x.1] x.2}=>cf _ y.1.2):=
  ⟨λ x=>hO.irrefl _,λ x y z=>hO.trans _ _ _,λ x y z=>hO.ntrans _ _ _⟩
 have C:=Any.slices_SortFunc L _ J _ Y f _ g 0 c _ w
  (kQ hf) c0 hH a8 (by grind)
 rw[a0]at C;refine C.mono ?_;rintro e q ⟨rfl,R,m,os,hp,b7,rfl⟩;have c1:R.size=n:=by rw[hp.1,a0]
 obtain⟨U,k1,k2,k3,k4,k5⟩:=cV (n:=m) (F:=(R.toList.map (λ x=>x.1.1)).toArray) (os:=os) hb (by grind);rw[N];have a3:Row H (R.toList.map _) _:=Ap _;refine X _ _ ⟨⟨rfl,rfl,rfl,k5,λ k hk a6=>k4 k hk (λ e=>a6 (by rw[e];rfl)),acp _ _⟩,Heap.le_refl _,λ _ _ _ _=>rfl,?_⟩ ⟨(T' (.inr ⟨g,c,U,rfl,b8,k1,b5,b4,T' ?_⟩)),?_,h⟩ ⟨R.toList.map _,a3,?_,?_⟩
 .intro b o v K;have Q:b≠g:=by
   rintro rfl;rw[h b rfl o]at K;grind
  have M:=hs b o v K;exact M.keep (k4 b M.lt Q)
 .grind
 .intro x hx;obtain⟨y,_,rfl⟩:=aaO.1 hx;exact J y
 .have M:R.toList.Perm d:=by
   have:=hp.2.2;have a1:R.extract 0 n=R:=by grind
   grind
  grind
 .rw[aaX];intro i j hi hj b0;have:=b7 i j (abi _) b0 (by grind);simp[ltOf]at this;grind
end Go.Vc
