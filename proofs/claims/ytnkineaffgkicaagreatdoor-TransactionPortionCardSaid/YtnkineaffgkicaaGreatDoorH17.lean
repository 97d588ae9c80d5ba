/- A part of the proof. -/
import Derived.Test.YtnkineaffgkicaaGreatDoorH15
import Derived.Test.YtnkineaffgkicaaGreatDoorH16
set_option maxHeartbeats 0
set_option maxRecDepth 100000
set_option linter.unusedVariables false
set_option linter.defProp false
set_option linter.unusedSimpArgs false
namespace Go.Vc
open Go Go.Shelf Go.Proofs
section
variable {a c:Int}{b f:Nat}{d:List (Value×Value)}{e:Heap}{g:aU}{h:TypeId}
structure bR where
 id:Int
 vals:List az
 vd:bc
 rc:bc
deriving DecidableEq
instance:Rep bR where
 sz:=6
 byt:=64
 rel H vs v:=∃A n c,vs=[.int .i64 v.id,.slice A n c,.int .i64 v.vd.lo,.int .i64 v.vd.hi,.int .i64 v.rc.lo,.int .i64 v.rc.hi]/\ae .i64 v.id/\Sl H A n c v.vals/\ae .i64 v.vd.lo/\ae .i64 v.vd.hi/\ae .i64 v.rc.lo/\ae .i64 v.rc.hi
 mono:=λ hle ⟨A,n,c,h1,h2,h3,h4⟩=>⟨A,n,c,h1,h2,h3.mono hle,h4⟩
 len:=λ ⟨A,n,c,h1,_⟩=>by simp[h1]
 pos:=by decide
 bpos:=by decide
 one:=λ ⟨A,n,c,h1,_⟩=>by rw[h1];simp[Value.oneCell']
def MB {k d:IntKind}:cK (.int k a) (.int d c)=decide (a=c):=rfl
def DR {k:IntKind}{v:Value}(h:cK (.int k a) v=true):∃b,v= .int b a:=by
 cases v<;>simp_all[cK]
def pR {k:IntKind}{a:Int}{x:Value}:∀c:List (Value×Value),cH (fL c (.int k a) x) (.int k a)=some x
 |[]=>by simp[cH,fL,MB]
 | p::r=>by
  have b:=pR (k:=k) (a:=a) (x:=x) r;unfold cH at b⊢;rw[fL];split
  .rw[abG,show cK (.int k a) (.int k a)=true from aau rfl];rfl
  grind
def uU {k:IntKind}{a b:Int}{x:Value}(c:b≠a):∀d:List (Value×Value),cH (fL d (.int k a) x) (.int k b)=cH d (.int k b)
 |[]=>by
  have:cK (.int k b) (.int k a)=false:=aao c;simp[cH,fL,this]
 | p::r=>by
  have e:=uU (k:=k) (x:=x) c r;unfold cH at e⊢;rw[fL];split
  .rename_i h;obtain⟨f,g⟩:=DR h;have j:cK (.int k b) (.int k a)=false:=aao c;have i:cK (.int k b) (.int f a)=false:=aao c;grind
  grind
def Ci {k:Value}:th d k=(cH d k).isSome:=by
 unfold th cH;grind
def zi (a:List bR)(k:Int):Option Nat:=a.findIdx? λ v=>decide (v.id=k)
def Gv (a:List (Value×Value))(b:List bR):Prop:=∀k,cH a (.int .i64 k)=(zi b k).map λ j=> .int .i64 j
def Gv.nil:Gv [] []:=λ _=>rfl
def Pr {b:List bR}{v:bR}:zi (b++[v]) a=if v.id=a/\zi b a=none then some b.length else zi b a:=by
 unfold zi;rw[List.findIdx?_append];cases List.findIdx? (λ v=>decide (v.id=a)) b with
 | some j=>simp
 | none=>
  simp
def uV {b:List bR}:zi b a=none↔∀v∈b,v.id≠a:=by
 unfold zi;simp
def MC {c:List bR}(h:zi c a=some b):∃d:b<c.length,c[b].id=a:=by
 unfold zi at h;rw[List.findIdx?_eq_some_iff_getElem]at h;grind
def nk (c:List bR):Prop:=c.Pairwise λ a b=>a.id<b.id
def nk.inj {a:List bR}(h:nk a)(d:b<a.length)(c:f<a.length)(e:a[b].id=a[f].id):b=f:=by
 rw[nk,aaX]at h;grind
def Se {a:List bR}(h:nk a)(f:b<a.length):zi a a[b].id=some b:=by
 cases c:zi _ _ with
 | none=>exact absurd rfl (uV.1 c _ (aan _))
 | some k=>
  obtain⟨d,e⟩:=MC c;rw[h.inj _ _ e]
def Gv.put {a:List bR}{v:bR}(h:Gv d a)(e:∀u∈a,u.id≠v.id):Gv (fL d (Φi v.id) (Φi a.length)) (a++[v]):=by
 intro k;rw[Pr];by_cases b:v.id=k
 .subst b;rw[pR,if_pos ⟨rfl,uV.2 e⟩];rfl
 .rw[uU (abu b),if_neg (λ c=>b c.1)];exact h k
abbrev WC:cj:=⟨true,[(false,[.mp]),(false,[.bool])]⟩
abbrev WD:cj:=⟨true,[(false,[.mp]),(false,[.int .i64])]⟩
def tQ (O:aU)(b:Nat)(t:TypeId)(c:List (Value×Value)):Prop:=O b=some (.mp t c)/\∀a,a≠b->O a=none
def Tu.only (a:Tu ux g b h):tQ g b h []:=⟨a.2.1,a.2.2⟩
def tQ.put {c:aU}{f:List (Value×Value)}(a:tQ g b h d)(k:UX g c (some b) h f):tQ c b h f:=by
 obtain⟨m,e,j,l⟩:=k;cases e;exact⟨j,λ n i=>(l _ i).trans (a.2 _ i)⟩
def tQ.Vx (a:tQ g b h d):tQ (pf g) b h d:=by
 refine⟨by unfold pf;rw[a.1],λ e c=>by unfold pf;rw[a.2 _ c]⟩
def Ps {A:D'}{h:List bR}(p:Sl e A b f h)(F:nk h):
  LX Tryz.prog 428 [S A b f] e ux WC (λ B C _ x=>C=true/\∃d k,B=some d/\tQ x d 508 k/\Gv k h):=by
 refine Vs 0 {aj [] [] [(3,[ag 12])]with opn:=true} (λ a=>∀(c:Nat)(d:Nat->Option XO),Tu ux d c 508->vb ZE e (λ f=>f 0 e d) λ f g h i j=>J (j<O b) (ΦX A j b (ΦE ZH h A (N j*6) (λ k l m n o p q r=>∃s:List (Value×Value),UU i (some c) 508 s/\∃t:Int,tp s (I k) false [I 0] [I t]/\ΦQ (th s (I k)) (a none false h (pf i)) (∃u:List (Value×Value),UW i (some c) 508 u/\∀v:Nat->Option XO,UX i v (some c) 508 (fL u (I k) (I j))->ΦR (j+1)/\f (j+1) h v/\g (j+1)<g j)))) (a (some c) true h (pf i))) ?_;dsimp only[PL,aW,eQ,ΦE,N,ΦQ,ΦR,vb,ΦX,O,J];intro d O1 m;have L:=p.bn;have W:=p.len;refine⟨λ i _ a=>0<=i/\i<=b/\∃k,tQ a d _ k/\Gv k (h.take i.toNat),λ i=>b-i.toNat,P' ⟨[],m.only,by simpa using Gv.nil⟩,?_⟩;rintro Y q T i ⟨r,Q,k,o,t⟩;simp only[aad,aaf];refine⟨λ l=>?_,λ w=>⟨trivial,d,k,rfl,o.Vx,?_⟩⟩
 .obtain⟨X,y,_,G,U,R,P,rfl,V⟩:=p.at q r l;have v:∀u∈h.take i.toNat,u.id≠h[i.toNat].id:=by
   intro u E g;obtain⟨j,Z,rfl⟩:=aaM E;rw[acv]at g;have:=F.inj _ _ g;grind
  have z:cH k (Φi h[i.toNat].id)=none:=by
   rw[t,uV.2 v];rfl
  refine⟨y,r,l,_,_,_,_,_,_,_,_,G,k,.inr ⟨d,rfl,o.1⟩,0,by rw[tp,z],λ D=>?_,λ _=>⟨k,⟨d,rfl,o.1⟩,λ M s=>⟨?_,y' ⟨_,o.put s,?_⟩,by omega⟩⟩⟩
  .rw[Ci]at D;grind
  .omega
  .have g:h.take (i+1).toNat=h.take i.toNat++[h[i.toNat]]:=by
    rw[show(i+1).toNat=i.toNat+1 by omega,aaj _]
   have s:=t.put v;grind
 .rw[show h=h.take i.toNat by rw[aag (by omega)]];grind
def tT {d h g:Int}{A:D'}:ZB 431 [.agg ⟨[Φi a,S A b f,Φi c,Φi d,Φi h,Φi g]⟩] e fg (λ r _=>r=decide (g=1099511627776)):=by
 refine ΦK 0 bE (λ a=>a (decide (g=1099511627776)) e) ?_;dsimp only[]
def eo (p:bc):Bool:=dm p&&decide (p.hi<=1000000)
def dX:ZB 151 [.agg ⟨[Φi a,Φi c]⟩] e fg (λ r _=>r=dm ⟨a,c⟩):=by
 refine ΦK 0 bE (λ b=>J (0<=a) (J (a<c) (b (decide (c<=1099511627776)) e) (b false e)) (b false e)) ?_;dsimp only[J];grind[dm]
def fw:ZB 138 [.agg ⟨[Φi a,Φi c]⟩] e fg (λ r _=>r=eo ⟨a,c⟩):=by
 refine ΦK 0 (aj [4] [] []) (λ b=>C ZO 139 [ΦG [I a,I c]] e λ d f=>ΦQ f (b (decide (c<=1000000)) d) (b false d)) ?_;dsimp only[aQ,aR,C,ΦQ];refine⟨_,bX,λ d f r h=>?_⟩;unfold eo;grind
end
section
variable {a:Heap}{b d:Nat}{c:D'}{e:List bR}{f:FuncId}{g:List aO}
def Bd {q:Value}{p:bR->Bool}(s:Sl a c b d e)(x:kP Tryz.prog bR a f q p):
  ZB 485 [S c b d,.func (.func f) #[] #[q]] a gL (λ r _=>r=idxOf p 0 e):=by
 refine ΦK 0 (aj [16] [] [(2,[ag 8])]) (λ d=>W ZE a (λ e=>e 0 a) λ e g h i=>J (i<O b) (ΦX c i b (ΦE ZH h c (N i*6) (λ j k l m n o p r=>C ZO f [ΦG [I j,S k l m,I n,I o,I p,I r],q] h λ s t=>ΦQ t (d i s) (ΦR (i+1)/\e (i+1) s/\g (i+1)<g i)))) (d (-1) h)) ?_;dsimp only[PL,aQ,aR,aW,eQ,C,ΦE,N,ΦQ,ΦR,W,ΦX,O,J];refine⟨λ b _=>0<=b/\b<=e.length/\idxOf p 0 e=idxOf p b (e.drop b.toNat),λ b=>e.length-b.toNat,P' rfl,?_⟩;rintro L k i ⟨o,E,t⟩;simp only[aad,aaf];refine⟨λ h=>?_,λ m=>?_⟩
 .obtain⟨y,v,_,z,u⟩:=s.at k o h;have j:=x _ _ _ k u;obtain⟨G,F,D,rfl,-⟩:=u;refine⟨v,o,h,_,_,_,_,_,_,_,_,z,_,j,?_⟩;rintro B _ g rfl;rw[ak o y,idxOf]at t;refine⟨λ w=>?_,λ w=>⟨?_,y' ?_,by omega⟩⟩
  .grind
  .have:=s.bn;omega
  grind
 .rw[ai m s.len,idxOf]at t;grind
def uW {q:Value}{p:bR->Bool}(h:Sl a c b d e)(g:kP Tryz.prog bR a f q p):
  ZB 429 [S c b d,.func (.func f) #[] #[q]] a fg (λ r _=>r=e.any p):=by
 refine ΦK 0 (aj [7] [] []) (λ e=>C ZP 485 [S c b d,.func (.func f) ⟨[]⟩ ⟨[q]⟩] a λ g h=>e (decide (0<=h)) g) ?_;dsimp only[aQ,aR,C];refine⟨_,Bd h g,?_⟩;rintro i _ r rfl;rw[aaH,aad];exact eU p e 0 (by simp)
def Jh (P:Program)(T:Type)[Rep T](H:Heap)(f:FuncId)(p:T->Bool):Prop:=
 ∀(a:Heap) (c:G') (t:T),Heap.le H a->Rep.rel a c t->af P f [.agg ⟨c⟩] a fg (λ b _=>b=p t)
def Gw {p:aO->Bool}(q:Sl a c b d g)(w:Jh Tryz.prog aO a f p):
  ZB 323 [S c b d,.func (.func f) #[] #[]] a gL (λ r _=>r=idxOf p 0 g):=by
 refine ΦK 0 (aj [16] [] [(2,[ag 8])]) (λ d=>W ZE a (λ e=>e 0 a) λ e g h i=>J (i<O b) (ΦX c i b (ΦE ZI h c (N i*4) (λ j k l m n o p q=>C ZO f [ΦG [S j k l,I m,I n,S o p q]] h λ r s=>ΦQ s (d i r) (ΦR (i+1)/\e (i+1) r/\g (i+1)<g i)))) (d (-1) h)) ?_;dsimp only[PL,aQ,aR,aW,eQ,C,ΦE,N,ΦQ,ΦR,W,ΦX,O,J];refine⟨λ b _=>0<=b/\b<=g.length/\idxOf p 0 g=idxOf p b (g.drop b.toNat),λ b=>g.length-b.toNat,P' rfl,?_⟩;rintro M k i ⟨o,E,s⟩;simp only[aad,aaf];refine⟨λ h=>?_,λ m=>?_⟩
 .obtain⟨x,u,_,y,t⟩:=q.at k o h;have j:=w _ _ _ k t;obtain⟨L,F,D,G,B,P,rfl,-⟩:=t;refine⟨u,o,h,_,_,_,_,_,_,_,_,y,_,j,?_⟩;rintro z _ e rfl;rw[ak o x,idxOf]at s;refine⟨λ v=>?_,λ v=>⟨?_,y' ?_,by omega⟩⟩
  .grind
  .have:=q.bn;omega
  grind
 .rw[ai m q.len,idxOf]at s;grind
def zj {p:aO->Bool}(h:Sl a c b d g)(e:Jh Tryz.prog aO a f p):
  ZB 432 [S c b d,.func (.func f) #[] #[]] a fg (λ r _=>r=g.any p):=by
 refine ΦK 0 (aj [7] [] []) (λ e=>C ZP 323 [S c b d,.func (.func f) ⟨[]⟩ ⟨[]⟩] a λ g h=>e (decide (0<=h)) g) ?_;dsimp only[aQ,aR,C];refine⟨_,Gw h e,?_⟩;rintro i _ r rfl;rw[aaH,aad];exact eU p g 0 (by simp)
def MD {f:Int}(e:Cells a (some ⟨b,0,none⟩) 0 [Φi f]):kP Tryz.prog bR a 430 (.pointer (some ⟨b,0,none⟩)) (λ v=>decide (f<=v.id)):=by
 rintro i h v d ⟨A,n,c,rfl,-⟩;refine ΦK 0 bE (λ a=>ΦE ZE i (some ⟨b,0,none⟩) 0 λ c=>a (decide (c<=v.id)) i) ?_;dsimp only[eQ,ΦE];exact⟨f,e.mono d,rfl⟩
def ME:Jh Tryz.prog aO a 433 (λ t=> !eo t.p):=by
 rintro f e v b ⟨A,n,c,B,m,d,rfl,-⟩;refine ΦK 0 (aj [5] [] []) (λ a=>C ZO 138 [ΦG [I v.p.lo,I v.p.hi]] f λ b c=>a (!c) b) ?_;dsimp only[aQ,aR,C];refine⟨_,fw,?_⟩;simp
structure Sf (es:List (Value×Value))(vs:List bR)(cl:I'):Prop where
 at':∀j (hj:j<vs.length),cH es (.int .i64 j)=if vs[j].id∈cl then some (.bool true)else none
 ent:∀p∈es,∃(j:Nat) (hj:j<vs.length),p=(.int .i64 j,.bool true)/\vs[j].id∈cl
def Sf.nil:Sf [] e []:=⟨λ j a=>by rfl,λ p b=>by grind⟩
def Sf.put {g:List (Value×Value)}{d:I'}(h:Sf g e d)(i:nk e)(m:b<e.length):Sf (fL g (Φi b) (.bool true)) e (d++[e[b].id]):=by
 refine⟨λ j f=>?_,λ p c=>?_⟩
 .by_cases a:(j:Int)=b
  .have a:j=b:=by omega
   subst a;rw[pR];simp
  .rw[uU a,h.at' j f];have:e[j].id≠e[b].id:=λ l=>a (by have:=i.inj _ _ l;omega);grind
 .rcases FT c with c | rfl
  .obtain⟨j,f,a,n⟩:=h.ent p c;grind
  grind
def Pt {b:Array MapEntry}{a:Array Nat}{e:MapEntry}(h:CY e b a):(pe b (a.push e.born)).size<(pe b a).size:=by
 rw[<-acX];have c:(pe b (a.push e.born)).toList=(pe b a).toList.filter λ x=> !(x.born==e.born):=by
  unfold pe;rw[Array.toList_filter,Array.toList_filter,adf];grind
 rw[c];exact List.length_filter_lt_length_iff_exists.2 ⟨e,h,by simp⟩
structure Gx (vs:List bR)(cl:I')(ad:List aO)(t f:Int):Prop where
 lI:nk vs
 t0:0<=t
 t1:t<1099511627776
 f0:1<=f
 f1:f<=1099511627776
 new:∀v∈vs,v.id<f
 nd:cl.Nodup
 cur:∀x∈cl,∃v∈vs,v.id=x/\v.rc.hi=1099511627776/\v.rc.lo<=t
 days:∀a∈ad,eo a.p=true
def Pu {B E:D'}{m p k o:Nat}{T:I'}{t f:Int}(hs:Sl a c b d e)(hc:Sl a B m p T)(hd:Sl a E k o g)(D:Gx e T g t f):
  LX Tryz.prog 336 [S c b d,.agg ⟨[S B m p,S E k o]⟩,Φi t,Φi f] a ux WD (λ M c0 _ O'=>c0=0/\∃s F,M=some s/\O' s=some (.mp 423 F)/\Sf F e T):=by
 refine Vs 0 {aj [44,72,94] [] [(6,[ag 50]),(14,[])]with kz:=λ t=>match t with | 1000082=>some [3,4] | t=>Gh t,res:=wj [(20,⟨true,[(false,[.mp]),(false,[.bool])]⟩)],opn:=true,mo:=true,pbx:=mem [7],oc:=mem [428]} (λ e=>∀(g h:Nat)(i:Heap),Heap.le a i->Cells i (some ⟨g,0,none⟩) 0 [I f]->1<=h->tR ZQ 428 [S c b d] i ux λ j l n p=>let q:=λ q=>e none 1 q (pf l);ΦQ (!p) (q j) (J (t<0) (q j) (J (1099511627776<=t) (q j) (ΦE ZE j (some ⟨g,0,none⟩) 0 (λ r=>J (r<1) (q j) (ΦE ZE j (some ⟨g,0,none⟩) 0 (λ s=>J (1099511627776<s) (q j) (C ZO 429 [S c b d,.func (.func 430) ⟨[]⟩ ⟨[.pointer (some ⟨g,0,none⟩)]⟩] j (λ u v=>ΦQ v (q u) (∀(w:Nat)(x:Nat->Option XO),Tu l x w 423->∃(y:Int->Heap->aU->Prop)(z:Int->aU->Nat),y 0 u x/\∀a0:Heap,Heap.le u a0->∀(a1:Nat->Option XO)(a2:Int),y a2 a0 a1->J (a2<O m) (ΦX B a2 m (ΦE ZE a0 B (N a2*1) (λ a3=>∃a4:List (Value×Value),UU a1 n 508 a4/\∃a5:Int,tp a4 (I a3) false [I 0] [I a5]/\let a6:=λ a6=>e none 11 a6 (pf a1);ΦQ (!th a4 (I a3)) (a6 a0) (∃a7:List (Value×Value),UU a1 (some w) 423 a7/\∃a8:Bool,tp a7 (I a5) false [ΦB false] [ΦB a8]/\ΦQ a8 (a6 a0) (ΦX c a5 b (ΦE ZH a0 c (N a5*6) (λ a9 b0 b1 b2 b3 b4 b5 b6=>C ZO 431 [ΦG [I a9,S b0 b1 b2,I b3,I b4,I b5,I b6]] a0 λ b7 b8=>ΦQ (!b8) (a6 b7) (∃b9:List (Value×Value),UW a1 (some w) 423 b9/\∀c0:Nat->Option XO,UX a1 c0 (some w) 423 (fL b9 (I a5) (ΦB true))->ΦR (a2+1)/\y (a2+1) b7 c0/\z (a2+1) c0<z a2 a1)))))))) (∃a3:List (Value×Value),UW a1 (some w) 423 a3/\∀(a4:Array MapEntry)(a5 a6:Nat)(a7:Nat->Option XO),Wv a1 a7 (some w) 423 a3 a4 a5 a6->∃(a8:Heap->aU->Prop)(a9:aU->Nat),a8 a0 a7/\∀b0:Heap,Heap.le a0 b0->∀b1:Nat->Option XO,a8 b0 b1->∃(b2 b3 b4:Nat)(b5:Array MapEntry)(b6:Array Nat)(b7:Option MapEntry),b1 a6=some (XO.it b2 b3 b6 b7)/\b1 b2=some (XO.Tt b4 b5 b3)/\(Iu b5 b6->C ZO 432 [S E k o,.func (.func 433) ⟨[]⟩ ⟨[]⟩] b0 (λ b8 b9=>ΦQ b9 (e none 10 b8 (pf b1)) (e (some w) 0 b8 (pf b1))))/\∀(b8:MapEntry)(b9:Nat->Option XO),CY b8 b5 b6->Ww b1 b9 a6 b2 b3 b6 b8->∃(c0 c1 c2:Nat)(c3:Array MapEntry)(c4:Array Nat)(c5:MapEntry),b9 a6=some (XO.it c0 c1 c4 (some c5))/\b9 c0=some (XO.Tt c2 c3 c1)/\UY c5 c3/\∃c6:Int,isKey c5 (some (I c6))/\∃c7:Bool,isVal c5 (some (ΦB c7))/\ΦX c c6 b (ΦE ZE b0 c (N c6*6+4+0) (λ c8=>J (t<c8) (e none 10 b0 (pf b9)) (a8 b0 b9/\a9 b9<a9 b1)))))))))))))) ?_;dsimp only[aQ,aR,eQ,C,tR,ΦE,N,ΦQ,ΦR,ΦX,O,J];intro g0 c1 H2 V a1 _;have b1:=hs.bn;have b2:=hs.len;have d1:=hc.bn;have d2:=hc.len;refine⟨_,Ps (hs.mono V) D.lI,?_⟩;rintro H7 z O9 e3 ok ⟨rfl,b0,a8,rfl,a5,b4⟩;have G:=aa V z;refine⟨λ h=>(by cases h),λ _=>⟨λ h=>(by have:=aab h;have:=D.t0;omega),λ _=>⟨λ h=>(by have:=aab h;have:=D.t1;omega),λ _=>⟨f,a1.mono z,λ h=>(by have:=aab h;have:=D.f0;omega),λ _=>⟨f,a1.mono z,λ h=>(by have:=aab h;have:=D.f1;omega),λ _=>⟨_,uW (hs.mono G) (MD (a1.mono z)),?_⟩⟩⟩⟩⟩⟩;rintro e6 Y r rfl;replace G:=aa G Y;refine⟨λ h=>?_,λ _=>?_⟩
 .obtain⟨v,hv,h⟩:=abD.1 h;have:=aab h;have:=D.new v hv;omega
 intro w d7 R;have hb:w≠b0:=λ o=>by subst o;have h9:=a5.1;rw[R.1]at h9;grind
 refine⟨λ i _ u=>0<=i/\i<=m/\u _=some _/\∃F,u _=some (.mp _ F)/\Sf F e (T.take i.toNat),λ i _=>m-i.toNat,P' ⟨by rw[R.2.2 _ (abu hb)];exact a5.1,[],R.2.1,by simpa using Sf.nil⟩,?_⟩;rintro d6 y d8 i ⟨h0,h1,c5,F,a2,Q⟩;simp only[aad,aaf];refine⟨λ a6=>?_,λ e5=>?_⟩
 .obtain⟨hi,hA,_,c6,rfl,hr⟩:=hc.at (aa G y) h0 a6;obtain⟨v,hv,P,c2,c3⟩:=D.cur _ (aan hi);obtain⟨j,hj,rfl⟩:=aaM hv;have a7:cH a8 (Φi T[i.toNat])=some (Φi j):=by rw[b4,<-P,Se D.lI _];rfl
  have a9:e[j].id∉T.take i.toNat:=by
   rw[P];intro hm;obtain⟨q,hq,o⟩:=aaM hm;rw[acv]at o;have:=(aeF D.nd).1 o;grind
  have b7:cH F (Φi j)=none:=by rw[Q.at' j hj,if_neg a9]
  refine⟨hA,h0,a6,_,c6,a8,.inr ⟨b0,rfl,c5⟩,(j),by rw[tp,a7];rfl,λ h=>?_,λ _=>⟨F,.inr ⟨w,rfl,a2⟩,false,by rw[tp,b7],λ h=>(by grind),λ _=>?_⟩⟩
  .rw[Ci]at h;grind
  obtain⟨c8,a4,_,Z,A9,n9,c9,rfl,d0⟩:=hs.at (i:=(j)) (aa G y) (by simp) (by omega);refine⟨a4,by simp,by omega,_,_,_,_,_,_,_,_,Z,_,tT,?_⟩;rintro e0 b6 _ rfl;refine⟨λ h=>?_,λ _=>⟨F,⟨w,rfl,a2⟩,λ d9 hp=>⟨?_,y' ⟨?_,fL F (Φi j) (.bool true),?_,?_⟩,by omega⟩⟩⟩
  .grind
  .omega
  .obtain⟨b9,e9,k1,k2⟩:=hp;grind
  .obtain⟨b9,e9,k1,k2⟩:=hp;grind
  .have o:T.take (i+1).toNat=T.take i.toNat++[e[j].id]:=by
    rw[show(i+1).toNat=i.toNat+1 by omega,aaj _,P]
   rw[o];exact Q.put D.lI _
 .have Q:Sf F e T:=by rw[show T=T.take i.toNat by rw[aag (by omega)]];grind
  refine⟨F,⟨w,rfl,a2⟩,λ U L r d5 b3=>?_⟩;obtain⟨c4,b9,e9,q1,q2,q3,q4⟩:=b3;cases e9;refine⟨λ _ u=>(∃x a0,u r=some (.it _ _ x a0))/\u _=some _,λ u=>match u r with
   | some (.it _ _ x _)=>(pe U x).size
   | _=>0,⟨⟨_,_,q2⟩,q3⟩,?_⟩
  rintro e7 a3 d4 ⟨⟨x,a0,k1⟩,k2⟩;have W:=aa G (aa y a3);refine⟨w,L,_,U,x,a0,k1,k2,λ _=>⟨_,zj (hd.mono W) ME,?_⟩,λ e1 e4 b5 b8=>?_⟩
  .rintro e2 _ _ rfl;refine⟨λ h=>?_,λ _=>⟨trivial,w,F,rfl,?_,Q⟩⟩
   .obtain⟨l,ha,h⟩:=abD.1 h;rw[D.days l ha]at h;grind
   .unfold pf;grind
  .obtain⟨n1,n2⟩:=b8;have X:e1∈U.toList:=by
    have:e1∈(pe _ _).toList:=b5;unfold pe at this;grind
   have c7:w≠r:=λ o=>by grind
   obtain⟨j,hj,hp,d3⟩:=Q.ent _ (by rw[<-c4];exact aaO.2 ⟨e1,X,rfl⟩);simp at hp;obtain⟨v,hv,P,c2,c3⟩:=D.cur _ d3;obtain⟨j2,e8,rfl⟩:=aaM hv;have:=D.lI.inj _ _ P;subst this;obtain⟨c8,a4,_,Z,A9,n9,c9,rfl,d0⟩:=hs.at (i:=(j2)) W (by simp) (by omega);refine⟨w,L,_,U,_,e1,n1,by rw[n2 _ c7];omega,X,(j2),by rw[isKey,hp.1],true,by rw[isVal,hp.2],a4,by simp,by omega,_,Z.cy (k:=4) rfl,λ h=>?_,λ _=>⟨⟨⟨_,_,n1⟩,by grind⟩,?_⟩⟩
   .grind
   .simp[n1,k1];exact Pt b5
end
section
variable {a:Int}
def fx {H:Heap}{A:D'}{n c:Nat}{l:List az}(a:Sl H A n c l):
  ZB 82 [S A n c] H fi (λ i m g k=>Sl k i m g l):=by
 refine ΦK 0 bE (λ a=>ΦQ (Option.isNone A) (a none 0 0 H) (∃b:G',Cells H A 0 b/\L b=n*3/\(0+n)*32<=M/\U H ([]++b) (0+n) λ c d e=>a c (0+n) d e)) ?_;dsimp only[L,M,ΦQ];refine⟨λ q=>?_,λ q=>?_⟩
 .have:n=0:=by
   rcases abl n with h | h
   .grind
   .obtain⟨b,o,e⟩:=a.cD h;grind
  subst this;rw[aal a.len];exact Sl.nil
 .obtain⟨r,p,f⟩:=a.row;refine⟨r,p,by rw[f.length,a.len];rfl,by have:=a.bnd;rw[aaT];omega,λ i g k d s j=>?_⟩;rw[aaT]at j⊢;exact f.sl d (by grind) a.len j a.bnd a.bn
def kR (a:I')(t:Int)(v:bR):List bR:=if v.id∈a then(if v.rc.lo=t then[]else[{v with rc:=⟨v.rc.lo,t⟩}])else[v]
def cp (a:I')(t:Int)(b:List bR):List bR:=b.flatMap (kR a t)
def gN (f t:Int):List aO->List bR
 |[]=>[]
 | a::r=>⟨f,a.vals,a.p,⟨t,1099511627776⟩⟩::gN (f+1) t r
def jN (b:List bR)(a:I')(c:List aO)(t f:Int):List bR:=cp a t b++gN f t c
def zk {t:Int}{a:aO}:∀{l:List aO} {f:Int},gN f t (l++[a])=gN f t l++[⟨f+l.length,a.vals,a.p,⟨t,1099511627776⟩⟩]
 |[],f=>by simp[gN]
 | b::l,f=>by
  rw[aby,gN,zk,gN];grind
def tU {t:Int}:∀{l:List aO} {f:Int},(gN f t l).length=l.length
 |[],_=>rfl
 | _::l,_=>by rw[gN,aav,tU,aav]
def iJ {cl:I'}{t:Int}{vs:List bR}:(cp cl t vs).length<=vs.length:=by
 induction vs with
 | nil=>simp[cp]
 | cons v vs a=>
  have:cp cl t (v::vs)=kR cl t v++cp cl t vs:=by rfl
  rw[this,aae,aav];have:(kR cl t v).length<=1:=by unfold kR;grind
  omega
def sD {b:I'}{c:List bR}{v:bR}:cp b a (c++[v])=cp b a c++kR b a v:=by simp[cp]
abbrev TO:cj:=⟨true,[(false,[.sl]),(false,[.int .i64])]⟩
def bu {T:Type}{l:List T}(c:0<=a)(b:a.toNat<l.length):l.take (a+1).toNat=l.take a.toNat++[l[a.toNat]]:=by
 rw[show(a+1).toNat=a.toNat+1 by omega,aaj _]
def Pv {H:Heap}{A B E:D'}{n c m d k e:Nat}{x:List bR}{X:I'}{w:List aO}{f:Int}(hs:Sl H A n c x)(hc:Sl H B m d X)(hd:Sl H E k e w)(Z:Gx x X w a f)
  (hb:(n+k)*64<=140737488355328):ZB 259 [S A n c,.agg ⟨[S B m d,S E k e]⟩,Φi a,Φi f] H TO (λ A' n' c' a8 H'=>a8=0/\Sl H' A' n' c' (jN x X w a f)):=by
 refine ΦK 2 {aj [] [(17,ab 2 6 [16,18,20,22,15,24,27,29,30,0])] [(6,[.slot 12 false [.row 79 75],ag 30]),(15,[.slot 12 false [.row 80 75],ag 58])]with res:=wj [(22,⟨true,[(false,[.mp]),(false,[.int .i64])]⟩)],opn:=true,oc:=mem [336]} (λ b=>tR ZR 336 [S A n c,ΦG [S B m d,S E k e],I a,I f] H ux λ g h i j=>V (j=0) (b none 0 0 j g) (vb ZG g (λ l=>l 0 [] 0 g h) (λ l o p q r s t=>J (t<O n) (ΦX A t n (ΦE ZH p A (N t*6) (λ u v w x y z a0 a1=>∃a2:List (Value×Value),UU q i 423 a2/\∃a3:Bool,tp a2 (I t) false [ΦB false] [ΦB a3]/\ΦQ a3 (J (a0=a) (ΦR (t+1)/\l r s (t+1) p q/\o r s (t+1)<o r s t) (C ZT 82 [S v w x] p (λ a4 a5 a6 a7=>(r+1)*64<=M/\ΦR (t+1)/\let a8:=s++[Value.int .i64 u,S a5 a6 a7,I y,I z,I a0,I a];l (r+1) a8 (t+1) a4 q/\o (r+1) a8 (t+1)<o r s t))) (C ZT 82 [S v w x] p (λ a4 a5 a6 a7=>(r+1)*64<=M/\ΦR (t+1)/\let a8:=s++[Value.int .i64 u,S a5 a6 a7,I y,I z,I a0,I a1];l (r+1) a8 (t+1) a4 q/\o (r+1) a8 (t+1)<o r s t))))) (vb ZG p (λ u=>u r s 0 p q) (λ u v w x y z a0=>J (a0<O k) (ΦX E a0 k (ΦE ZI w E (N a0*4) (λ a1 a2 a3 a4 a5 a6 a7 a8=>ΦR (f+a0)/\C ZT 82 [S a1 a2 a3] w λ a9 b0 b1 b2=>(y+1)*64<=M/\ΦR (a0+1)/\let b3:=z++[Value.int .i64 (f+a0),S b0 b1 b2,I a4,I a5,I a,I 1099511627776];u (y+1) b3 (a0+1) a9 x/\v (y+1) b3 (a0+1)<v y z a0))) (U w z y (λ a1 a2 a3=>b a1 y a2 0 a3))))))) ?_;dsimp only[PL,aQ,aR,aW,eQ,C,tR,ΦE,M,N,ΦQ,ΦR,vb,ΦX,O,V,J];have s2:=hs.len;have d2:=hd.len;have g1:=Z.t0;have g2:=Z.t1;have g3:=Z.f0;have g4:=Z.f1;refine⟨_,Pu hs hc hd Z,?_⟩;rintro H1 a1 O3 A4 n5 ⟨rfl,b,es,rfl,hO,a7⟩;refine⟨λ h=>(by simp at h),λ _=>?_⟩;refine⟨λ q xs i H' g=>0<=i/\i<=n/\q=(cp X a (x.take i.toNat)).length/\Row H' xs (cp X a (x.take i.toNat))/\g b=some (.mp 423 es),λ _ _ i=>n-i.toNat,y' ⟨rfl,rfl,hO⟩,?_⟩;rintro b1 W b6 q xs i ⟨h0,h1,hq,u,s⟩;have y:=aa a1 W;simp only[aad,aaf];refine⟨λ v=>?_,λ a9=>?_⟩
 .obtain⟨hi,hA,_,R,A9,n9,c9,rfl,r1,r2,r3,r4,r5,r6⟩:=hs.at y h0 v;have b9:q<=i.toNat:=by rw[hq];exact aax iJ (by simp;omega)
  have Y:=a7.at' i.toNat hi;refine⟨hA,h0,v,_,_,_,_,_,_,_,_,R,es,.inr ⟨b,rfl,s⟩,decide (x[i.toNat].id∈X),?_,λ T=>⟨λ b5=>⟨?_,y' ⟨?_,?_,s⟩,by omega⟩,λ a2=>⟨_,fx r2,?_⟩⟩,λ T=>⟨_,fx r2,?_⟩⟩
  .rw[show((i.toNat:Nat):Int)=i by omega]at Y;rw[tp,Y];by_cases hm:x[i.toNat].id∈X<;>simp[hm,xJ]
  .grind
  all_goals try rw[bu h0 hi,sD,kR,if_pos (aab T)]
  .grind
  .grind
  .rintro a5 o z F G r;refine u' ⟨by grind,y' ⟨?_,?_,s⟩,by omega⟩;all_goals rw[if_neg a2]
   .grind
   .exact(u.mono o).append (Row.one ⟨z,F,G,rfl,r1,r,r3,r4,r5,by grind⟩)
  .rintro a5 o z F G r;refine u' ⟨by grind,y' ⟨?_,?_,s⟩,by omega⟩;all_goals rw[bu h0 hi,sD,kR,if_neg (aac T)]
   .grind
   .exact(u.mono o).append (Row.one ⟨z,F,G,rfl,r1,r,r3,r4,r5,r6⟩)
 .have e:x.take i.toNat=x:=aag (by omega);rw[e]at hq u;have c0:q<=n:=by rw[hq,<-s2];exact iJ
  refine⟨λ q xs i H' g=>0<=i/\i<=k/\q=(cp _ a _++gN f a (w.take i.toNat)).length/\Row H' xs (cp _ a _++gN f a (w.take i.toNat)),λ _ _ i=>k-i.toNat,P' ⟨by simpa[gN]using hq,by simpa[gN]using u⟩,?_⟩;rintro b8 D b7 q2 b3 j ⟨j0,j1,P,l⟩;have a0:=aa y D;simp only[aad];have a6:q2<=n+j.toNat:=by
   rw[P,aae,tU];grind
  refine⟨λ v=>?_,λ a9=>?_⟩
  .obtain⟨hj,hA,_,R,A9,n9,c9,B9,m9,d9,rfl,r2,r3,r4,r5⟩:=hd.at a0 j0 v;refine⟨hA,j0,v,_,_,_,_,_,_,_,_,R,by grind,_,fx r2,?_⟩;rintro b4 L a3 b0 a4 r;have e2:gN f a (w.take (j+1).toNat)=gN f a (w.take j.toNat)++[⟨f+j,w[j.toNat].vals,w[j.toNat].p,⟨a,1099511627776⟩⟩]:=by
    rw[bu j0 hj,zk];grind
   refine u' ⟨by grind,y' ⟨?_,?_⟩,by omega⟩
   .grind
   .rw[e2,<-aat];exact(l.mono L).append (Row.one ⟨a3,b0,a4,rfl,by grind,r,r3,r4,T' (by grind)⟩)
  .have e:w.take j.toNat=w:=aag (by omega);rw[e]at P l;intro b2 c1 c2 Q r hn;exact⟨trivial,l.sl Q r P.symm hn (by show q2*64<=_;omega) (by omega)⟩
end
section
variable {a:Heap}{b f:Int}{c:D'}{d e:Nat}
abbrev Sg:cj:=⟨false,[(true,[.sl,.sl])]⟩
def MF {l:List az}(F:Sl a c d e l)(M:eo ⟨b,f⟩=true)(v:ae .i64 b)(y:ae .i64 f):
  ZB 199 [S c d e,.agg ⟨[Φi b,Φi f]⟩] a Sg (λ B m g E k i u=>Sl u B m g ([]:I')/\Sl u E k i [(⟨l,⟨b,f⟩,[]⟩:aO)]):=by
 refine ΦK 0 (aj [6] [(3,[2,6,5,8,11,12,15,0])] []) (λ g=>C ZO 138 [ΦG [I b,I f]] a λ h i=>ΦQ (!i) (g none 0 0 none 0 0 h) (C ZT 82 [S c d e] h (λ j k l m=>U j [S k l m,I b,I f,S none 0 0] 1 λ n o p=>g none 0 0 n 1 o p))) ?_;dsimp only[aQ,aR,C,ΦQ];refine⟨_,fw,?_⟩;rintro N s r rfl;refine⟨λ h=>(by grind),λ _=>⟨_,fx (F.mono s),λ L O t q j J D w x p o G=>⟨Sl.nil,?_⟩⟩⟩;have z:Rep.rel _ _ (⟨l,⟨b,f⟩,[]⟩:aO):=⟨t,q,j,none,0,0,rfl,J.mono p,v,y,Sl.nil⟩;exact(Row.one z).sl (ah _) o rfl G (by decide) (by simp)
def gY:ZB 97 [.agg ⟨[Φi b,Φi f]⟩] a fg (λ r _=>r=eo ⟨b,f⟩):=by
 refine ΦK 0 (aj [4] [] []) (λ c=>C ZO 151 [ΦG [I b,I f]] a λ d e=>ΦQ e (c (decide (f<=1000000)) d) (c false d)) ?_;dsimp only[aQ,aR,C,ΦQ];refine⟨_,dX,λ c d r h=>?_⟩;unfold eo;grind
def DS {l:List az}(y:Sl a c d e l)(D:eo ⟨b,f⟩=true)(s:ae .i64 b)(v:ae .i64 f):
  ZB 100 [S c d e,.agg ⟨[Φi b,Φi f]⟩] a Sg (λ B m g E k i q=>Sl q B m g ([]:I')/\Sl q E k i [(⟨l,⟨b,f⟩,[]⟩:aO)]):=by
 refine ΦK 0 (aj [6] [] []) (λ g=>C ZO 97 [ΦG [I b,I f]] a λ h i=>ΦQ (!i) (g none 0 0 none 0 0 h) (U h [S c d e,I b,I f,S none 0 0] 1 (λ j k l=>g none 0 0 j 1 k l))) ?_;dsimp only[aQ,aR,C,ΦQ];refine⟨_,gY,?_⟩;rintro F p r rfl;refine⟨λ h=>(by grind),λ _ x t u o j z=>⟨Sl.nil,?_⟩⟩;have w:Rep.rel _ _ (⟨l,⟨b,f⟩,[]⟩:aO):=⟨c,d,e,none,0,0,rfl,y.mono (aa p o),s,v,Sl.nil⟩;exact(Row.one w).sl (ah _) j rfl z (by decide) (by simp)
def wx {T:Type}{p:T->Bool}:∀{l:List T} {i:Int},l.any p=true->∃(j:Nat) (c:j<l.length),idxOf p i l=i+j/\p l[j]=true
 |[],_,h=>by grind
 | x::l,i,h=>by
  by_cases a:p x=true
  .exact⟨0,by simp,by simp[idxOf,a],by grind⟩
  .have b:l.any p=true:=by grind
   obtain⟨j,c,e,d⟩:=wx (i:=i+1) b;exact⟨j+1,by grind,by rw[idxOf,if_neg a];omega,by grind⟩
def DT (x:Int)(v:bR):Bool:=decide (v.id=x)&&decide (v.rc.hi=1099511627776)
def zl {h:List bR}(m:Sl a c d e h):ZB 155 [S c d e,Φi b] a gL (λ r _=>r=idxOf (DT b) 0 h):=by
 refine ΦK 0 (aj [] [] [(2,[ag 9])]) (λ e=>W ZE a (λ f=>f 0 a) λ f g h i=>J (i<O d) (ΦX c i d (ΦE ZH h c (N i*6) (λ j k l m n o p q=>let r:=ΦR (i+1)/\f (i+1) h/\g (i+1)<g i;J (j=b) (J (q=1099511627776) (e i h) r) r))) (e (-1) h)) ?_;dsimp only[PL,aW,eQ,ΦE,N,ΦR,W,ΦX,O,J];have u:=m.bn;refine⟨λ i _=>0<=i/\i<=d/\idxOf (DT b) 0 h=idxOf _ i (h.drop i.toNat),λ i=>d-i.toNat,P' rfl,?_⟩;rintro C p i ⟨k,w,g⟩;simp only[aad,aaf];refine⟨λ f=>?_,λ j=>?_⟩
 .obtain⟨s,q,_,t,z,y,v,rfl,B⟩:=m.at p k f;rw[ak k s,idxOf]at g;refine⟨q,k,f,_,_,_,_,_,_,_,_,t,λ o=>⟨λ l=>?_,λ l=>u' ⟨y' ?_,by omega⟩⟩,λ o=>u' ⟨y' ?_,by omega⟩⟩
  .rw[g,if_pos (by simp[DT,o,l])]
  .rw[g,if_neg (by simp[DT,l])]
  .rw[g,if_neg (by simp[DT,o])]
 .rw[ai j m.len,idxOf]at g;grind
def pS {l:I'}(k:Sl a c d e l):ZB 156 [S c d e,Φi b] a fg (λ r _=>r=decide (b∈l)):=by
 refine ΦK 0 (aj [] [] [(2,[ag 9])]) (λ e=>W ZE a (λ f=>f 0 a) λ f g h i=>J (i<O d) (ΦX c i d (ΦE ZE h c (N i*1) (λ j=>J (j=b) (e true h) (ΦR (i+1)/\f (i+1) h/\g (i+1)<g i)))) (e false h)) ?_;dsimp only[PL,aW,eQ,ΦE,N,ΦR,W,ΦX,O,J];have u:=k.bn;have y:=k.len;refine⟨λ i _=>0<=i/\i<=d/\b∉l.take i.toNat,λ i=>d-i.toNat,P' (by simp),?_⟩;rintro t h i ⟨j,w,o⟩;simp only[aad,aaf];refine⟨λ g=>?_,λ m=>?_⟩
 .obtain⟨q,s,_,p,rfl,v⟩:=k.at h j g;refine⟨s,j,g,_,p,λ f=>?_,λ f=>u' ⟨y' ?_,by omega⟩⟩
  .grind
  .rw[bu j q];grind
 .rw[aag (by omega)]at o;grind
def Gy {B E:D'}{m o k g:Nat}{L:List bR}{cl:I'}{T:List aO}(hs:Sl a c d e L)(hc:Sl a B m o cl)(hd:Sl a E k g T)(Y:Gx L cl T b f)
  (hb:(d+k)*64<=140737488355328):ZB 104 [S c d e,.agg ⟨[S B m o,S E k g]⟩,Φi b,Φi f] a TO (λ A' n' c' c6 H'=>c6=0/\Sl H' A' n' c' (jN L cl T b f)):=by
 refine ΦK 2 (aj [73,81,95,111,124] [(11,ab 2 8 [0])] [(4,[ag 40]),(9,[ag 12]),(15,[ag 66]),(21,[ag 87]),(27,[ag 105]),(34,[.slot 19 false [.row 161 75],ag 116]),(42,[.slot 19 false [.row 162 75],ag 141])]) (λ g=>J (b<0) (g none 0 0 1 a) (J (1099511627776<=b) (g none 0 0 1 a) (J (f<1) (g none 0 0 1 a) (J (1099511627776<f) (g none 0 0 1 a) (W ZE a (λ h=>h 0 a) (λ h i j l=>let n:=λ(n:Int) p q r=>ΦR (n+1)/\p (n+1) q/\r (n+1)<r n;J (l<O d) (ΦX c l d (ΦE ZH j c (N l*6) (λ p q r s t u v w=>J (f<=p) (g none 0 0 1 j) (W ZE j (λ x=>x 0 j) (λ x y z a0=>J (a0<l) (ΦX c a0 d (ΦE ZE z c (N a0*6+0) (λ a1=>J (a1=p) (g none 0 0 1 z) (n a0 x z y)))) (n l h z i)))))) (W ZE j (λ p=>p 0 j) (λ p q r s=>J (s<O m) (ΦX B s m (ΦE ZE r B (N s*1) (λ t=>C ZP 155 [S c d e,I t] r λ u v=>J (v<0) (g none 0 0 11 u) ((0:Int)<=0/\0<=s/\s<=O o/\(∀w:D',w=eM B o (N 0) 1->C ZO 156 [S w (N s-N 0) (o-N 0),I t] u λ x y=>ΦQ y (g none 0 0 11 x) (n s p x q)))))) (W ZE r (λ t=>t 0 r) (λ t u v w=>J (w<O m) (ΦX B w m (ΦE ZE v B (N w*1) (λ x=>C ZP 155 [S c d e,I x] v λ y z=>ΦX c z d (ΦE ZE y c (N z*6+4+0) (λ a0=>J (b<a0) (g none 0 0 10 y) (n w t y u)))))) (W ZE v (λ x=>x 0 v) (λ x y z a0=>J (a0<O k) (ΦX E a0 k (ΦE ZI z E (N a0*4) (λ a1 a2 a3 a4 a5 a6 a7 a8=>C ZO 97 [ΦG [I a4,I a5]] z λ a9 b0=>ΦQ (!b0) (g none 0 0 10 a9) (n a0 x a9 y)))) (W ZG z (λ a1=>a1 0 [] 0 z) (λ a1 a2 a3 a4 a5 a6=>J (a6<O d) (ΦX c a6 d (ΦE ZH a3 c (N a6*6) (λ a7 a8 a9 b0 b1 b2 b3 b4=>C ZO 156 [S B m o,I a7] a3 λ b5 b6=>ΦQ b6 (J (b3=b) (ΦR (a6+1)/\a1 a4 a5 (a6+1) b5/\a2 a4 a5 (a6+1)<a2 a4 a5 a6) ((a4+1)*64<=M/\ΦR (a6+1)/\(let b7:=a5++[Value.int .i64 a7,S a8 a9 b0,I b1,I b2,I b3,I b];a1 (a4+1) b7 (a6+1) b5/\a2 (a4+1) b7 (a6+1)<a2 a4 a5 a6))) ((a4+1)*64<=M/\ΦR (a6+1)/\(let b7:=a5++[Value.int .i64 a7,S a8 a9 b0,I b1,I b2,I b3,I b4];a1 (a4+1) b7 (a6+1) b5/\a2 (a4+1) b7 (a6+1)<a2 a4 a5 a6))))) (W ZG a3 (λ a7=>a7 a4 a5 0 a3) (λ a7 a8 a9 b0 b1 b2=>J (b2<O k) (ΦX E b2 k (ΦE ZI a9 E (N b2*4) (λ b3 b4 b5 b6 b7 b8 b9 c0=>ΦR (f+b2)/\(b0+1)*64<=M/\ΦR (b2+1)/\let c1:=b1++[Value.int .i64 (f+b2),S b3 b4 b5,I b6,I b7,I b,I 1099511627776];a7 (b0+1) c1 (b2+1) a9/\a8 (b0+1) c1 (b2+1)<a8 b0 b1 b2))) (U a9 b1 b0 (λ b3 b4 b5=>g b3 b0 b4 0 b5)))))))))))))))))) ?_;dsimp only[PL,aQ,aR,aW,eQ,C,ΦE,M,N,ΦQ,ΦR,W,ΦX,O,J];have s2:=hs.len;have s1:=hs.bn;have d1:=hd.bn;have d2:=hd.len;have c2:=hc.len;have c1:=hc.bn;have c3:=hc.cap;have g1:=Y.t0;have g2:=Y.t1;have g3:=Y.f0;have g4:=Y.f1;simp only[aad,aaf];refine⟨λ h=>(by omega),λ _=>⟨λ h=>(by omega),λ _=>⟨λ h=>(by omega),λ _=>⟨λ h=>(by omega),λ _=>?_⟩⟩⟩⟩;refine⟨λ i _=>0<=i/\i<=d,λ i=>d-i.toNat,u' (by omega),?_⟩;rintro f4 D i ⟨h0,h1⟩;dsimp only;refine⟨λ s=>?_,λ V=>?_⟩
 .obtain⟨hi,R,_,w,A9,n9,c9,rfl,hr⟩:=hs.at D h0 s;refine⟨R,h0,s,_,_,_,_,_,_,_,_,w,λ h=>(by have:=Y.new _ (aan hi);omega),λ _=>?_⟩;refine⟨λ j _=>0<=j/\j<=i,λ j=>i.toNat-j.toNat,u' (by omega),?_⟩;rintro e8 a3 j ⟨j0,j1⟩;dsimp only;refine⟨λ Z=>?_,λ Z=>⟨by simp only[ae];omega,u' (by omega),by omega⟩⟩;obtain⟨b4,a2,_,a7,A8,n8,c8,rfl,c4⟩:=hs.at (i:=j) (aa D a3) j0 (by omega);refine⟨a2,j0,by omega,_,a7.cy (k:=0) rfl,λ h=>?_,λ _=>⟨by simp only[ae];omega,u' (by omega),by omega⟩⟩;have:=Y.lI.inj b4 hi h;omega
 have X:∀(q:Int) (P:0<=q) (hq:q.toNat<cl.length),∃(j:Nat) (Z:j<L.length),idxOf (DT cl[q.toNat]) 0 L=j/\L[j].rc.lo<=b:=by
  intro q P hq;obtain⟨v,hv,b7,d0,d4⟩:=Y.cur _ (aan hq);obtain⟨j,Z,e1,e2⟩:=wx (p:=DT cl[q.toNat]) (l:=L) (i:=0) (abD.2 ⟨v,hv,by simp[DT,b7,d0]⟩);refine⟨j,Z,u' ?_⟩;obtain⟨j2,d7,rfl⟩:=aaM hv;have e3:L[j].id=L[j2].id:=by rw[b7];simp[DT]at e2;exact e2.1
  have:=Y.lI.inj Z d7 e3;subst this;exact d4
 refine⟨λ i _=>0<=i/\i<=m,λ i=>m-i.toNat,u' (by omega),?_⟩;rintro g5 a4 q ⟨P,q1⟩;dsimp only;have F:=aa D a4;refine⟨λ s=>?_,λ V=>?_⟩
 .obtain⟨hi,R,_,w,rfl,hr⟩:=hc.at F P s;obtain⟨j,Z,e1,e2⟩:=X q P hi;refine⟨R,P,s,_,w,_,zl (hs.mono F),?_⟩;rintro g0 b2 r rfl;refine⟨λ h=>(by omega),λ _=>u' ⟨P,u' λ f9 b5=>?_⟩⟩;have b9:=(hc.mono (aa F b2)).sub (j:=0) (k:=q.toNat) (abi _) (by omega);refine⟨_,pS (l:=(cl.take q.toNat).drop 0) (by rw[b5];exact b9),?_⟩;rintro f2 d5 _ rfl;refine⟨λ h=>?_,λ _=>⟨by simp only[ae];omega,u' (by omega),by omega⟩⟩;rw[abN]at h;obtain⟨z,hz,g⟩:=aaM (aab h);rw[acv]at g;have:=(aeF Y.nd).1 g;simp at hz;omega
 refine⟨λ i _=>0<=i/\i<=m,λ i=>m-i.toNat,u' (by omega),?_⟩;rintro e4 a5 q ⟨P,q1⟩;dsimp only;have G:=aa F a5;refine⟨λ s=>?_,λ V=>?_⟩
 .obtain⟨hi,R,_,w,rfl,hr⟩:=hc.at G P s;obtain⟨j,Z,e1,e2⟩:=X q P hi;refine⟨R,P,s,_,w,_,zl (hs.mono G),?_⟩;rintro f3 a9 r b6;rw[e1]at b6;subst b6;obtain⟨b4,a2,_,a7,A8,n8,c8,rfl,c4⟩:=hs.at (i:=(j:Int)) (aa G a9) (by simp) (by omega);refine⟨a2,by simp,by omega,_,a7.cy (k:=4) rfl,λ h=>?_,λ _=>⟨by simp[ae];omega,u' (by omega),by omega⟩⟩;grind
 refine⟨λ i _=>0<=i/\i<=k,λ i=>k-i.toNat,N' (by simp),?_⟩;rintro e7 a8 q ⟨P,q1⟩;dsimp only;have a1:=aa G a8;have kb:=hd.bn;refine⟨λ s=>?_,λ V=>?_⟩
 .obtain⟨hi,R,_,w,A9,n9,c9,B9,m9,d9,rfl,hr⟩:=hd.at a1 P s;refine⟨R,P,s,_,_,_,_,_,_,_,_,w,_,gY,?_⟩;rintro e9 d3 _ rfl;refine⟨λ h=>?_,λ _=>⟨by simp[ae];omega,u' (by omega),by omega⟩⟩;rw[Y.days _ (aan _)]at h;grind
 refine⟨λ q xs i H'=>0<=i/\i<=d/\q=(cp cl b (L.take i.toNat)).length/\Row H' xs (cp cl b (L.take i.toNat)),λ _ _ i=>d-i.toNat,P' ⟨rfl,rfl⟩,?_⟩;rintro e0 b3 q xs i ⟨h0,h1,hq,x⟩;dsimp only;have Q:=aa a1 b3;refine⟨λ s=>?_,λ V=>?_⟩
 .obtain⟨hi,R,_,w,A9,n9,c9,rfl,r1,r2,r3,r4,r5,r6⟩:=hs.at Q h0 s;have f6:q<=i.toNat:=by rw[hq];exact aax iJ (by grind)
  refine⟨R,h0,s,_,_,_,_,_,_,_,_,w,_,pS (hc.mono Q),?_⟩;rintro d8 u _ rfl;refine⟨λ a0=>⟨λ c7=>⟨by simp[ae];omega,y' ⟨?_,?_⟩,by omega⟩,λ c0=>u' ⟨by simp[ae];omega,y' ⟨?_,?_⟩,by omega⟩⟩,λ a0=>u' ⟨by simp[ae];omega,y' ⟨?_,?_⟩,by omega⟩⟩;all_goals rw[bu h0 hi,sD,kR]
  .grind
  .rw[if_pos (aab a0),if_pos c7,aar];exact x.mono u
  .grind
  .rw[if_pos (aab a0),if_neg c0];exact(x.mono u).append (Row.one ⟨_,_,_,rfl,r1,r2.mono u,r3,r4,r5,by simp[ae];omega⟩)
  .grind
  .rw[if_neg (aac a0)];exact(x.mono u).append (Row.one ⟨_,_,_,rfl,r1,r2.mono u,r3,r4,r5,r6⟩)
 .have g:L.take i.toNat=L:=aag (by omega);rw[g]at hq x;have f7:q<=d:=by rw[hq,<-s2];exact iJ
  refine⟨λ q xs i H'=>0<=i/\i<=k/\q=(cp _ b _++gN f b (T.take i.toNat)).length/\Row H' xs (cp _ b _++gN f b (T.take i.toNat)),λ _ _ i=>k-i.toNat,P' ⟨by simpa[gN]using hq,by simpa[gN]using x⟩,?_⟩;rintro f5 a6 q2 e6 j ⟨j0,j1,b0,y⟩;dsimp only;have b8:=aa Q a6;have c5:q2<=d+j.toNat:=by
   rw[b0,aae,tU];grind
  refine⟨λ s=>?_,λ V=>?_⟩
  .obtain⟨Z,R,_,w,A9,n9,c9,B9,m9,d9,rfl,r2,r3,r4,r5⟩:=hd.at b8 j0 s;have e2:gN f b (T.take (j+1).toNat)=gN f b (T.take j.toNat)++[⟨f+j,T[j.toNat].vals,T[j.toNat].p,⟨b,1099511627776⟩⟩]:=by
    rw[bu j0 Z,zk];grind
   refine⟨R,j0,s,_,_,_,_,_,_,_,_,w,by simp[ae];omega,by omega,by simp[ae];omega,y' ⟨?_,?_⟩,by omega⟩
   .grind
   .rw[e2,<-aat];exact y.append (Row.one ⟨_,_,_,rfl,by simp[ae];omega,r2,r3,r4,by simp[ae];omega,by simp only[ae];simp⟩)
  .have g:T.take j.toNat=T:=aag (by omega);rw[g]at b0 y;intro e5 f8 g6 b1 d6 hn;exact⟨trivial,y.sl b1 d6 b0.symm hn (by show q2*64<=_;omega) (by omega)⟩
end
section
variable {a:az}{b:Heap}
structure Xp where
 op:Int
 a:Int
 b:Int
 col:Int
 k:az
deriving DecidableEq
def dp (v:az):Prop:=ae .i64 v.kind/\ae .i64 v.n/\str v.s
instance:Rep Xp where
 sz:=7
 byt:=64
 rel _ vs v:=vs=[.int .i64 v.op,.int .i64 v.a,.int .i64 v.b,.int .i64 v.col,.int .i64 v.k.kind,.int .i64 v.k.n,.string v.k.s]/\ae .i64 v.op/\ae .i64 v.a/\ae .i64 v.b/\ae .i64 v.col/\dp v.k
 mono _ h:=h
 len h:=by simp[h.1]
 pos:=by decide
 bpos:=by decide
 one h:=by rw[h.1];simp[Value.oneCell']
def Be (a:Int):Prop:=a=1\/a=2\/a=3\/a=6\/a=7\/a=10\/a=11
def aZ (a:Int):Nat:=if a=1\/a=2 then 0 else if a=10\/a=11 then 1 else 2
def v0:az:=⟨0,0,⟨⟨[]⟩⟩⟩
def wy (b:Bool):az:=⟨3,if b then 1 else 0,⟨⟨[]⟩⟩⟩
def TP (v:az):Bool:=decide (v.kind=3)&&decide (v.n=1)
def lA (a b:az):az:=if a.kind=1/\b.kind=1/\ae .i64 (a.n+b.n)then⟨1,a.n+b.n,⟨⟨[]⟩⟩⟩else v0
def eI (x:Xp)(c:List az)(a b:az):az:=
 if x.op=1 then x.k
 else if x.op=2 then(if 0<=x.col/\x.col<c.length then c.getD x.col.toNat v0 else v0)
 else if x.op=3 then lA a b
 else if x.op=6 then wy (decide (a.kind≠0)&&decide (b.kind≠0)&&decide (Ba a b=0))
 else if x.op=7 then wy (decide (a.kind≠0)&&decide (a.kind=b.kind)&&decide (Ba a b<0))
 else if x.op=10 then wy (!TP a)
 else wy (decide (a.kind=0))
def qT {k n:Int}(b:ae .i64 k)(a:ae .i64 n):dp ⟨k,n,⟨⟨[]⟩⟩⟩:=⟨b,a,abi _⟩
def kS:dp v0:=qT (by grind) (by grind)
def Ji (b:Bool):dp (wy b):=qT (by grind) (by grind)
def MG (a b:az):dp (lA a b):=by
 unfold lA;split
 .rename_i h;exact qT (by grind) h.2.2
 .exact kS
def uX {x:Xp}{c:List az}{b:az}(d:dp x.k)(e:∀v∈c,dp v):dp (eI x c a b):=by
 unfold eI;repeat' split
 all_goals first
  | exact d
  | exact kS
  | exact MG _ _
  | exact Ji _
  | skip
 grind
abbrev uY:cj:=⟨false,[(true,[.int .i64,.int .i64,.str])]⟩
abbrev MH (v:az):Value:= .agg ⟨[.int .i64 v.kind,.int .i64 v.n,.string v.s]⟩
abbrev Ru (x:Xp):Value:= .agg ⟨[.int .i64 x.op,.int .i64 x.a,.int .i64 x.b,.int .i64 x.col,.int .i64 x.k.kind,.int .i64 x.k.n,.string x.k.s]⟩
def pT (x:az):Int->Int->ByteArray->Heap->Prop:=λ k n s _=>(⟨k,n,s⟩:az)=x
def aeQ:fI where
 res:=λ _=>none
 lend:=λ _=>false
 sch:=λ _=> .done
 lt:=λ _=>[]
 kz:=Gh
def dA {a:Bool}:ZB 439 [.bool a] b uY (pT (wy a)):=by
 refine uJ (an:=aeQ) (fn:=Tryz.f439) mix tO Tryz.func439 (by rfl) (extra:=0) ?_;exact⟨λ h=>(by subst h;rfl),λ h=>(by subst h;rfl)⟩
def Gz:ZB 440 [MH a] b fg (λ r _=>r=TP a):=by
 refine ΦK 0 bE (λ c=>J (a.kind=3) (c (decide (a.n=1)) b) (c false b)) ?_;dsimp only[J];unfold TP;grind
def La {x y:Int}(a:ae .i64 x)(b:ae .i64 y):(ae .i64 (x+y)->IntKind.i64.wrap (x+y)=x+y)/\(¬ae .i64 (x+y)->y≠0/\¬(x<IntKind.i64.wrap (x+y)↔0<y))/\(ae .i64 (x+y)->y≠0->(x<x+y↔0<y)):=by
 rw[adS];grind
def xt {c:az}(g:ae .i64 a.n)(l:ae .i64 c.n):ZB 438 [Φi 3,MH a,MH c] b uY (pT (lA a c)):=by
 refine ΦK 0 {bE with kb:=ir [27,28] [47,48],wr:=mem [33]} (λ d=>V (a.kind=1) (d 0 0 ⟨⟨[]⟩⟩ b) (V (c.kind=1) (d 0 0 ⟨⟨[]⟩⟩ b) (decide ((3:Int)=3)=true/\(let e:=d 1 (IntKind.wrap IntKind.i64 (a.n+c.n)) ⟨⟨[]⟩⟩ b;ΦQ (decide (a.n<IntKind.wrap IntKind.i64 (a.n+c.n))==decide (0<c.n)) e (V (c.n=0) (d 0 0 ⟨⟨[]⟩⟩ b) e))))) ?_;dsimp only[ΦQ,V];obtain⟨f,w2,o⟩:=La g l;simp only[aay,aaF,aad,aaf];refine⟨λ h=>?_,λ j=>⟨λ h=>?_,λ i=>⟨trivial,λ h=>?_,λ h=>⟨λ k=>?_,λ k=>?_⟩⟩⟩⟩
 .show v0=lA a c;rw[lA,if_neg (λ d=>h d.1)]
 .show v0=lA a c;rw[lA,if_neg (λ d=>h d.2.1)]
 .have e:=acQ λ m=>(w2 m).2 (by grind);rw[f e,pT,lA,if_pos ⟨j,i,e⟩]
 .have e:¬ae .i64 (a.n+c.n):=λ e=>by
   grind
  show v0=lA a c;rw[lA,if_neg (λ d=>e d.2.2)]
 grind
end
section
variable {a:Heap}{b g:D'}{c d h i:Nat}{e:List az}{f j n:az}{k l m:Int}
def lL (f:Sl a b c d e){i:Nat}(m:i<e.length):i<c/\cD b/\Cells a b (i*3) [Φi e[i].kind,Φi e[i].n,.string e[i].s]/\dp e[i]:=by
 have k:=f.len;obtain⟨_,j,_,h,rfl,g⟩:=f.at (ah _) (i:=(i)) (by simp) (by omega);exact u' ⟨j,h,g⟩
def Pw (e:Sl a b c d [f,j]):c=2/\cD b/\Cells a b 0 [Φi f.kind,Φi f.n,ΦT f.s]/\Cells a b 3 [Φi j.kind,Φi j.n,ΦT j.s]/\dp f/\dp j:=by
 obtain⟨_,h,m,k⟩:=lL e (i:=0) (by simp);obtain⟨_,_,l,g⟩:=lL e (i:=1) (by simp);exact⟨e.len.symm,h,m,l,k,g⟩
def Th (e:Sl a b c d [f]):c=1/\cD b/\Cells a b 0 [Φi f.kind,Φi f.n,ΦT f.s]/\dp f:=by
 obtain⟨_,g,j,h⟩:=lL e (i:=0) (by simp);exact⟨e.len.symm,g,j,h⟩
def GA (o:Sl a g h i e):
  ZB 343 [Ru ⟨1,k,l,m,f⟩,S b c d,S g h i] a uY (pT (eI ⟨1,k,l,m,f⟩ e j n)):=by
 refine ΦK 0 {aj cd ar []with kb:=ir [9,10] [13,14,32,33,34,44,45,69,70,98,99,111,112,124,125,132,133]} (λ b=>decide ((1:Int)=1)=true/\b f.kind f.n f.s a) ?_;exact⟨by rfl,rfl⟩
def GB (q:Sl a g h i e):
  ZB 343 [Ru ⟨2,k,l,m,f⟩,S b c d,S g h i] a uY (pT (eI ⟨2,k,l,m,f⟩ e j n)):=by
 refine ΦK 0 {aj cd ar []with kb:=ir [13,14] [9,10,32,33,34,44,45,69,70,98,99,111,112,124,125,132,133]} (λ b=>decide ((2:Int)=1)=false/\decide ((2:Int)=2)=true/\J (m<0) (b 0 0 ⟨⟨[]⟩⟩ a) (J (O h<=m) (b 0 0 ⟨⟨[]⟩⟩ a) (ΦX g m h (ΦE ZF a g (N m*3) (λ c d e=>b c d e a))))) ?_;dsimp only[eQ,ΦE,N,ΦX,O,J];have v:=q.len;simp only[aaf];have p:∀j n,eI ⟨2,k,l,m,f⟩ _ j n=if 0<=m/\m<e.length then e.getD _ _ else v0:=λ j n=>rfl;refine N' ⟨by rfl,λ o=>?_,λ o=>⟨λ r=>?_,λ r=>?_⟩⟩
 .show v0=_;grind
 .show v0=_;grind
 .have x:m.toNat<e.length:=by omega
  obtain⟨w,t,s,u⟩:=lL q _;refine⟨t,y' ⟨_,_,_,s,?_⟩⟩;show e[m.toNat]=_;grind
def GD (t:Sl a b c d [j,n])(v:Sl a g h i e):
  ZB 343 [Ru ⟨3,k,l,m,f⟩,S b c d,S g h i] a uY (pT (eI ⟨3,k,l,m,f⟩ e j n)):=by
 obtain⟨rfl,p,s,r,u,q⟩:=Pw t;refine ΦK 0 {aj cd ar []with kb:=ir [32] [9,10,13,14,33,34,44,45,69,70,98,99,111,112,124,125,132,133]} (λ c=>let d:=(3:Int);decide (d=1)=false/\decide (d=2)=false/\decide (d=3)=true/\ΦX b 0 2 (ΦE ZF a b (N 0*3) (λ e f g=>ΦX b 1 2 (ΦE ZF a b (N 1*3) (λ h i j=>C ZU 438 [I d,ΦG [I e,I f,ΦT g],ΦG [I h,I i,ΦT j]] a λ k l m n=>c l m n k))))) ?_;dsimp only[aQ,aR,eQ,C,ΦE,N,ΦX];exact⟨by rfl,by rfl,by rfl,p,P' ⟨_,_,_,s,p,P' ⟨_,_,_,r,_,xt u.2.1 q.2.1,λ _ _ _ _ _ o=>o⟩⟩⟩
def GF {q:Int}{k:az}(v:Sl a b c d [f,j])(z:Sl a g h i e):
  ZB 343 [Ru ⟨6,q,l,m,k⟩,S b c d,S g h i] a uY (pT (eI ⟨6,q,l,m,k⟩ e f j)):=by
 obtain⟨rfl,p,t,s,D,x⟩:=Pw v;refine ΦK 0 {aj cd ar []with kb:=ir [44,45] [9,10,13,14,32,33,34,69,70,98,99,111,112,124,125,132,133]} (λ c=>let d:=(6:Int);decide (d=1)=false/\decide (d=2)=false/\decide (d=3)=false/\decide (d=4)=false/\decide (d=5)=false/\decide (d=6)=true/\ΦX b 0 2 (ΦE ZE a b (N 0*3+0) (λ e=>let f:=C ZU 439 [ΦB false] a λ f g h i=>c g h i f;V (e=0) (ΦX b 1 2 (ΦE ZE a b (N 1*3+0) (λ g=>V (g=0) (ΦX b 0 2 (ΦE ZF a b (N 0*3) (λ h i j=>ΦX b 1 2 (ΦE ZF a b (N 1*3) (λ k l m=>C ZP 169 [ΦG [I h,I i,ΦT j],ΦG [I k,I l,ΦT m]] a λ n o=>C ZU 439 [ΦB (decide (o=0))] n λ p q r s=>c q r s p))))) f))) f))) ?_;dsimp only[aQ,aR,eQ,C,ΦE,N,ΦX,V];refine⟨by rfl,by rfl,by rfl,by rfl,by rfl,by rfl,p,P' ⟨_,t.cy (k:=0) rfl,λ o=>⟨p,P' ⟨_,s.cy (k:=0) rfl,λ u=>⟨p,P' ⟨_,_,_,t,p,P' ⟨_,_,_,s,_,ml,?_⟩⟩⟩,λ u=>⟨_,dA,?_⟩⟩⟩,λ o=>⟨_,dA,?_⟩⟩⟩
 .rintro w _ r rfl;refine⟨_,dA,λ _ _ _ _ _ y=>?_⟩;rw[eI];grind
 .rw[eI];grind
 .rw[eI];grind
def GG {s:Int}{k:az}(v:Sl a b c d [f,j])(z:Sl a g h i e):
  ZB 343 [Ru ⟨7,s,l,m,k⟩,S b c d,S g h i] a uY (pT (eI ⟨7,s,l,m,k⟩ e f j)):=by
 obtain⟨rfl,p,q,t,D,x⟩:=Pw v;refine ΦK 0 {aj cd ar []with kb:=ir [69,70] [9,10,13,14,32,33,34,44,45,98,99,111,112,124,125,132,133]} (λ c=>let d:=(7:Int);decide (d=1)=false/\decide (d=2)=false/\decide (d=3)=false/\decide (d=4)=false/\decide (d=5)=false/\decide (d=6)=false/\decide (d=7)=true/\ΦX b 0 2 (ΦE ZE a b (N 0*3+0) (λ e=>let f:=C ZU 439 [ΦB false] a λ f g h i=>c g h i f;V (e=0) (ΦX b 0 2 (ΦE ZE a b (N 0*3+0) (λ g=>ΦX b 1 2 (ΦE ZE a b (N 1*3+0) (λ h=>J (g=h) (ΦX b 0 2 (ΦE ZF a b (N 0*3) (λ i j k=>ΦX b 1 2 (ΦE ZF a b (N 1*3) (λ l m n=>C ZP 169 [ΦG [I i,I j,ΦT k],ΦG [I l,I m,ΦT n]] a λ o p=>C ZU 439 [ΦB (decide (p<0))] o λ q r s t=>c r s t q))))) f))))) f))) ?_;dsimp only[aQ,aR,eQ,C,ΦE,N,ΦX,V,J];refine⟨by rfl,by rfl,by rfl,by rfl,by rfl,by rfl,by rfl,p,P' ⟨_,q.cy (k:=0) rfl,λ o=>⟨p,P' ⟨_,q.cy (k:=0) rfl,p,P' ⟨_,t.cy (k:=0) rfl,λ u=>⟨p,P' ⟨_,_,_,q,p,P' ⟨_,_,_,t,_,ml,?_⟩⟩⟩,λ u=>⟨_,dA,?_⟩⟩⟩⟩,λ o=>⟨_,dA,?_⟩⟩⟩
 .rintro w _ r rfl;refine⟨_,dA,λ _ _ _ _ _ y=>?_⟩;rw[eI];grind
 .rw[eI];grind
 .rw[eI];grind
def DU (q:Sl a b c d [j])(t:Sl a g h i e):
  ZB 343 [Ru ⟨10,k,l,m,f⟩,S b c d,S g h i] a uY (pT (eI ⟨10,k,l,m,f⟩ e j v0)):=by
 obtain⟨rfl,r,p,u⟩:=Th q;refine ΦK 0 {aj cd ar []with kb:=ir [124,125] [9,10,13,14,32,33,34,44,45,69,70,98,99,111,112,132,133]} (λ c=>let d:=(10:Int);decide (d=1)=false/\decide (d=2)=false/\decide (d=3)=false/\decide (d=4)=false/\decide (d=5)=false/\decide (d=6)=false/\decide (d=7)=false/\decide (d=8)=false/\decide (d=9)=false/\decide (d=10)=true/\ΦX b 0 1 (ΦE ZF a b (N 0*3) (λ e f g=>C ZO 440 [ΦG [I e,I f,ΦT g]] a λ h i=>C ZU 439 [ΦB (!i)] h λ j k l m=>c k l m j))) ?_;dsimp only[aQ,aR,eQ,C,ΦE,N,ΦX];refine⟨by rfl,by rfl,by rfl,by rfl,by rfl,by rfl,by rfl,by rfl,by rfl,by rfl,r,P' ⟨_,_,_,p,_,Gz,?_⟩⟩;rintro s _ _ rfl;exact⟨_,dA,λ _ _ _ _ _ o=>o⟩
def DV {o:Int}{k:az}(q:Sl a b c d [f])(s:Sl a g h i e):
  ZB 343 [Ru ⟨11,o,l,m,k⟩,S b c d,S g h i] a uY (pT (eI ⟨11,o,l,m,k⟩ e f v0)):=by
 obtain⟨rfl,r,p,t⟩:=Th q;refine ΦK 0 {aj cd ar []with kb:=ir [132,133] [9,10,13,14,32,33,34,44,45,69,70,98,99,111,112,124,125]} (λ c=>let d:=(11:Int);decide (d=1)=false/\decide (d=2)=false/\decide (d=3)=false/\decide (d=4)=false/\decide (d=5)=false/\decide (d=6)=false/\decide (d=7)=false/\decide (d=8)=false/\decide (d=9)=false/\decide (d=10)=false/\decide (d=11)=true/\ΦX b 0 1 (ΦE ZE a b (N 0*3+0) (λ e=>C ZU 439 [ΦB (decide (e=0))] a λ f g h i=>c g h i f))) ?_;dsimp only[aQ,aR,eQ,C,ΦE,N,ΦX];exact⟨by rfl,by rfl,by rfl,by rfl,by rfl,by rfl,by rfl,by rfl,by rfl,by rfl,by rfl,r,P' ⟨_,p.cy (k:=0) rfl,_,dA,λ _ _ _ _ _ j=>j⟩⟩
def Jj {H:Heap}{A:D'}{x:Xp}{o:List az}(f:Be x.op)(l:e.length=aZ x.op)(p:Sl H A c d e)(j:Sl H g h i o):
  ZB 343 [Ru x,S A c d,S g h i] H uY (pT (eI x o (e.getD 0 v0) (e.getD 1 v0))):=by
 obtain⟨q,s,t,r,k⟩:=x;rcases f with f | f | f | f | f | f | f<;>(replace f:q=_:=f)<;>subst f
 .exact GA j
 .exact GB j
 .match e,l with
  |[a,b],_=>exact GD p j
 .match e,l with
  |[a,b],_=>exact GF p j
 .match e,l with
  |[a,b],_=>exact GG p j
 .match e,l with
  |[a],_=>exact DU p j
 .match e,l with
  |[a],_=>exact DV p j
end
section
variable {a e:Nat}{b:List az}{c:Heap}{d:List Xp}{f:Int}{g:D'}
def sE (a:Be f):ZB 437 [Φi f] c gL (λ r _=>r=aZ f):=by
 refine ΦK 0 bE (λ a=>let b:=J (f=3) (J (f=3) (a 2 c) (a (-1) c)) (J (f=4) (J (f=4) (a 2 c) (a (-1) c)) (J (f=5) (J (f=5) (a 2 c) (a (-1) c)) (J (f=6) (J (f=6) (a 2 c) (a (-1) c)) (J (f=7) (J (f=7) (a 2 c) (a (-1) c)) (J (f=8) (J (f=8) (a 2 c) (a (-1) c)) (J (f=9) (a 2 c) (a (-1) c)))))));let d:=J (f=10) (J (f=10) (a 1 c) b) (J (f=11) (a 1 c) b);J (f=1) (J (f=1) (a 0 c) d) (J (f=2) (a 0 c) d)) ?_;dsimp only[J];rcases a with rfl | rfl | rfl | rfl | rfl | rfl | rfl<;>simp[aZ]
def opsL (x:Xp):I':=[x.a,x.b].take (aZ x.op)
def lM (a:Int):aZ a<=2:=by unfold aZ;grind
def mL (x:Xp):(opsL x).length=aZ x.op:=by
 have:=lM x.op;simp[opsL];omega
def jb {x:Xp}(l:Be x.op)(o:ae .i64 x.a)(r:ae .i64 x.b):ZB 341 [Ru x] c fi (λ A n d u=>Sl u A n d (opsL x)):=by
 refine ΦK 0 {aj [10] [(1,[2,4,6,8,12,14,11,17,18,21,22,0,1,1,17,18,11,21,22,0])] []with tr:=mem [12]} (λ a=>let b:=C ZP 437 [I x.op] c λ b d=>(0:Int)<=max d 0/\max d 0<=O 2/\U b (List.take (L [Value.int .i64 x.a,I x.b]/2*N (max d 0)) [I x.a,I x.b]) (N (max d 0)) λ e f g=>a e (N (max d 0)) f g;b/\b) ?_;dsimp only[aQ,aR,C,L,N,O];have w:=lM x.op;have f:∀(c:Heap) (y:Int),ae _ y->Row c [Value.int _ y] [y]:=λ c y q=>⟨[.int _ y],[],rfl,⟨rfl,q⟩,rfl⟩;have t:∀c:Heap,Row c [Value.int _ _,.int _ _] [x.a,x.b]:=λ c=>(f c _ o).append (f c _ r);have p:∀(k g:Heap) (i:D') (j:Nat),Heap.le k g->Cells g i 0 (List.take (List.length [Φi x.a,Φi x.b]/2*Int.toNat (max (aZ x.op:Int) 0)) [Φi x.a,Φi x.b])->Int.toNat (max (aZ x.op:Int) 0)<=j->Sl g i (Int.toNat (max (aZ x.op:Int) 0)) j (opsL x):=by
  intro k g i j _ v m;have e:Int.toNat (max (aZ x.op) 0)=aZ x.op:=by simp
  rw[e]at v m⊢;have s:Row g ([Φi x.a,Φi x.b].take (aZ x.op)) (opsL x):=by
   unfold opsL;rcases(show aZ x.op=0\/aZ x.op=1\/aZ x.op=2 by omega)with h | h | h<;>rw[h]
   .rfl
   .grind
   grind
  refine s.sl (ah _) (by grind) (mL x) m ?_ (by omega);show aZ _*8<=_;omega
 refine⟨⟨_,sE l,?_⟩,_,sE l,?_⟩;all_goals
  grind
def sF {o:Int}:ZB 342 [Φi f,Φi o] c fg (λ r _=>r=(decide (0<=o)&&decide (o<f))):=by
 refine ΦK 0 bE (λ a=>J (0<=o) (a (decide (o<f)) c) (a false c)) ?_;dsimp only[J];grind
structure rQ (i:Nat)(x:Xp):Prop where
 op:Be x.op
 a:1<=aZ x.op->0<=x.a/\x.a<i
 b:2<=aZ x.op->0<=x.b/\x.b<i
def AP (a:List Xp):Prop:=∀i (b:i<a.length),rQ i a[i]
def rQ.mem {x:Xp}(h:rQ a x):∀o∈opsL x,0<=o/\o<a:=by
 intro o c;unfold opsL at c;rcases(show aZ x.op=0\/aZ x.op=1\/aZ x.op=2 by have:=lM x.op;omega)with e | e | e<;>rw[e]at c
 .grind
 .simp at c;subst c;exact h.a (by omega)
 .simp at c;rcases c with rfl | rfl
  .exact h.a (by omega)
  .exact h.b (by omega)
def uZ (x:Xp)(c d:List az):az:=eI x c (d.getD x.a.toNat v0) (d.getD x.b.toNat v0)
def On (a:List az):List Xp->List az->List az
 |[],d=>d
 | x::es,d=>On a es (d++[uZ x a d])
def ve (b:List Xp)(a:List az)(k:Nat):List az:=On a (b.take k) []
def Lb (c:List Xp)(a:Int)(b:List az):az:=(ve c b (a.toNat+1)).getD a.toNat v0
def Lc {a:List az}{x:Xp}:∀{b:List Xp} {d:List az},On a (b++[x]) d=On a b d++[uZ x a (On a b d)]
 |[],d=>rfl
 | y::b,d=>by rw[aby,On,Lc,On]
def Ld {b:List az}:∀{a:List Xp} {d:List az},(On b a d).length=d.length+a.length
 |[],d=>rfl
 | y::a,d=>by rw[On,Ld];grind
def xO (c:a<=d.length):(ve d b a).length=a:=by
 rw[ve,Ld];grind
def GH (c:a<d.length):ve d b (a+1)=ve d b a++[uZ d[a] b (ve d b a)]:=by
 rw[ve,aaj _,Lc];rfl
def zm {x:Xp}{d:List az}:eI x b (((opsL x).map λ o=>d.getD o.toNat v0).getD 0 v0) (((opsL x).map λ o=>d.getD o.toNat v0).getD 1 v0)=uZ x b d:=by
 unfold uZ opsL aZ;by_cases e:x.op=1
 .simp[eI,e]
 by_cases a:x.op=2
 .simp[eI,a]
 by_cases f:x.op=10
 .simp[eI,f]
 by_cases c:x.op=11
 .simp[eI,c]
 grind
def Vy (e:∀x∈d,dp x.k)(h:∀v∈b,dp v){a:List az}(f:∀v∈a,dp v):∀v∈On b d a,dp v:=by
 induction d generalizing a with
 | nil=>exact f
 | cons x d g=>
  refine g (λ y i=>e y (by grind)) λ v c=>?_;rcases aam.1 c with c | c
  .grind
  .rw[aaD]at c;subst c;exact uX (e x (by simp)) h
def Sl.Wr (f:Sl c g a e b):∀v∈b,dp v:=by
 intro v d;obtain⟨i,h,rfl⟩:=aaM d;exact(lL f _).2.2.2
def Sl.Vz (b:Sl c g a e d):∀v∈d,dp v.k:=by
 intro v f;obtain⟨i,m,rfl⟩:=aaM f;have:=b.len;obtain⟨_,o,_,j,rfl,h⟩:=b.at (ah _) (i:=(i)) (by simp) (by omega);grind
def TR:dE [Φi 0,Φi 0,Value.string ⟨⟨[]⟩⟩] a=dE [Φi v0.kind,Φi v0.n,ΦT v0.s] a:=rfl
def Le {v:az}(c:b.length=e)(f:e<a):(b++List.replicate (a-e) v0).set e v=(b++[v])++List.replicate (a-(e+1)) v0:=by
 rw[List.set_append_right _ _ (by omega),c,adY,show a-e=(a-(e+1))+1 by omega,aat];rfl
def Cj {B:D'}{n l:Nat}(hs:Sl c g n a d)(hr:Sl c B e l b)(hw:AP d)(r0:0<=f)(r1:f<d.length)(hb:d.length<=1000000):
  ZB 264 [S g n a,Φi f,S B e l] c uY (pT (Lb d f b)):=by
 refine ΦK 2 (aj [44] [] [(5,[.slot 7 false [.row 66 133],ag 30]),(9,[.slot 10 false [.row 67 133],ag 38])]) (λ b=>J (f<0) (b 0 0 ⟨⟨[]⟩⟩ c) (J (O n<=f) (b 0 0 ⟨⟨[]⟩⟩ c) (ΦR (f+1)/\f+1=f+1/\0<=f+1/\(f+1)*O 32<=M/\(∀d:G',d=dE [I 0,I 0,ΦT ⟨⟨[]⟩⟩] (N (f+1))->ΦR (f+1)/\(0:Int)<=0/\0<=f+1/\f+1<=O a/\∀h:D',h=eM g a (N 0) 7->W ZG c (λ i=>i (N (f+1)) d 0 c) λ i j k m o p=>J (p<O (N (f+1)-N 0)) (ΦX h p (N (f+1)-N 0) (ΦE ZJ k h (N p*7) (λ q r s t u v w=>let x:=[I q,I r,I s,I t,I u,I v,ΦT w];C ZT 341 [ΦG x] k λ y z a0 a1=>W ZG y (λ a2=>a2 0 [] 0 y) λ a2 a3 a4 a5 a6 a7=>J (a7<O a0) (ΦX z a7 a0 (ΦE ZE a4 z (N a7*1) (λ a8=>C ZO 342 [I p,I a8] a4 λ a9 b0=>ΦQ (!b0) (ΦR (p+1)/\i m o (p+1) a9/\j m o (p+1)<j m o p) (ΦY a8 m (ΦF ZF o (N a8*3) 3 (λ b1 b2 b3=>(a5+1)*32<=M/\ΦR (a7+1)/\let b4:=a6++[Value.int .i64 b1,I b2,ΦT b3];a2 (a5+1) b4 (a7+1) a9/\a3 (a5+1) b4 (a7+1)<a3 a5 a6 a7)))))) (U a4 a6 a5 (λ a8 a9 b0=>C ZU 343 [ΦG x,S a8 a5 a9,S B e l] b0 λ b1 b2 b3 b4=>ΦY p m (N p*3+3<=L o/\ΦR (p+1)/\(let b5:=av o (N p*3) [I b2,I b3,ΦT b4];i m b5 (p+1) b1/\j m b5 (p+1)<j m o p))))))) (ΦY f m (ΦF ZF o (N f*3) 3 (λ q r s=>b q r s k))))))) ?_;dsimp only[PL,aQ,aR,aW,eQ,C,ΦE,ΦF,L,M,N,ΦQ,ΦR,W,ΦX,ΦY,O,J];have s2:=hs.len;have s3:=hs.cap;simp only[aad,aaf];refine⟨λ h=>(by omega),λ _=>⟨λ h=>(by omega),λ _=>u' ⟨trivial,y' ?_⟩⟩⟩;rintro c1 rfl;refine M' λ A6 Q=>?_;have Q:A6=eM g a 0 (Rep.sz Xp):=Q;obtain⟨p,hK⟩:∃p:Nat,p=f.toNat+1:=⟨_,rfl⟩;have e1:(f+1).toNat=p:=by omega
 have F:=hs.sub (j:=0) (k:=p) (abi _) (by omega);have e0:Int.toNat (0:Int)=0:=rfl;rw[<-Q,abN]at F;rw[e1,e0];refine⟨λ q xs i H'=>0<=i/\i<=p/\q=p/\Row H' xs (ve d b i.toNat++List.replicate (p-i.toNat) v0),λ _ _ i=>p-i.toNat,y' ⟨rfl,?_⟩,?_⟩
 .have hz:Rep.rel c [Φi v0.kind,Φi v0.n,ΦT v0.s] v0:=⟨rfl,kS⟩;rw[TR];exact Row.gS hz p
 rintro c2 D q xs i ⟨h0,h1,hq,v⟩;replace hq:p=q:=hq.symm;subst hq;refine⟨λ b5=>?_,λ c3=>?_⟩
 .have c5:i.toNat<p:=by omega
  have b0:i.toNat<d.length:=by omega
  obtain⟨hi,hA,_,a4,rfl,x1,x2,x3,x4,x5⟩:=F.at D h0 (by omega);have ex:(d.take p)[i.toNat]=d[i.toNat]:=acv;rw[ex]at a4 x1 x2 x3 x4 x5;have G:=hw i.toNat b0;refine⟨hA,h0,by omega,_,_,_,_,_,_,_,a4,_,jb (x:=d[i.toNat]) G.op x2 x3,?_⟩;rintro c0 z b7 Z b3 E;have o1:=mL d[i.toNat];have o2:=E.len;have o3:=lM d[i.toNat].op;have Y:=aa D z;have X:(ve d b i.toNat).length=i.toNat:=xO (by omega);refine⟨λ q2 ys j H'=>0<=j/\j<=Z/\q2=j.toNat/\Row H' ys (((opsL d[i.toNat]).take j.toNat).map λ o=>(ve d b i.toNat).getD o.toNat v0),λ _ _ j=>Z-j.toNat,y' ⟨rfl,by simp[Row]⟩,?_⟩;rintro b6 y q2 ys j ⟨j0,j1,rfl,V⟩;dsimp only;refine⟨λ hj=>?_,λ hj=>?_⟩
  .obtain⟨a6,a9,_,b2,rfl,y1⟩:=E.at y j0 hj;have hm:=G.mem _ (aan a6);refine⟨a9,j0,hj,_,b2,_,sF,?_⟩;rintro c6 T _ rfl;refine⟨λ h=>?_,λ _=>?_⟩
   .have:(decide (0<=(opsL d[i.toNat])[j.toNat])&&decide ((opsL d[i.toNat])[j.toNat]<i))=true:=by simp;omega
    rw[this]at h;cases h
   have b1:(opsL d[i.toNat])[j.toNat].toNat<(ve d b i.toNat++List.replicate (p-i.toNat) v0).length:=by simp[X];omega
   have u:=v.dO b1;have eg:(ve d b i.toNat++List.replicate (p-i.toNat) v0)[(opsL d[i.toNat])[j.toNat].toNat]=(ve d b i.toNat).getD (opsL d[i.toNat])[j.toNat].toNat v0:=by
    rw[aaI (by omega),aaq,aai (by omega)];rfl
   rw[eg]at u;refine y' ⟨_,_,_,u.1,y' ⟨J' ?_,by omega⟩⟩;rw[bu j0 a6,aaR];exact(V.mono T).append (Row.one ⟨rfl,u.2⟩)
  .have a8:(opsL d[i.toNat]).take j.toNat=opsL d[i.toNat]:=aag (by omega);rw[a8]at V;intro c4 b8 c7 w a5 a2;have a3:=aa Y (aa y w);have R:=V.sl w (n:=j.toNat) a5 (by grind) a2 (by show j.toNat*32<=_;omega) (by omega);refine⟨_,Jj (x:=d[i.toNat]) G.op (by grind) R (hr.mono a3),?_⟩;rintro b9 P k1 k2 k3 hv;rw[zm]at hv;have b4:xs.length=p*3:=by rw[v.length];simp[X];show _*3=_;omega
   refine⟨h0,J' ⟨y' ⟨rfl,?_⟩,by omega⟩⟩;have a1:dp (uZ _ _ (ve d b i.toNat)):=uX x5 hr.Wr;have a0:=(v.mono (aa z (aa y (aa w P)))).dV (i:=i.toNat) (by grind) (us:=[.int _ _,.int _ _,ΦT _]) (t:=uZ _ _ _) (by rw[<-hv]at a1⊢;exact⟨rfl,a1⟩);rw[Le X (by omega)]at a0;rw[show(i+1).toNat=i.toNat+1 by omega,GH _];omega
 .have a7:i.toNat=p:=by omega
  rw[a7,adY,adt,aar]at v;have hl:(ve d b p).length=p:=xO (by omega);have u:=v.dO (i:=f.toNat) (by omega);have eg:(ve d b p)[f.toNat]'(by omega)=Lb d f b:=by
   unfold Lb;grind
  rw[eg]at u;exact y' ⟨_,_,_,u.1,rfl⟩
end
section
variable {a:Heap}{b h i:D'}{c d j k l m:Nat}{e:List Xp}{f:Xp}{g:Int}{n o:List az}
def aX (b:Be g):ZB 295 [Φi g] a gL (λ r _=>r=aZ g):=by
 refine ΦK 0 bE (λ b=>let c:=J (g=3) (J (g=3) (b 2 a) (b (-1) a)) (J (g=4) (J (g=4) (b 2 a) (b (-1) a)) (J (g=5) (J (g=5) (b 2 a) (b (-1) a)) (J (g=6) (J (g=6) (b 2 a) (b (-1) a)) (J (g=7) (J (g=7) (b 2 a) (b (-1) a)) (J (g=8) (J (g=8) (b 2 a) (b (-1) a)) (J (g=9) (b 2 a) (b (-1) a)))))));let d:=J (g=10) (J (g=10) (b 1 a) c) (J (g=11) (b 1 a) c);J (g=1) (J (g=1) (b 0 a) d) (J (g=2) (b 0 a) d)) ?_;dsimp only[J];rcases b with rfl | rfl | rfl | rfl | rfl | rfl | rfl<;>simp[aZ]
def aeR:fI where
 res:=λ _=>none
 lend:=λ _=>false
 sch:=λ _=> .done
 lt:=λ _=>[]
 kz:=Gh
def dB {b:Bool}:ZB 470 [.bool b] a uY (pT (wy b)):=by
 refine uJ (an:=aeR) (fn:=Tryz.f470) mix tO Tryz.func470 (by rfl) (extra:=0) ?_;exact⟨λ h=>(by subst h;rfl),λ h=>(by subst h;rfl)⟩
def Cl {v:az}:ZB 296 [MH v] a fg (λ r _=>r=TP v):=by
 refine ΦK 0 bE (λ b=>J (v.kind=3) (b (decide (v.n=1)) a) (b false a)) ?_;dsimp only[J];unfold TP;grind
def xu {c b:az}(i:ae .i64 c.n)(l:ae .i64 b.n):ZB 471 [Φi 3,MH c,MH b] a uY (pT (lA c b)):=by
 refine ΦK 0 {aj [] [(3,ab 2 6 [0])] []with kb:=ir [] [34,35,45,46],wr:=mem [26]} (λ d=>V (c.kind=1) (d 0 0 ⟨⟨[]⟩⟩ a) (V (b.kind=1) (d 0 0 ⟨⟨[]⟩⟩ a) (decide ((3:Int)=4)=false/\decide ((3:Int)=5)=false/\ΦQ (!decide (c.n<IntKind.wrap IntKind.i64 (c.n+b.n))==decide (0<b.n)) (d 0 0 ⟨⟨[]⟩⟩ a) (d 1 (IntKind.wrap IntKind.i64 (c.n+b.n)) ⟨⟨[]⟩⟩ a)))) ?_;dsimp only[ΦQ,V];obtain⟨g,w2,m⟩:=La i l;simp only[aay,aaF,aad,aaf];refine⟨λ h=>?_,λ k=>⟨λ h=>?_,λ j=>P' ⟨λ h=>?_,λ h=>?_⟩⟩⟩
 .show v0=lA c b;rw[lA,if_neg (λ d=>h d.1)]
 .show v0=lA c b;rw[lA,if_neg (λ d=>h d.2.1)]
 all_goals
  have f:ae .i64 (c.n+b.n)↔(decide (c.n<IntKind.i64.wrap (c.n+b.n))==decide (0<b.n))=true:=by
   grind
 .have e:¬ae .i64 (c.n+b.n):=λ e=>by
   grind
  show v0=lA c b;rw[lA,if_neg (λ d=>e d.2.2)]
 .have e:=f.2 (by
   grind)
  rw[g e,pT,lA,if_pos ⟨k,j,e⟩]
def pU (h:Sl a b c d e)(j:0<=g)(t:g.toNat<e.length)(m:f=e[g.toNat]):cD b/\g<c/\
  Cells a b (g.toNat*7) [Φi f.op,Φi f.a,Φi f.b,Φi f.col,Φi f.k.kind,Φi f.k.n,ΦT f.k.s]:=by
 have p:=h.len;obtain⟨_,o,_,r,rfl,q⟩:=h.at (ah _) j (by omega);exact⟨o,u' (by rw[m];omega)⟩
def GI (o:Sl a b c d e)(j:0<=g)(q:g.toNat<e.length)(s:f=e[g.toNat])(l:rQ g.toNat f)(v:aZ f.op=0):ZB 382 [S b c d,Φi g] a fg (λ r _=>r=true):=by
 obtain⟨t,m,p⟩:=pU o j q s;refine ΦK 0 {aj [11] [] []with kb:=ir [13,14,33,34] []} (λ d=>ΦX b g c (ΦE ZE a b (N g*7+0) (λ e=>C ZP 295 [I e] a λ f h=>decide (h<1)=true/\decide (h<2)=true/\d true f))) ?_;dsimp only[aQ,aR,eQ,C,ΦE,N,ΦX];exact⟨t,j,m,_,p.cy (k:=0) rfl,_,aX l.op,λ u w _ h=>by grind⟩
def GJ (t:Sl a b c d e)(l:0<=g)(u:g.toNat<e.length)(v:f=e[g.toNat])(q:rQ g.toNat f)(z:aZ f.op=1):ZB 382 [S b c d,Φi g] a fg (λ r _=>r=true):=by
 obtain⟨p,m,o⟩:=pU t l u v;refine ΦK 0 {aj [11] [] []with kb:=ir [33,34] [13,14]} (λ d=>ΦX b g c (ΦE ZE a b (N g*7+0) (λ e=>C ZP 295 [I e] a λ f h=>decide (h<1)=false/\ΦX b g c (ΦE ZE f b (N g*7+1) (λ i=>J (0<=i) (ΦX b g c (ΦE ZE f b (N g*7+1) (λ j=>J (j<g) (decide (h<2)=true/\d true f) (d false f)))) (d false f)))))) ?_;dsimp only[aQ,aR,eQ,C,ΦE,N,ΦX,J];obtain⟨y,B⟩:=q.a (by omega);refine⟨p,l,m,_,o.cy (k:=0) rfl,_,aX q.op,λ w s _ j=>?_⟩;refine T' ⟨p,l,m,_,(o.mono s).cy (k:=1) rfl,λ _=>⟨p,l,m,_,(o.mono s).cy (k:=1) rfl,λ _=>T' rfl,λ h=>?_⟩,λ h=>?_⟩
 .grind
 grind
def GK (t:Sl a b c d e)(l:0<=g)(u:g.toNat<e.length)(v:f=e[g.toNat])(s:rQ g.toNat f)(E:aZ f.op=2):ZB 382 [S b c d,Φi g] a fg (λ r _=>r=true):=by
 obtain⟨o,m,p⟩:=pU t l u v;refine ΦK 0 {aj [11] [] []with kb:=ir [] [13,14,33,34]} (λ d=>ΦX b g c (ΦE ZE a b (N g*7+0) (λ e=>C ZP 295 [I e] a λ f h=>decide (h<1)=false/\ΦX b g c (ΦE ZE f b (N g*7+1) (λ i=>J (0<=i) (ΦX b g c (ΦE ZE f b (N g*7+1) (λ j=>J (j<g) (decide (h<2)=false/\ΦX b g c (ΦE ZE f b (N g*7+2) (λ k=>J (0<=k) (ΦX b g c (ΦE ZE f b (N g*7+2) (λ l=>d (decide (l<g)) f))) (d false f)))) (d false f)))) (d false f)))))) ?_;dsimp only[aQ,aR,eQ,C,ΦE,N,ΦX,J];obtain⟨w,B⟩:=s.a (by omega);obtain⟨y,z⟩:=s.b (by omega);refine⟨o,l,m,_,p.cy (k:=0) rfl,_,aX s.op,λ D q _ j=>?_⟩;refine T' ⟨o,l,m,_,(p.mono q).cy (k:=1) rfl,λ _=>⟨o,l,m,_,(p.mono q).cy (k:=1) rfl,λ _=>T' ⟨o,l,m,_,(p.mono q).cy (k:=2) rfl,λ _=>⟨o,l,m,_,(p.mono q).cy (k:=2) rfl,?_⟩,λ h=>?_⟩,λ h=>?_⟩,λ h=>?_⟩
 .grind
 all_goals
  grind
def bY (l:Sl a b c d e)(k:0<=g)(o:g.toNat<e.length)(m:f=e[g.toNat])(j:rQ g.toNat f):ZB 382 [S b c d,Φi g] a fg (λ r _=>r=true):=by
 rcases(show aZ f.op=0\/aZ f.op=1\/aZ f.op=2 by have:=lM f.op;omega)with h | h | h
 .exact GI l k _ m j h
 .exact GJ l k _ m j h
 .exact GK l k _ m j h
def Jk (t:Sl a b c d e)(r:0<=g)(G:g.toNat<e.length)(u:f=e[g.toNat])(s:rQ g.toNat f)(M:Sl a h j k n)(J:Sl a i l m o)(L:g.toNat<=o.length)(p:f.op=1):
  ZB 384 [S b c d,Φi g,S h j k,S i l m] a uY (pT (uZ f n o)):=by
 obtain⟨F,z,E⟩:=pU t r G u;unfold uZ;refine ΦK 0 {aj aA [] []with kb:=ir [45,46] [21,22,26,30,37,49,50,67,68,84,85,103,104,112,113,121,122,127,128]} (λ e=>ΦX b g c (ΦE ZJ a b (N g*7) (λ f h i j k l m=>C ZP 295 [I f] a λ n o=>decide (o<0)=false/\C ZO 382 [S b c d,I g] n λ p q=>(!q)=false/\decide (0<o)=false/\decide (1<o)=false/\decide (f=1)=true/\e k l m p))) ?_;dsimp only[aQ,aR,eQ,C,ΦE,N,ΦX];refine⟨F,r,z,_,_,_,_,_,_,_,E,_,aX s.op,?_⟩;rintro O w _ rfl;refine⟨by rfl,_,bY (t.mono w) r _ u s,?_⟩;rintro y v _ rfl;exact⟨by rfl,by simp[p,aZ],by simp[p,aZ],T' (by rw[pT,eI,if_pos p])⟩
def Jl (F:Sl a b c d e)(v:0<=g)(w:g.toNat<e.length)(G:f=e[g.toNat])(z:rQ g.toNat f)(E:Sl a h j k n)(V:Sl a i l m o)(Y:g.toNat<=o.length)(u:f.op=2):
  ZB 384 [S b c d,Φi g,S h j k,S i l m] a uY (pT (uZ f n o)):=by
 obtain⟨P,L,T⟩:=pU F v w G;unfold uZ;refine ΦK 0 {aj aA [] []with kb:=ir [49,50] [21,22,26,30,37,45,46,67,68,84,85,103,104,112,113,121,122,127,128]} (λ e=>ΦX b g c (ΦE ZJ a b (N g*7) (λ f i k l m n o=>C ZP 295 [I f] a λ p q=>decide (q<0)=false/\C ZO 382 [S b c d,I g] p λ r s=>(!s)=false/\decide (0<q)=false/\decide (1<q)=false/\decide (f=1)=false/\decide (f=2)=true/\J (l<0) (e 0 0 ⟨⟨[]⟩⟩ r) (J (O j<=l) (e 0 0 ⟨⟨[]⟩⟩ r) (ΦX h l j (ΦE ZF r h (N l*3) (λ t u v=>e t u v r))))))) ?_;dsimp only[aQ,aR,eQ,C,ΦE,N,ΦX,O,J];refine⟨P,v,L,_,_,_,_,_,_,_,T,_,aX z.op,?_⟩;rintro H8 y _ rfl;refine N' ⟨_,bY (F.mono y) v w G z,?_⟩;rintro R t _ rfl;have t:=aa y t;have W:=E.len;have X:∀p r,eI f n p r=if 0<=f.col/\f.col<n.length then n.getD f.col.toNat v0 else v0:=λ p r=>by simp[eI,u]
 simp only[aaf];refine⟨by rfl,by simp[u,aZ],by simp[u,aZ],U' ⟨λ s=>?_,λ s=>⟨λ Q=>?_,λ Q=>?_⟩⟩⟩
 .show v0=_;grind
 .show v0=_;grind
 .have w:f.col.toNat<n.length:=by omega
  obtain⟨Z,U,M,q4⟩:=lL E _;refine⟨U,y' ⟨_,_,_,M.mono t,?_⟩⟩;show n[f.col.toNat]=_;grind
def Jm {i:Int}(z:Sl a b c d e)(v:0<=i)(T:i.toNat<e.length)(E:f=e[i.toNat])(u:rQ i.toNat f){D:D'}(hr:Sl a h j k n)(w:Sl a D l m o)(hq:i.toNat<=o.length)(s:f.op=3):
  ZB 384 [S b c d,Φi i,S h j k,S D l m] a uY (pT (uZ f n o)):=by
 obtain⟨P,M,W⟩:=pU z v T E;obtain⟨a1,a2⟩:=u.a (by simp[s,aZ]);obtain⟨a3,Q,O,U⟩:=lL w (i:=f.a.toNat) (by omega);obtain⟨Y,b2⟩:=u.b (by simp[s,aZ]);obtain⟨Z,R,G,J⟩:=lL w (i:=f.b.toNat) (by omega);have F:o.getD f.a.toNat v0=o[f.a.toNat]'(by omega):=by rw[aaq,aai (by omega)];rfl
 have L:o.getD f.b.toNat v0=o[f.b.toNat]'(by omega):=by rw[aaq,aai (by omega)];rfl
 unfold uZ;rw[F];generalize o[f.a.toNat]'(by omega)=g at*;rw[L];generalize o[f.b.toNat]'(by omega)=p at*;refine ΦK 0 {aj aA [] []with kb:=ir [30,37] [21,22,26,45,46,49,50,67,68,84,85,103,104,112,113,121,122,127,128]} (λ e=>ΦX b i c (ΦE ZJ a b (N i*7) (λ f g h j k m n=>C ZP 295 [I f] a λ o p=>decide (p<0)=false/\C ZO 382 [S b c d,I i] o λ q r=>(!r)=false/\decide (0<p)=true/\ΦX D g l (ΦE ZF q D (N g*3) (λ s t u=>decide (1<p)=true/\ΦX D h l (ΦE ZF q D (N h*3) (λ v w x=>decide (f=1)=false/\decide (f=2)=false/\decide (f=6)=false/\decide (f=7)=false/\decide (f=8)=false/\decide (f=9)=false/\decide (f=10)=false/\decide (f=11)=false/\C ZU 471 [I f,ΦG [I s,I t,ΦT u],ΦG [I v,I w,ΦT x]] q λ y z a0 a1=>e z a0 a1 y))))))) ?_;dsimp only[aQ,aR,eQ,C,ΦE,N,ΦX];refine⟨P,v,M,_,_,_,_,_,_,_,W,_,aX u.op,?_⟩;rintro H8 y _ rfl;refine⟨by rfl,_,bY (z.mono y) v _ E u,?_⟩;rintro V t _ rfl;have t:=aa y t;refine⟨by rfl,by simp[s,aZ],Q,y' ⟨_,_,_,O.mono t,by simp[s,aZ],R,y' ⟨_,_,_,G.mono t,U' (U' (U' (U' ⟨_,by rw[s];exact xu U.2.1 J.2.1,λ _ _ X k2 k3 r=>?_⟩)))⟩⟩⟩;rw[eI];grind
def Jn {i:Int}(E:Sl a b c d e)(w:0<=i)(F:i.toNat<e.length)(G:f=e[i.toNat])(v:rQ i.toNat f){D:D'}(hr:Sl a h j k n)(y:Sl a D l m o)(hq:i.toNat<=o.length)(u:f.op=6):
  ZB 384 [S b c d,Φi i,S h j k,S D l m] a uY (pT (uZ f n o)):=by
 obtain⟨T,Q,Y⟩:=pU E w F G;obtain⟨a1,a2⟩:=v.a (by simp[u,aZ]);obtain⟨a3,U,R,a6⟩:=lL y (i:=f.a.toNat) (by omega);obtain⟨Z,b2⟩:=v.b (by simp[u,aZ]);obtain⟨b3,W,L,b6⟩:=lL y (i:=f.b.toNat) (by omega);have J:o.getD f.a.toNat v0=o[f.a.toNat]'(by omega):=by rw[aaq,aai (by omega)];rfl
 have M:o.getD f.b.toNat v0=o[f.b.toNat]'(by omega):=by rw[aaq,aai (by omega)];rfl
 unfold uZ;rw[J];generalize o[f.a.toNat]'(by omega)=g at*;rw[M];generalize o[f.b.toNat]'(by omega)=p at*;refine ΦK 0 {aj aA [] []with kb:=ir [30,37,67,68] [21,22,26,45,46,49,50,84,85,103,104,112,113,121,122,127,128]} (λ e=>ΦX b i c (ΦE ZJ a b (N i*7) (λ f g h j k m n=>C ZP 295 [I f] a λ o p=>decide (p<0)=false/\C ZO 382 [S b c d,I i] o λ q r=>(!r)=false/\decide (0<p)=true/\ΦX D g l (ΦE ZF q D (N g*3) (λ s t u=>decide (1<p)=true/\ΦX D h l (ΦE ZF q D (N h*3) (λ v w x=>decide (f=1)=false/\decide (f=2)=false/\decide (f=6)=true/\let y:=C ZU 470 [ΦB false] q λ y z a0 a1=>e z a0 a1 y;V (s=0) (V (v=0) (C ZP 68 [ΦG [I s,I t,ΦT u],ΦG [I v,I w,ΦT x]] q (λ z a0=>C ZU 470 [ΦB (decide (a0=0))] z λ a1 a2 a3 a4=>e a2 a3 a4 a1)) y) y))))))) ?_;dsimp only[aQ,aR,eQ,C,ΦE,N,ΦX,V];refine⟨T,w,Q,_,_,_,_,_,_,_,Y,_,aX v.op,?_⟩;rintro H8 z _ rfl;refine⟨by rfl,_,bY (E.mono z) w F G v,?_⟩;rintro X t _ rfl;have t:=aa z t;refine⟨by rfl,by simp[u,aZ],U,y' ⟨_,_,_,R.mono t,by simp[u,aZ],W,y' ⟨_,_,_,L.mono t,T' (U' ⟨λ s=>⟨λ P=>⟨_,nS,?_⟩,λ P=>⟨_,dB,?_⟩⟩,λ s=>⟨_,dB,?_⟩⟩)⟩⟩⟩
 .rintro O _ r rfl;refine⟨_,dB,λ _ _ _ _ _ hh=>?_⟩;rw[eI];grind
 .rw[eI];grind
 .rw[eI];grind
def Jo {i:Int}(E:Sl a b c d e)(w:0<=i)(F:i.toNat<e.length)(G:f=e[i.toNat])(v:rQ i.toNat f){D:D'}(hr:Sl a h j k n)(y:Sl a D l m o)(hq:i.toNat<=o.length)(u:f.op=7):
  ZB 384 [S b c d,Φi i,S h j k,S D l m] a uY (pT (uZ f n o)):=by
 obtain⟨U,R,Z⟩:=pU E w F G;obtain⟨a1,a2⟩:=v.a (by simp[u,aZ]);obtain⟨a3,W,T,a6⟩:=lL y (i:=f.a.toNat) (by omega);obtain⟨b1,b2⟩:=v.b (by simp[u,aZ]);obtain⟨b3,X,M,b6⟩:=lL y (i:=f.b.toNat) (by omega);have L:o.getD f.a.toNat v0=o[f.a.toNat]'(by omega):=by rw[aaq,aai (by omega)];rfl
 have O:o.getD f.b.toNat v0=o[f.b.toNat]'(by omega):=by rw[aaq,aai (by omega)];rfl
 unfold uZ;rw[L];generalize o[f.a.toNat]'(by omega)=g at*;rw[O];generalize o[f.b.toNat]'(by omega)=p at*;refine ΦK 0 {aj aA [] []with kb:=ir [30,37,84,85] [21,22,26,45,46,49,50,67,68,103,104,112,113,121,122,127,128]} (λ e=>ΦX b i c (ΦE ZJ a b (N i*7) (λ f g h j k m n=>C ZP 295 [I f] a λ o p=>decide (p<0)=false/\C ZO 382 [S b c d,I i] o λ q r=>(!r)=false/\decide (0<p)=true/\ΦX D g l (ΦE ZF q D (N g*3) (λ s t u=>decide (1<p)=true/\ΦX D h l (ΦE ZF q D (N h*3) (λ v w x=>decide (f=1)=false/\decide (f=2)=false/\decide (f=6)=false/\decide (f=7)=true/\let y:=C ZU 470 [ΦB false] q λ y z a0 a1=>e z a0 a1 y;V (s=0) (J (s=v) (C ZP 68 [ΦG [I s,I t,ΦT u],ΦG [I v,I w,ΦT x]] q (λ z a0=>C ZU 470 [ΦB (decide (a0<0))] z λ a1 a2 a3 a4=>e a2 a3 a4 a1)) y) y))))))) ?_;dsimp only[aQ,aR,eQ,C,ΦE,N,ΦX,V,J];refine⟨U,w,R,_,_,_,_,_,_,_,Z,_,aX v.op,?_⟩;rintro H8 z _ rfl;refine⟨by rfl,_,bY (E.mono z) w F G v,?_⟩;rintro Y t _ rfl;have t:=aa z t;refine⟨by rfl,by simp[u,aZ],W,y' ⟨_,_,_,T.mono t,by simp[u,aZ],X,y' ⟨_,_,_,M.mono t,U' (U' ⟨λ s=>⟨λ Q=>⟨_,nS,?_⟩,λ Q=>⟨_,dB,?_⟩⟩,λ s=>⟨_,dB,?_⟩⟩)⟩⟩⟩
 .rintro P _ r rfl;refine⟨_,dB,λ _ _ _ _ _ hh=>?_⟩;rw[eI];grind
 .rw[eI];grind
 .rw[eI];grind
def GL {i:Int}(v:Sl a b c d e)(s:0<=i)(w:i.toNat<e.length)(y:f=e[i.toNat])(t:rQ i.toNat f){D:D'}(V:Sl a h j k n)(z:Sl a D l m o)(Q:i.toNat<=o.length)(r:f.op=10):
  ZB 384 [S b c d,Φi i,S h j k,S D l m] a uY (pT (uZ f n o)):=by
 obtain⟨G,F,O⟩:=pU v s w y;obtain⟨X,Y⟩:=t.a (by simp[r,aZ]);obtain⟨T,L,J,W⟩:=lL z (i:=f.a.toNat) (by omega);have E:o.getD f.a.toNat v0=o[f.a.toNat]'(by omega):=by rw[aaq,aai (by omega)];rfl
 unfold uZ;rw[E];generalize o[f.a.toNat]'(by omega)=g at*;refine ΦK 0 {aj aA [] []with kb:=ir [30,121,122] [21,22,26,37,45,46,49,50,67,68,84,85,103,104,112,113,127,128]} (λ e=>ΦX b i c (ΦE ZJ a b (N i*7) (λ f g h j k m n=>C ZP 295 [I f] a λ o p=>decide (p<0)=false/\C ZO 382 [S b c d,I i] o λ q r=>(!r)=false/\decide (0<p)=true/\ΦX D g l (ΦE ZF q D (N g*3) (λ s t u=>decide (1<p)=false/\decide (f=1)=false/\decide (f=2)=false/\decide (f=6)=false/\decide (f=7)=false/\decide (f=8)=false/\decide (f=9)=false/\decide (f=10)=true/\C ZO 296 [ΦG [I s,I t,ΦT u]] q λ v w=>C ZU 470 [ΦB (!w)] v λ x y z a0=>e y z a0 x))))) ?_;dsimp only[aQ,aR,eQ,C,ΦE,N,ΦX];refine⟨G,s,F,_,_,_,_,_,_,_,O,_,aX t.op,?_⟩;rintro R u _ rfl;refine⟨by rfl,_,bY (v.mono u) s w y t,?_⟩;rintro M p _ rfl;have p:=aa u p;refine⟨by rfl,by simp[r,aZ],L,y' ⟨_,_,_,J.mono p,by simp[r,aZ],T' (U' (U' (U' ⟨_,Cl,?_⟩)))⟩⟩;rintro P _ _ rfl;refine⟨_,dB,λ _ _ _ _ _ U=>?_⟩;rw[eI];grind
def GM {i:Int}(v:Sl a b c d e)(s:0<=i)(L:i.toNat<e.length)(w:f=e[i.toNat])(t:rQ i.toNat f){D:D'}(U:Sl a h j k n)(y:Sl a D l m o)(P:i.toNat<=o.length)(r:f.op=11):
  ZB 384 [S b c d,Φi i,S h j k,S D l m] a uY (pT (uZ f n o)):=by
 obtain⟨F,E,O⟩:=pU v s L w;obtain⟨W,X⟩:=t.a (by simp[r,aZ]);obtain⟨R,J,G,V⟩:=lL y (i:=f.a.toNat) (by omega);have z:o.getD f.a.toNat v0=o[f.a.toNat]'(by omega):=by rw[aaq,aai (by omega)];rfl
 unfold uZ;rw[z];generalize o[f.a.toNat]'(by omega)=g at*;refine ΦK 0 {aj aA [] []with kb:=ir [30,127,128] [21,22,26,37,45,46,49,50,67,68,84,85,103,104,112,113,121,122]} (λ e=>ΦX b i c (ΦE ZJ a b (N i*7) (λ f g h j k m n=>C ZP 295 [I f] a λ o p=>decide (p<0)=false/\C ZO 382 [S b c d,I i] o λ q r=>(!r)=false/\decide (0<p)=true/\ΦX D g l (ΦE ZF q D (N g*3) (λ s t u=>decide (1<p)=false/\decide (f=1)=false/\decide (f=2)=false/\decide (f=6)=false/\decide (f=7)=false/\decide (f=8)=false/\decide (f=9)=false/\decide (f=10)=false/\decide (f=11)=true/\C ZU 470 [ΦB (decide (s=0))] q λ v w x y=>e w x y v))))) ?_;dsimp only[aQ,aR,eQ,C,ΦE,N,ΦX];refine⟨F,s,E,_,_,_,_,_,_,_,O,_,aX t.op,?_⟩;rintro Q u _ rfl;refine⟨by rfl,_,bY (v.mono u) s _ w t,?_⟩;rintro M p _ rfl;have p:=aa u p;refine⟨by rfl,by simp[r,aZ],J,y' ⟨_,_,_,G.mono p,by simp[r,aZ],U' (U' (U' (U' ⟨_,dB,λ _ _ _ _ _ T=>?_⟩)))⟩⟩;rw[eI];grind
def MI (w:Sl a b c d e)(v:0<=g)(z:g.toNat<e.length)(y:f=e[g.toNat])(r:rQ g.toNat f)(u:Sl a h j k n)(s:Sl a i l m o)(t:g.toNat<=o.length):
  ZB 384 [S b c d,Φi g,S h j k,S i l m] a uY (pT (uZ f n o)):=by
 rcases r.op with p | p | p | p | p | p | p
 .exact Jk w v _ y r u s t p
 .exact Jl w v _ y r u s t p
 .exact Jm w v _ y r u s t p
 .exact Jn w v _ y r u s t p
 .exact Jo w v _ y r u s t p
 .exact GL w v _ y r u s t p
 .exact GM w v _ y r u s t p
end
def Sh {x:Xp}{a d e:List az}{i:Nat}(c:rQ i x)(f:d.length=i):uZ x a (d++e)=uZ x a d:=by
 rw[<-zm,<-zm];have:((opsL x).map λ o=>(d++e).getD o.toNat v0)=(opsL x).map λ o=>d.getD o.toNat v0:=by
  apply acV;intro o b;have:=c.mem o b;grind
 grind
def Cm {H:Heap}{A B:D'}{n c m d:Nat}{f:List Xp}{b:List az}{r:Int}(x:Sl H A n c f)(F:Sl H B m d b)(hw:AP f)(r0:0<=r)(r1:r<f.length)(hb:f.length<=1000000):
  ZB 297 [S A n c,Φi r,S B m d] H uY (pT (Lb f r b)):=by
 refine ΦK 1 (aj [32] [] [(5,[.slot 7 false [.row 38 133],ag 8])]) (λ a=>J (r<0) (a 0 0 ⟨⟨[]⟩⟩ H) (J (O n<=r) (a 0 0 ⟨⟨[]⟩⟩ H) (ΦR (r+1)/\r+1=r+1/\0<=r+1/\(r+1)*O 32<=M/\(∀b:G',b=dE [I 0,I 0,ΦT ⟨⟨[]⟩⟩] (N (r+1))->W ZG H (λ e=>e (N (r+1)) b 0 H) λ e f g h i j=>J (j<=r) (∃k:Int->Int->ByteArray->Heap->Prop,U g i h (λ l o p=>af Tryz.prog 384 [S A n c,I j,S B m d,S l h o] p ⟨false,[(true,[.int .i64,.int .i64,.str])]⟩ k)/\∀(l:Heap)(o p:Int)(q:ByteArray),k o p q l->ΦY j h (N j*3+3<=L i/\ΦR (j+1)/\(let s:=av i (N j*3) [I o,I p,ΦT q];e h s (j+1) g/\f h s (j+1)<f h i j))) (ΦY r h (ΦF ZF i (N r*3) 3 (λ k l o=>a k l o g))))))) ?_;dsimp only[PL,aW,eQ,ΦF,L,M,N,ΦR,W,ΦY,O,J];have s2:=x.len;have s3:=x.cap;simp only[aad,aaf];refine⟨λ h=>(by omega),λ _=>⟨λ h=>(by omega),λ _=>u' ⟨trivial,y' ?_⟩⟩⟩;rintro a0 rfl;obtain⟨a,hK⟩:∃a:Nat,a=r.toNat+1:=⟨_,rfl⟩;have e1:(r+1).toNat=a:=by omega
 rw[e1];refine⟨λ q D i H'=>0<=i/\i<=a/\q=a/\Row H' D (ve f b i.toNat++List.replicate (a-i.toNat) v0),λ _ _ i=>a-i.toNat,P' ⟨rfl,?_⟩,?_⟩
 .have hz:Rep.rel H _ v0:=⟨rfl,kS⟩;exact Row.gS hz a
 rintro a2 j q D i ⟨z,h1,C,e⟩;replace C:=C.symm;subst C;dsimp only;refine⟨λ T=>?_,λ P=>?_⟩
 .have E:i.toNat<f.length:=by omega
  have v:=hw _ E;have l:(ve f b _).length=i.toNat:=xO (by omega);have s:(ve f b i.toNat++List.replicate (a-i.toNat) v0).length=a:=by grind
  refine⟨pT (uZ f[i.toNat] b (ve f b i.toNat++List.replicate (a-i.toNat) v0)),λ Y V X g o p=>?_,?_⟩
  .have Q:=e.sl g (n:=a) o s p (by show a*32<=_;omega) (by omega);exact MI (x.mono (aa j g)) z _ rfl v (F.mono (aa j g)) Q (by omega)
  .rintro a1 k1 k2 k3 G;rw[pT,Sh v l]at G;have R:D.length=a*3:=by rw[e.length,s];rfl
   obtain⟨_,_,_,_,rfl,x1,x2,x3,x4,x5⟩:=x.at (ah _) z (by omega);have w:dp (uZ _ _ (ve f b i.toNat)):=uX x5 F.Wr;have u:=e.dV (i:=i.toNat) (by grind) (us:=[.int _ _,.int _ _,ΦT _]) (t:=uZ _ _ _) (by rw[<-G]at w⊢;exact⟨rfl,w⟩);rw[Le l (by omega)]at u;refine⟨z,J' ⟨y' ⟨rfl,?_⟩,by omega⟩⟩;rw[show(i+1).toNat=i.toNat+1 by omega,GH _];omega
 .have y:i.toNat=a:=by omega
  rw[y,adY,adt,aar]at e;have hl:(ve f b a).length=a:=xO (by omega);have k:=e.dO (i:=r.toNat) (by omega);have Z:(ve f b a)[r.toNat]'(by omega)=Lb f r b:=by
   unfold Lb;grind
  rw[Z]at k;exact y' ⟨_,_,_,k.1,rfl⟩
section
variable {a:Heap}{b d e:Int}
abbrev Rv:cj:=⟨true,[]⟩
def af.VB {P:Program}{f:FuncId}{c:G'}{k:IntKind}{d b:Int->Heap->Prop}(h:af P f c a ⟨false,[(false,[.int k])]⟩ d)(j:∀r g,d r g->b r g):af P f c a ⟨false,[(false,[.int k])]⟩ b:=by
 refine⟨h.1,λ w s=>?_⟩;refine(h.2 w s).mono ?_;rintro e y ⟨v,g,p,m,i,q⟩;refine⟨v,g,p,m,?_,q⟩;obtain⟨n,x,t,l,o,u⟩:=i;exact⟨n,x,t,l,o,j _ _ u⟩
def Bf (cf:bR->bR->Int)(l:List bR):Prop:=∀i j (b:i<l.length) (a:j<l.length),i<=j->0<=cf l[j] l[i]
def sG (c:0<=b)(a:b<4611686018427387904):IntKind.i64.wrap (Int.fdiv (IntKind.u64.wrap b) 2)=b/2:=by
 have e:IntKind.u64.wrap b=b:=by rw[IntKind.wrap_u64];omega
 rw[e,Int.fdiv_eq_ediv_of_nonneg _ (by simp),adS];omega
section
variable {H:Heap}{A:D'}{n c:Nat}{l:List bR}{g:FuncId}{cf:bR->bR->Int}
def GN (B:Sl H A n c l)(Z:jM Tryz.prog bR H g cf)(Y:Bf cf l)(b:Heap.le H a){i j:Int}(P:0<=i)(R:i<n)(X:0<=j)(j1:j<=i):
  cD A/\∃(F:Int) (e:D') (q k:Nat) (G v x w:Int),Cells a A (i.toNat*6) [Φi F,S e q k,Φi G,Φi v,Φi x,Φi w]/\
   ∃(s:Int) (m:D') (o h:Nat) (y u z t:Int),Cells a A (j.toNat*6) [Φi s,S m o h,Φi y,Φi u,Φi z,Φi t]/\
    ZB g [.agg ⟨[Φi F,S e q k,Φi G,Φi v,Φi x,Φi w]⟩,.agg ⟨[Φi s,S m o h,Φi y,Φi u,Φi z,Φi t]⟩] a gL (λ r _=>0<=r):=by
 obtain⟨Q,K,_,p,E⟩:=B.at b P R;obtain⟨T,_,_,f,D⟩:=B.at b X (by omega);have d:=Z _ _ _ _ _ b E D;have hn:=Y _ _ T Q (by omega);obtain⟨e,q,k,rfl,-⟩:=E;obtain⟨m,o,h,rfl,-⟩:=D;exact⟨K,_,_,_,_,_,_,_,_,p,_,_,_,_,_,_,_,_,f,d.VB λ r H hr=>by grind⟩
def VC (k:Sl H A n c l)(w:jM Tryz.prog bR H g cf)(v:Bf cf l)(f:Heap.le H a)(X:0<=b)(z:d<=n)(G:b<=d):ZB 518 [S A n c,Φi b,Φi d,.func (.func g) #[] #[]] a Rv (λ _=>True):=by
 refine ΦK 0 {aj [32] [(4,ab 2 14 [31,32,34,0]),(6,gP)] [(1,[ag 8]),(4,[ag 9])]with kb:=ir [] [33]} (λ c=>ΦR (b+1)/\W ZE a (λ e=>e (b+1) a) λ e f h i=>J (i<d) (W ZE h (λ j=>j i h) (λ j k l m=>let o:=λ o=>ΦR (i+1)/\e (i+1) o/\f (i+1)<f i;J (b<m) (ΦX A m n (ΦE ZH l A (N m*6) (λ p q r s t u v w=>ΦR (m-1)/\ΦX A (m-1) n (ΦE ZH l A (N (m-1)*6) (λ x y z a0 a1 a2 a3 a4=>C ZP g [ΦG [I p,S q r s,I t,I u,I v,I w],ΦG [I x,S y z a0,I a1,I a2,I a3,I a4]] l λ a5 a6=>decide (a6<0)=false/\o a5))))) (o l))) (c h)) ?_;dsimp only[PL,aQ,aR,aW,eQ,C,ΦE,N,ΦR,W,ΦX,J];have B:=k.bn;refine u' ⟨λ i _=>b+1<=i,λ i=>(d-i).toNat,by dsimp only;omega,?_⟩;intro V m i q;dsimp only at q⊢;refine⟨λ e=>?_,λ _=>trivial⟩;have e:=aab e;refine⟨λ j _=>j=i,λ j=>0,rfl,?_⟩;intro U t j hj;obtain⟨h,a1,D,n1,O,a2,F,P,L,o,Y,R,T,E,M,Z,e4,y,x,p⟩:=GN k w v (aa f (aa m t)) (i:=j) (j:=j-1) (by omega) (by omega) (by omega) (by omega);refine⟨λ _=>⟨h,y' ⟨_,_,_,_,_,_,_,_,o,by omega,h,y' ⟨_,_,_,_,_,_,_,_,x,_,p,λ u s r Q=>⟨aao (by omega),y' (by omega)⟩⟩⟩⟩,λ _=>T' (u' (by omega))⟩
def WE (h:Sl H A n c l)(u:jM Tryz.prog bR H g cf)(t:Bf cf l)(f:Heap.le H a)(X:0<=b)(w:e<=n)(D:d<e)(r:d-b=1):ZB 519 [S A n c,Φi b,Φi d,Φi e,.func (.func g) #[] #[]] a Rv (λ _=>True):=by
 refine ΦK 0 {aj eA ax [(3,[ag 10,ag 11]),(9,[ag 13]),(15,[ag 14,ag 15]),(21,[ag 17]),(33,[ag 20,ag 21])]with kb:=ir [28] [50,58]} (λ c=>ΦR (d-b)/\decide (d-b=1)=true/\W ZK a (λ f=>f d e a) λ f h i j k=>J (j<k) (ΦR (j+k)/\(∃l:Int,IntKind.wrap IntKind.u64 (j+k)=l/\(1:Int)=1/\∃m:Int,IntKind.wrap IntKind.i64 (Int.fdiv l 2)=m/\ΦX A m n (ΦE ZH i A (N m*6) (λ o p q r s t u v=>ΦX A b n (ΦE ZH i A (N b*6) (λ w x y z a0 a1 a2 a3=>C ZP g [ΦG [I o,S p q r,I s,I t,I u,I v],ΦG [I w,S x y z,I a0,I a1,I a2,I a3]] i λ a4 a5=>decide (a5<0)=false/\f j m a4/\h j m<h j k)))))) (W ZE i (λ l=>l b i) (λ l m o p=>ΦR (j-1)/\decide (p<j-1)=false/\c o))) ?_;dsimp only[PL,aQ,aR,aW,eQ,C,ΦE,N,ΦR,W,ΦX,J];have y:=h.bn;refine u' ⟨aau r,λ i j _=>i=d/\d<=j/\j<=e,λ i j=>(j-i).toNat,T' ?_⟩;rintro V p i j ⟨rfl,j0,x⟩;refine⟨λ o=>?_,λ _=>?_⟩
 .refine u' ⟨_,rfl,rfl,_,rfl,?_⟩;rw[sG (by omega) (by omega)];obtain⟨O,a1,z,n1,Q,a2,G,R,M,E,Y,T,U,F,P,Z,e4,v,q2,L⟩:=GN h u t (aa f p) (i:=(i+j)/2) (j:=b) (by omega) (by omega) (by omega) (by omega);grind
 .refine⟨λ k _=>k=b,λ k=>0,rfl,?_⟩;intro q s k B;exact u' ⟨aao (by omega),trivial⟩
def WG (q:Sl H A n c l)(B:jM Tryz.prog bR H g cf)(z:Bf cf l)(h:Heap.le H a)(a0:0<=b)(G:e<=n)(E:b<d)(y:¬d-b=1)(o:e-d=1):ZB 519 [S A n c,Φi b,Φi d,Φi e,.func (.func g) #[] #[]] a Rv (λ _=>True):=by
 refine ΦK 0 {aj eA ax [(3,[ag 10,ag 11]),(9,[ag 13]),(15,[ag 14,ag 15]),(21,[ag 17]),(33,[ag 20,ag 21])]with kb:=ir [80] [28,102,110]} (λ c=>ΦR (d-b)/\decide (d-b=1)=false/\ΦR (e-d)/\decide (e-d=1)=true/\W ZK a (λ f=>f b d a) λ f h i j k=>J (j<k) (ΦR (j+k)/\(∃l:Int,IntKind.wrap IntKind.u64 (j+k)=l/\(1:Int)=1/\∃m:Int,IntKind.wrap IntKind.i64 (Int.fdiv l 2)=m/\ΦX A d n (ΦE ZH i A (N d*6) (λ o p q r s t u v=>ΦX A m n (ΦE ZH i A (N m*6) (λ w x y z a0 a1 a2 a3=>C ZP g [ΦG [I o,S p q r,I s,I t,I u,I v],ΦG [I w,S x y z,I a0,I a1,I a2,I a3]] i λ a4 a5=>decide (a5<0)=false/\ΦR (m+1)/\f (m+1) k a4/\h (m+1) k<h j k)))))) (W ZE i (λ l=>l d i) (λ l m o p=>decide (j<p)=false/\c o))) ?_;dsimp only[PL,aQ,aR,aW,eQ,C,ΦE,N,ΦR,W,ΦX,J];have L:=q.bn;refine u' ⟨aao y,by omega,aau o,λ i j _=>b<=i/\i<=j/\j=d,λ i j=>(j-i).toNat,by dsimp only;omega,?_⟩;rintro H2 u i j ⟨U,j0,rfl⟩;dsimp only;refine⟨λ f=>?_,λ s=>?_⟩
 .have f:=aab f;refine u' ⟨_,rfl,rfl,_,rfl,?_⟩;rw[sG (by omega) (by omega)];obtain⟨p,a1,M,n1,T,a2,P,V,Q,w,e1,Y,Z,O,R,e3,e4,F,D,x⟩:=GN q B z (aa h u) (i:=j) (j:=(i+j)/2) (by omega) (by omega) (by omega) (by omega);exact⟨p,y' ⟨_,_,_,_,_,_,_,_,w,p,y' ⟨_,_,_,_,_,_,_,_,D,_,x,λ t v r X=>⟨aao (by omega),by omega,y' rfl,by omega⟩⟩⟩⟩
 .refine⟨λ k _=>k=j,λ k=>0,rfl,?_⟩;grind
def WH (w:Sl H A n c l)(U:jM Tryz.prog bR H g cf)(T:Bf cf l){k:Nat}(R:∀{a:Heap} (f:Heap.le H a) {b d e:Int} (F:(e-b).toNat<=k) (Q:0<=b) (p:e<=n) (y:b<d) (s:d<e),ZB 519 [S A n c,Φi b,Φi d,Φi e,.func (.func g) #[] #[]] a Rv (λ _=>True))
   (f:Heap.le H a) (F:(e-b).toNat<=k+1) (Q:0<=b) (p:e<=n) (y:b<d) (s:d<e) (O:¬d-b=1) (D:¬e-d=1) (v:(b+e)/2<d):ZB 519 [S A n c,Φi b,Φi d,Φi e,.func (.func g) #[] #[]] a Rv (λ _=>True):=by
 refine ΦK 0 {aj eA ax [(3,[ag 10,ag 11]),(9,[ag 13]),(15,[ag 14,ag 15]),(21,[ag 17]),(33,[ag 20,ag 21])]with kb:=ir [140,180,181,194,195,208,209,212] [28,80,170,184,198]} (λ f=>ΦR (d-b)/\decide (d-b=1)=false/\ΦR (e-d)/\decide (e-d=1)=false/\ΦR (b+e)/\∃h:Int,IntKind.wrap IntKind.u64 (b+e)=h/\(1:Int)=1/\∃i:Int,IntKind.wrap IntKind.i64 (Int.fdiv h 2)=i/\ΦR (i+d)/\decide (i<d)=true/\ΦR (i+d-e)/\ΦR (i+d-1)/\W ZK a (λ j=>j (i+d-e) i a) λ j k l m o=>J (m<o) (ΦR (m+o)/\(∃p:Int,IntKind.wrap IntKind.u64 (m+o)=p/\(1:Int)=1/\∃q:Int,IntKind.wrap IntKind.i64 (Int.fdiv p 2)=q/\ΦR (i+d-1-q)/\ΦX A (i+d-1-q) n (ΦE ZH l A (N (i+d-1-q)*6) (λ r s t u v w x y=>ΦX A q n (ΦE ZH l A (N q*6) (λ z a0 a1 a2 a3 a4 a5 a6=>C ZP g [ΦG [I r,S s t u,I v,I w,I x,I y],ΦG [I z,S a0 a1 a2,I a3,I a4,I a5,I a6]] l λ a7 a8=>decide (a8<0)=false/\ΦR (q+1)/\j (q+1) o a7/\k (q+1) o<k m o)))))) (ΦR (i+d-m)/\decide (m<d)=true/\decide (d<i+d-m)=false/\decide (b<m)=true/\decide (m<i)=false/\decide (i<i+d-m)=true/\decide (i+d-m<e)=true/\C ZV 519 [S A n c,I i,I (i+d-m),I e,.func (.func g) ⟨[]⟩ ⟨[]⟩] l (λ p=>f p))) ?_;dsimp only[PL,aQ,aR,aW,eQ,C,ΦE,N,ΦR,W,ΦX,J];have Y:=w.bn;refine u' ⟨aao O,by omega,aao D,by omega,_,rfl,rfl,_,rfl,?_⟩;rw[sG (by omega) (by omega)];obtain⟨q,G⟩:∃q,q=(b+e)/2:=⟨_,rfl⟩;rw[<-G]at v⊢;refine u' ⟨aau v,y' ⟨λ i j _=>q+d-e<=i/\i<=j/\j=q,λ i j=>(j-i).toNat,T' ?_⟩⟩;rintro Z t i j ⟨i0,i1,rfl⟩;dsimp only;refine ΦD (λ z=>?_) λ x=>?_
 .refine u' ⟨_,rfl,rfl,_,rfl,?_⟩;rw[sG (by omega) (by omega)];obtain⟨u,a1,A1,n1,c1,a2,a3,a4,a5,M,e1,B1,m1,d1,e2,e3,e4,X,V,P⟩:=GN w U T (aa f t) (i:=j+d-1-(i+j)/2) (j:=(i+j)/2) (by omega) (by omega) (by omega) (by omega);exact u' ⟨u,y' ⟨_,_,_,_,_,_,_,_,M,u,y' ⟨_,_,_,_,_,_,_,_,V,_,P,λ B L r hr=>⟨aao (by omega),by omega,y' rfl,by omega⟩⟩⟩⟩
 .have o:i=j:=by omega
  subst o;have E:i+d-i=d:=by omega
  rw[E];exact u' ⟨aau (by omega),aao (by simp),aau (by omega),aao (by simp),aau (by omega),aau (by omega),_,R (aa f t) (by omega) (by omega) p (by omega) s,λ _ _ h=>h⟩
def WI (u:Sl H A n c l)(R:jM Tryz.prog bR H g cf)(Q:Bf cf l){k:Nat}(P:∀{a:Heap} (h:Heap.le H a) {b d e:Int} (D:(e-b).toNat<=k) (v:0<=b) (y:e<=n) (x:b<d) (F:d<e),ZB 519 [S A n c,Φi b,Φi d,Φi e,.func (.func g) #[] #[]] a Rv (λ _=>True))
   (h:Heap.le H a) (D:(e-b).toNat<=k+1) (v:0<=b) (y:e<=n) (x:b<d) (F:d<e) (M:¬d-b=1) (B:¬e-d=1) (t:¬(b+e)/2<d):ZB 519 [S A n c,Φi b,Φi d,Φi e,.func (.func g) #[] #[]] a Rv (λ _=>True):=by
 refine ΦK 0 {aj eA ax [(3,[ag 10,ag 11]),(9,[ag 13]),(15,[ag 14,ag 15]),(21,[ag 17]),(33,[ag 20,ag 21])]with kb:=ir [194,195] [28,80,140,170,180,181,208,209]} (λ f=>ΦR (d-b)/\decide (d-b=1)=false/\ΦR (e-d)/\decide (e-d=1)=false/\ΦR (b+e)/\∃h:Int,IntKind.wrap IntKind.u64 (b+e)=h/\(1:Int)=1/\∃i:Int,IntKind.wrap IntKind.i64 (Int.fdiv h 2)=i/\ΦR (i+d)/\decide (i<d)=false/\ΦR (i+d-1)/\W ZK a (λ j=>j b d a) λ j k l m o=>J (m<o) (ΦR (m+o)/\(∃p:Int,IntKind.wrap IntKind.u64 (m+o)=p/\(1:Int)=1/\∃q:Int,IntKind.wrap IntKind.i64 (Int.fdiv p 2)=q/\ΦR (i+d-1-q)/\ΦX A (i+d-1-q) n (ΦE ZH l A (N (i+d-1-q)*6) (λ r s t u v w x y=>ΦX A q n (ΦE ZH l A (N q*6) (λ z a0 a1 a2 a3 a4 a5 a6=>C ZP g [ΦG [I r,S s t u,I v,I w,I x,I y],ΦG [I z,S a0 a1 a2,I a3,I a4,I a5,I a6]] l λ a7 a8=>decide (a8<0)=false/\ΦR (q+1)/\j (q+1) o a7/\k (q+1) o<k m o)))))) (ΦR (i+d-m)/\decide (m<d)=false/\decide (b<m)=true/\J (m<i) (C ZV 519 [S A n c,I b,I m,I i,.func (.func g) ⟨[]⟩ ⟨[]⟩] l (λ p=>decide (i<i+d-m)=false/\f p)) (decide (i<i+d-m)=false/\f l))) ?_;dsimp only[PL,aQ,aR,aW,eQ,C,ΦE,N,ΦR,W,ΦX,J];have V:=u.bn;refine u' ⟨aao M,by omega,aao B,by omega,_,rfl,rfl,_,rfl,?_⟩;rw[sG (by omega) (by omega)];obtain⟨q,E⟩:∃q,q=(b+e)/2:=⟨_,rfl⟩;rw[<-E]at t⊢;refine u' ⟨aao t,by omega,λ i j _=>b<=i/\i<=j/\j=d,λ i j=>(j-i).toNat,T' ?_⟩;rintro X p i j ⟨i0,i1,rfl⟩;dsimp only;refine ΦD (λ f=>?_) λ w=>?_
 .refine u' ⟨_,rfl,rfl,_,rfl,?_⟩;rw[sG (by omega) (by omega)];obtain⟨s,a1,Y,n1,c1,a2,a3,a4,a5,L,e1,B1,m1,Z,e2,e3,e4,U,T,O⟩:=GN u R Q (aa h p) (i:=q+j-1-(i+j)/2) (j:=(i+j)/2) (by omega) (by omega) (by omega) (by omega);exact u' ⟨s,y' ⟨_,_,_,_,_,_,_,_,L,s,y' ⟨_,_,_,_,_,_,_,_,T,_,O,λ z G r hr=>⟨aao (by omega),by omega,y' rfl,by omega⟩⟩⟩⟩
 .have o:i=j:=by omega
  subst o;refine u' ⟨aao (by simp),aau (by omega),λ f=>?_,λ _=>⟨aao (by simp),trivial⟩⟩;have f:=aab f;exact⟨_,P (aa h p) (by omega) v (by omega) (by omega) f,λ _ _ _=>⟨aao (by simp),trivial⟩⟩
def Si (f:Sl H A n c l)(j:jM Tryz.prog bR H g cf)(i:Bf cf l):∀(k:Nat) {s:Heap} (d:Heap.le H s) {a m b:Int} (q:(b-a).toNat<=k) (h:0<=a) (e:b<=n) (o:a<m) (p:m<b),
  ZB 519 [S A n c,Φi a,Φi m,Φi b,.func (.func g) #[] #[]] s Rv (λ _=>True)
 | 0,s,d,a,m,b,q,h,e,o,p=>by omega
 | k+1,s,d,a,m,b,q,h,e,o,p=>by
  by_cases r:m-a=1
  .exact WE f j i d h e p r
  by_cases t:b-m=1
  .exact WG f j i d h e o r t
  by_cases v:(a+b)/2<m
  .exact WH f j i (λ u=>Si f j i k u) d q h e o p r t v
  .exact WI f j i (λ u=>Si f j i k u) d q h e o p r t v
end
end
section
variable {a:List bR}{b e f:Int}{d:Heap}{h:List Xp}
section
variable {H:Heap}{A:D'}{n c:Nat}{l:List bR}{g:FuncId}{cf:bR->bR->Int}
def Sj (f:Sl H A n c l)(m:jM Tryz.prog bR H g cf)(j:Bf cf l):ZB 487 [S A n c,Φi n,.func (.func g) #[] #[]] H Rv (λ _=>True):=by
 refine ΦK 0 (aj [] [] [(2,[ag 7,ag 8]),(7,[ag 6]),(9,[ag 7,ag 8])]) (λ a=>let b:=(↑n:Int);W ZK H (λ d=>d 0 20 H) λ d e f h i=>J (i<=b) (C ZV 518 [S A n c,I h,I i,.func (.func g) ⟨[]⟩ ⟨[]⟩] f (λ j=>ΦR (i+20)/\d i (i+20) j/\e i (i+20)<e h i)) (C ZV 518 [S A n c,I h,I b,.func (.func g) ⟨[]⟩ ⟨[]⟩] f (λ j=>W ZE j (λ k=>k 20 j) λ k l m o=>J (o<b) (ΦR (2*o)/\W ZK m (λ p=>p 0 (2*o) m) (λ p q r s t=>J (t<=b) (ΦR (s+o)/\C ZV 519 [S A n c,I s,I (s+o),I t,.func (.func g) ⟨[]⟩ ⟨[]⟩] r (λ u=>ΦR (2*o)/\ΦR (t+2*o)/\p t (t+2*o) u/\q t (t+2*o)<q s t)) (ΦR (s+o)/\(let u:=λ u=>ΦR (o*2)/\k (o*2) u/\l (o*2)<l o;J (s+o<b) (C ZV 519 [S A n c,I s,I (s+o),I b,.func (.func g) ⟨[]⟩ ⟨[]⟩] r (λ v=>u v)) (u r))))) (a m)))) ?_;dsimp only[PL,aQ,aR,aW,C,ΦR,W,J];have B:=f.bn;refine⟨λ a b _=>0<=a/\a<=n/\b=a+20,λ a b=>(n-a).toNat,y' (by omega),?_⟩;rintro F q a b ⟨i,s,rfl⟩;refine⟨λ d=>?_,λ o=>?_⟩
 .have d:=aab d;exact⟨_,VC f m j q i d (by omega),λ E G _=>u' ⟨y' (by simp),by grind⟩⟩
 refine⟨_,VC f m j q i (by simp) s,λ x r _=>⟨λ k _=>20<=k,λ k=>(n-k).toNat,T' ?_⟩⟩;intro w p k D;refine⟨λ d=>?_,λ _=>trivial⟩;have d:=aab d;have e:=aa q (aa r p);refine u' ⟨λ a b _=>0<=a/\a<=n/\b=a+2*k,λ a b=>(n-a).toNat,P' (by simp),?_⟩;rintro u h a b ⟨i,s,rfl⟩;refine⟨λ d=>?_,λ o=>?_⟩
 .have d:=aab d;exact u' ⟨_,Si f m j _ (aa e h) (aaB _) i d (by omega) (by omega),λ t v _=>y' ⟨y' (by rfl),by grind⟩⟩
 .refine u' ⟨λ d=>?_,λ _=>u' (T' (by grind))⟩;have d:=aab d;exact⟨_,Si f m j _ (aa e h) (aaB _) i (by simp) (by omega) d,λ z y _=>u' (T' (by grind))⟩
def aeq:fI where
 res:=λ _=>none
 lend:=λ _=>false
 sch:=λ _=> .done
 lt:=λ _=>[]
 kz:=Gh
def VD (a:Sl H A n c l)(d:jM Tryz.prog bR H g cf)(b:Bf cf l):ZB 435 [S A n c,.func (.func g) #[] #[]] H Rv (λ _=>True):=by
 refine uJ (an:=aeq) (fn:=Tryz.f435) mix tO Tryz.func435 (by rfl) (extra:=0) ?_;exact⟨_,Sj a d b,λ _ _ _=>trivial⟩
end
def DW:jM Tryz.prog bR d 436 (λ a b=>cQ a.id b.id):=by
 rintro i g h a b f ⟨A,n,c,rfl,-⟩ ⟨B,m,e,rfl,-⟩;refine ΦK 0 (aj [9] [] []) (λ c=>C ZP 52 [I a.id,I b.id] i λ d e=>c e d) ?_;dsimp only[aQ,aR,C];refine⟨_,gC,?_⟩;simp
def nk.WJ (h:nk a):Bf (λ c b=>cQ c.id b.id) a:=by
 intro i j g f d;rw[nk,aaX]at h;by_cases e:i=j
 .subst e;simp[cQ]
 .unfold cQ;grind
def gi (a b:bc):Bool:=dm a&&dm b&&decide (max a.lo b.lo<min a.hi b.hi)
def cv (a b:bc):bc:=if gi a b then⟨max a.lo b.lo,min a.hi b.hi⟩else⟨0,0⟩
abbrev VE:cj:=⟨true,[(true,[.int .i64,.int .i64]),(false,[.bool])]⟩
def vg (p q:bc):Int->Int->Bool->Heap->Prop:=λ x y r _=>(⟨x,y⟩:bc)=cv p q/\r=gi p q
def iK {c:Int}:ZB 250 [.agg ⟨[Φi b,Φi e]⟩,.agg ⟨[Φi f,Φi c]⟩] d VE (vg ⟨b,e⟩ ⟨f,c⟩):=by
 refine ΦK 0 (aj [19,23] [] []) (λ a=>C ZO 139 [ΦG [I b,I e]] d λ g h=>ΦQ (!h) (a 0 0 false g) (C ZO 139 [ΦG [I f,I c]] g (λ i j=>ΦQ (!j) (a 0 0 false i) (J (min e c<=max b f) (a 0 0 false i) (a (max b f) (min e c) true i))))) ?_;dsimp only[aQ,aR,C,ΦQ,J];refine⟨_,bX,?_⟩;rintro g _ _ rfl;refine⟨λ h=>?_,λ i=>⟨_,bX,?_⟩⟩
 .unfold vg cv gi;grind
 unfold vg cv gi;grind
def pV {c:Int}:ZB 226 [.agg ⟨[Φi b,Φi e]⟩,.agg ⟨[Φi f,Φi c]⟩] d VE (vg ⟨b,e⟩ ⟨f,c⟩):=by
 refine ΦK 0 (aj [19,23] [] []) (λ a=>C ZO 151 [ΦG [I b,I e]] d λ g h=>ΦQ (!h) (a 0 0 false g) (C ZO 151 [ΦG [I f,I c]] g (λ i j=>ΦQ (!j) (a 0 0 false i) (J (min e c<=max b f) (a 0 0 false i) (a (max b f) (min e c) true i))))) ?_;dsimp only[aQ,aR,C,ΦQ,J];refine⟨_,dX,?_⟩;rintro g _ _ rfl;refine⟨λ h=>?_,λ i=>⟨_,dX,?_⟩⟩
 .unfold vg cv gi;grind
 unfold vg cv gi;grind
def nX (p:bc)(a:List Xp)(r:Int)(v:bR):Bool:=decide (v.rc.hi=1099511627776)&&gi v.vd p&&TP (Lb a r v.vals)
def cW (b:List bR)(p:bc)(a:List Xp)(r:Int):List bR:=b.filter (nX p a r)
def zn {p:bc}{es:List Xp}{r:Int}(h:nk a):nk (cW a p es r):=abg aci h
def mM {p:bc}{v:bR}:cW (a++[v]) p h b=cW a p h b++if nX p h b v then[v]else[]:=by
 unfold cW;grind
def jz {p:bc}:(cW a p h b).length<=a.length:=abm ..
def wz {A B:D'}{n c m j:Nat}(Q:Sl d A n c a)(ha:nk a)(he:Sl d B m j h)(hw:AP h)(r0:0<=f)(r1:f<h.length)(hb:h.length<=1000000):
  ZB 339 [S A n c,.agg ⟨[Φi b,Φi e]⟩,S B m j,Φi f] d fi (λ A' n' c' Y=>Sl Y A' n' c' (cW a ⟨b,e⟩ h f)):=by
 refine ΦK 1 (aj [34] [] [(3,[.slot 9 false [.row 56 75],ag 17])]) (λ a=>W ZG d (λ c=>c 0 [] 0 d) λ c g h i k l=>J (l<O n) (ΦX A l n (ΦE ZH h A (N l*6) (λ o p q r s t u v=>C ZW 250 [ΦG [I s,I t],ΦG [I b,I e]] h λ w x y z=>C ZU 264 [S B m j,I f,S p q r] w λ a0 a1 a2 a3=>C ZO 431 [ΦG [I o,S p q r,I s,I t,I u,I v]] a0 λ a4 a5=>let a6:=ΦR (l+1)/\c i k (l+1) a4/\g i k (l+1)<g i k l;ΦQ a5 (ΦQ z (J (a1=3) (J (a2=1) ((i+1)*64<=M/\ΦR (l+1)/\(let a7:=k++[Value.int .i64 o,S p q r,I s,I t,I u,I v];c (i+1) a7 (l+1) a4/\g (i+1) a7 (l+1)<g i k l)) a6) a6) a6) a6))) (U h k i (λ o p q=>C ZV 435 [S o i p,.func (.func 436) ⟨[]⟩ ⟨[]⟩] q λ r=>a o i p r))) ?_;dsimp only[PL,aQ,aR,aW,eQ,C,ΦE,M,N,ΦQ,ΦR,W,ΦX,O,J];have s2:=Q.len;have s3:=Q.bnd;have s4:=Q.bn;have s3:n*64<=140737488355328:=s3;refine⟨λ q V i Y=>0<=i/\i<=n/\q=(cW (a.take i.toNat) ⟨b,e⟩ h f).length/\Row Y V (cW (a.take i.toNat) ⟨b,e⟩ h f),λ _ _ i=>n-i.toNat,y' ⟨rfl,rfl⟩,?_⟩;rintro H2 F q V i ⟨G,h1,L,p⟩;simp only[aad,aaf];refine⟨λ w=>?_,λ a9=>?_⟩
 .obtain⟨X,hA,_,a0,A9,n9,c9,rfl,T,r2,r3,r4,r5,r6⟩:=Q.at F G w;have a8:q<=i.toNat:=by rw[L];exact aax jz (by simp;omega)
  refine⟨hA,G,w,_,_,_,_,_,_,_,_,a0,_,iK,?_⟩;rintro a2 k x y a1 ⟨e1,rfl⟩;refine⟨_,Cj (he.mono (aa F k)) (r2.mono k) hw r0 r1 hb,?_⟩;rintro a6 o k1 k2 k3 hv;refine⟨_,tT,?_⟩;rintro R l _ rfl;have hB:nX ⟨b,e⟩ h f a[i.toNat]=(decide (a[i.toNat].rc.hi=1099511627776)&&gi a[i.toNat].vd ⟨b,e⟩&&(decide (k1=3)&&decide (k2=1))):=by
   unfold nX TP;rw[<-hv]
  have P:=p.mono (aa k (aa o l));have s:nX ⟨b,e⟩ h f a[i.toNat]=false->(0<=i+1/\i+1<=n/\q=(cW (a.take (i+1).toNat) ⟨b,e⟩ h f).length/\Row R V (cW (a.take (i+1).toNat) ⟨b,e⟩ h f)):=by
   rw[bu G X,mM];grind
  have D:n-(i+1).toNat<n-i.toNat:=by omega
  have z:ae .i64 (i+1):=by omega
  refine⟨λ f1=>⟨λ f2=>⟨λ f3=>⟨λ f4=>u' ⟨z,y' ⟨?_,?_⟩,D⟩,λ f4=>⟨z,s ?_,D⟩⟩,λ f3=>⟨z,s ?_,D⟩⟩,λ f2=>⟨z,s ?_,D⟩⟩,λ f1=>⟨z,s ?_,D⟩⟩
  .have u:nX ⟨b,e⟩ h f a[i.toNat]=true:=by simp_all
   rw[bu G X,mM,u,aae,<-L];rfl
  .have u:nX ⟨b,e⟩ h f a[i.toNat]=true:=by simp_all
   rw[bu G X,mM,u];exact P.append (Row.one ⟨A9,n9,c9,rfl,T,r2.mono (aa k (aa o l)),r3,r4,r5,r6⟩)
  all_goals simp_all
 .have g:a.take i.toNat=a:=aag (by omega);rw[g]at L p;intro a4 a3 a5 t v E;have b0:q<=n:=by rw[L,<-s2];exact jz
  have hS:=p.sl t (n:=q) v L.symm E (by show q*64<=_;omega) (by omega);exact⟨_,VD hS DW (zn ha).WJ,λ a7 Z _=>hS.mono Z⟩
end
section
variable {a:List Xp}{b:List az}{c:Heap}
def zp {A B:D'}{n g m d:Nat}{k:List bR}{f b r:Int}(hs:Sl c A n g k)(ha:nk k)(he:Sl c B m d a)(hw:AP a)(r0:0<=r)(r1:r<a.length)(hb:a.length<=1000000):
  ZB 225 [S A n g,.agg ⟨[Φi f,Φi b]⟩,S B m d,Φi r] c fi (λ A' n' c' H'=>Sl H' A' n' c' (cW k ⟨f,b⟩ a r)):=by
 refine ΦK 2 (aj [42] [(9,ab 2 6 [20,22,15,16,19,24,26,0])] [(3,[.slot 9 false [.row 80 75],ag 17]),(9,[.slot 9 false [.row 81 75],ag 14])]) (λ a=>W ZG c (λ e=>e 0 [] 0 c) λ e g h i j k=>J (k<O n) (ΦX A k n (ΦE ZH h A (N k*6) (λ l o p q s t u v=>C ZW 226 [ΦG [I s,I t],ΦG [I f,I b]] h λ w x y z=>let a0:=λ a0=>ΦR (k+1)/\e i j (k+1) a0/\g i j (k+1)<g i j k;V (v=1099511627776) (a0 w) (ΦQ (!z) (a0 w) (C ZU 297 [S B m d,I r,S o p q] w (λ a1 a2 a3 a4=>C ZO 296 [ΦG [I a2,I a3,ΦT a4]] a1 λ a5 a6=>ΦQ (!a6) (a0 a5) ((i+1)*64<=M/\W ZG a5 (λ a7=>a7 (i+1) (j++[Value.int .i64 l,S o p q,I s,I t,I u,I v]) (O i) a5) (λ a7 a8 a9 b0 b1 b2=>let b3:=λ(b3:Int) b4 (b5 b6:Nat)(b7 b8 b9 c0:Int)=>av b1 (N b2*6) [I b3,S b4 b5 b6,I b7,I b8,I b9,I c0];let b4:=ΦY b2 b0 (N b2*6+6<=L b1/\ΦR (k+1)/\e b0 (b3 l o p q s t u v) (k+1) a9/\g b0 (b3 l o p q s t u v) (k+1)<g i j k);J (0<b2) (ΦR (b2-1)/\ΦY (b2-1) b0 (ΦF ZE b1 (N (b2-1)*6+0) 1 (λ b5=>J (l<b5) (ΦR (b2-1)/\ΦY (b2-1) b0 (ΦF ZH b1 (N (b2-1)*6) 6 (λ b6 b7 b8 b9 c0 c1 c2 c3=>ΦY b2 b0 (N b2*6+6<=L b1/\ΦR (b2-1)/\a7 b0 (b3 b6 b7 b8 b9 c0 c1 c2 c3) (b2-1) a9/\a8 b0 (b3 b6 b7 b8 b9 c0 c1 c2 c3) (b2-1)<a8 b0 b1 b2)))) b4))) b4)))))))) (U h j i (λ l o p=>a l i o p))) ?_;dsimp only[PL,aQ,aR,aW,eQ,C,ΦE,ΦF,L,M,N,ΦQ,ΦR,W,ΦX,ΦY,O,V,J];have s2:=hs.len;have s3:=hs.bnd;have s4:=hs.bn;have s3:n*64<=140737488355328:=s3;refine⟨λ q xs i H'=>0<=i/\i<=n/\q=(cW (k.take i.toNat) ⟨f,b⟩ a r).length/\Row H' xs (cW (k.take i.toNat) ⟨f,b⟩ a r),λ _ _ i=>n-i.toNat,y' ⟨rfl,rfl⟩,?_⟩;rintro H2 a4 q xs i ⟨h0,h1,Y,p⟩;simp only[aad,aaf];refine⟨λ a2=>?_,λ b8=>?_⟩
 .obtain⟨hi,hA,_,a7,A9,n9,c9,rfl,a0,r2,r3,r4,r5,r6⟩:=hs.at a4 h0 a2;have b7:q<=i.toNat:=by rw[Y];exact aax jz (by simp;omega)
  refine⟨hA,h0,a2,_,_,_,_,_,_,_,_,a7,_,pV,?_⟩;rintro b2 l x y b1 ⟨e1,rfl⟩;have Q:nX ⟨f,b⟩ a r k[i.toNat]=false->∀D,Heap.le H2 D->(0<=i+1/\i+1<=n/\q=(cW (k.take (i+1).toNat) ⟨f,b⟩ a r).length/\Row D xs (cW (k.take (i+1).toNat) ⟨f,b⟩ a r)):=by
   intro hf D o;rw[bu h0 hi,mM,hf];simpa using y' ⟨Y,p.mono o⟩
  have hm:n-(i+1).toNat<n-i.toNat:=by omega
  have hg:ae .i64 (i+1):=by omega
  refine⟨λ f1=>⟨hg,Q ?_ _ l,hm⟩,λ f1=>⟨λ f2=>⟨hg,Q ?_ _ l,hm⟩,λ f2=>?_⟩⟩
  .unfold nX;simp_all
  .unfold nX;simp_all
  refine⟨_,Cm (he.mono (aa a4 l)) (r2.mono l) hw r0 r1 hb,?_⟩;rintro b6 P k1 k2 k3 hv;refine⟨_,Cl (v:=⟨k1,k2,k3⟩),?_⟩;rintro D o _ rfl;have s:=aa l (aa P o);rw[pT]at hv;refine⟨λ f3=>⟨hg,Q ?_ _ s,hm⟩,λ f3=>?_⟩
  .unfold nX;rw[<-hv];simp_all
  have a8:nX ⟨f,b⟩ a r k[i.toNat]=true:=by unfold nX;rw[<-hv];simp_all
  have a6:=p.mono s;have hL:=a6.append (Row.one (t:=k[i.toNat]) ⟨A9,n9,c9,rfl,a0,r2.mono s,r3,r4,r5,r6⟩);have eL:cW (k.take (i+1).toNat) ⟨f,b⟩ a r=cW (k.take i.toNat) ⟨f,b⟩ a r++[k[i.toNat]]:=by rw[bu h0 hi,mM,a8,if_pos rfl]
  have F:nk (cW (k.take (i+1).toNat) ⟨f,b⟩ a r):=zn (abg (ach _ _) ha);obtain⟨h,G⟩:∃h,h=cW (k.take (i+1).toNat) ⟨f,b⟩ a r:=⟨_,rfl⟩;rw[<-eL,<-G]at hL;rw[<-G]at F eL;have u:h.length=q+1:=by rw[eL,aae,<-Y];rfl
  have z:h[q]'(by omega)=k[i.toNat]:=by simp[eL,Y]
  rw[<-G];refine u' ⟨λ q' w j H'=>q'=q+1/\j=q/\Row H' w h,λ _ _ _=>0,⟨rfl,rfl,hL⟩,?_⟩;rintro a9 X q' w j ⟨rfl,rfl,hx⟩;have a5:(0:Int)<=(q:Int)/\(q:Int)<((q+1:Nat):Int)/\((q:Int).toNat*6+6<=w.length)/\Row a9 (av w ((q:Int).toNat*6) [Φi k[i.toNat].id,S A9 n9 c9,Φi k[i.toNat].vd.lo,Φi k[i.toNat].vd.hi,Φi k[i.toNat].rc.lo,Φi k[i.toNat].rc.hi]) h:=by
   have R:=hx.length;have R:w.length=h.length*6:=R;refine y' ⟨by rw[R,u,aaV];omega,?_⟩;have E:=hx.dV (i:=q) (by omega) (t:=k[i.toNat]) (us:=[Φi k[i.toNat].id,S A9 n9 c9,Φi k[i.toNat].vd.lo,Φi k[i.toNat].vd.hi,Φi k[i.toNat].rc.lo,Φi k[i.toNat].rc.hi]) ⟨A9,n9,c9,rfl,a0,r2.mono (aa s X),r3,r4,r5,r6⟩;rw[<-z,List.set_getElem_self,z]at E;exact E
  obtain⟨z1,z2,z3,z4⟩:=a5;refine⟨λ hj=>?_,λ hj=>⟨z1,z2,z3,hg,y' ⟨u.symm,z4⟩,hm⟩⟩;obtain⟨us,⟨A5,n5,c5,rfl,-⟩,a1,-⟩:=hx.mg (i:=q-1) _;refine J' ⟨(h[q-1]'(by omega)).id,?_,λ b0=>?_,λ _=>⟨z1,z2,z3,hg,y' ⟨u.symm,z4⟩,hm⟩⟩
  .rw[show((q:Int)-1).toNat=q-1 by simp];exact a1 0 1 (by decide)
  .rw[nk,aaX]at F;grind
 .have e:k.take i.toNat=k:=aag (by omega);rw[e]at Y p;intro b4 b3 b5 T Z a3;have b9:q<=n:=by rw[Y,<-s2];exact jz
  exact p.sl T (n:=q) Z Y.symm a3 (by show q*64<=_;omega) (by omega)
structure xP where
 col:Int
 ex:Int
deriving DecidableEq
instance:Rep xP where
 sz:=2
 byt:=16
 rel _ vs v:=vs=[.int .i64 v.col,.int .i64 v.ex]/\ae .i64 v.col/\ae .i64 v.ex
 mono _ h:=h
 len h:=by simp[h.1]
 pos:=by decide
 bpos:=by decide
 one h:=by rw[h.1];simp[Value.oneCell']
def zq (d:List Xp)(c b:List az)(a:xP):List az:=if 0<=a.col/\a.col<b.length then b.set a.col.toNat (Lb d a.ex c)else b
def iw (c:List Xp)(a:List az)(b:List xP):List az:=b.foldl (zq c a) a
def Px {d:List az}{c:xP}:(zq a b d c).length=d.length:=by unfold zq;grind
theorem tV {es:List Xp}{ef:List az}{set:List xP}:(iw es ef set).length=ef.length:=by
 unfold iw
 have:∀(set:List xP) (cur:List az),(set.foldl (zq es ef) cur).length=cur.length:=by
  intro set
  induction set with
  | nil=>simp
  | cons a set ih=>intro cur;rw[List.foldl_cons,ih,Px]
 grind
def qU {d:List xP}{c:xP}:iw a b (d++[c])=zq a b (iw a b d) c:=by simp[iw]
def Rx (c:List Xp)(b:List xP):Prop:=∀a∈b,0<=a.ex/\a.ex<c.length
def TS {r:Int}(c:∀x∈a,dp x.k)(d:∀v∈b,dp v):dp (Lb a r b):=by
 unfold Lb;rw[aaq];cases h:(ve _ _ _)[r.toNat]? with
 | none=>exact kS
 | some v=>exact Vy (λ x e=>c x (acb e)) d (λ _ h=>by grind) v (aaJ h)
def Row.Zm {o:Heap}{n:G'}{e:List az}{d:xP}(h:Row c n b)(g:Heap.le c o)(p:∀x∈a,dp x.k)(w:∀v∈e,dp v)(q:0<=d.col)(s:d.col<b.length){j l:Int}{m:ByteArray}(u:(⟨j,l,m⟩:az)=Lb a d.ex e):
  Row o (av n (d.col.toNat*3) [Φi j,Φi l,ΦT m]) (zq a e b d):=by
 have f:=TS (r:=d.ex) p w;rw[zq,if_pos ⟨q,s⟩];have:=(h.mono g).dV (i:=d.col.toNat) (by omega) (t:=Lb _ _ _) (us:=[.int _ _,.int _ _,ΦT _]) (by rw[<-u]at f⊢;exact⟨rfl,f⟩);omega
def tW {A B E:D'}{n f m d k e:Nat}{g:List xP}(o:Sl c A n f b)(Q:Sl c B m d a)(y:Sl c E k e g)(hw:AP a)(hb:a.length<=1000000)(ho:Rx a g):
  ZB 227 [S A n f,S B m d,S E k e] c fi (λ A' V Y G=>Sl G A' V Y (iw a b g)):=by
 refine ΦK 1 (aj [] [(6,ab 2 7 [17,19,21,0])] [(3,[.slot 7 false [.row 39 133],ag 14])]) (λ a=>∃b:G',Cells c A 0 b/\L b=n*3/\n*32<=M/\W ZG c (λ e=>e n b 0 c) λ e g h i j l=>J (l<O k) (ΦX E l k (ΦE ZK h E (N l*2) (λ o p=>let q:=ΦR (l+1)/\e i j (l+1) h/\g i j (l+1)<g i j l;J (0<=o) (J (o<O i) (C ZU 297 [S B m d,I p,S A n f] h (λ r s t u=>ΦY o i (N o*3+3<=L j/\ΦR (l+1)/\(let v:=av j (N o*3) [I s,I t,ΦT u];e i v (l+1) r/\g i v (l+1)<g i j l)))) q) q))) (U h j i (λ o p q=>a o i p q))) ?_;dsimp only[PL,aQ,aR,aW,eQ,C,ΦE,L,M,N,ΦR,W,ΦX,ΦY,O,J];obtain⟨ys,hc,j⟩:=o.row;have D:=o.len;have t1:=y.len;have t2:=y.bn;refine⟨ys,hc,by rw[j.length,D];rfl,o.bnd,λ q w i G=>0<=i/\i<=k/\q=n/\Row G w (iw a b (g.take i.toNat)),λ _ _ i=>k-i.toNat,y' ⟨rfl,j⟩,?_⟩;rintro H3 p q w i ⟨v,h1,rfl,x⟩;simp only[aad,aaf];refine⟨λ t=>?_,λ T=>?_⟩
 .obtain⟨P,hA,_,z,rfl,r1,r2⟩:=y.at p v t;have hl:(iw a b (g.take i.toNat)).length=q:=by rw[tV,D]
  have h:=ho _ (aan P);have s:¬(0<=g[i.toNat].col/\g[i.toNat].col<q)->ae .i64 (i+1)/\(0<=i+1/\i+1<=k/\True/\Row H3 w (iw a b (g.take (i+1).toNat)))/\k-(i+1).toNat<k-i.toNat:=by
   rw[bu v P,qU,zq];grind
  refine⟨hA,v,t,_,_,z,λ F=>⟨λ R=>?_,λ R=>s (by omega)⟩,λ F=>s (by omega)⟩;refine⟨_,Cm (Q.mono p) (o.mono p) hw h.1 h.2 hb,?_⟩;rintro a3 r k1 k2 k3 hv;have X:w.length=(iw _ _ _).length*3:=x.length;refine⟨F,R,y' ⟨y' ⟨trivial,?_⟩,by omega⟩⟩;rw[bu v _,qU];exact x.Zm r Q.Vz o.Wr F (by omega) hv
 .have e:g.take i.toNat=g:=aag (by omega);rw[e]at x;intro a4 Z a2 l u hn;exact x.sl l u (by rw[tV,D]) hn o.bnd o.bn
end
section
variable {a:Heap}{b:D'}{c d e:Nat}{f:List az}{g h:Int}
def Jp (j:Sl a b c d f):
  ZB 82 [S b c d] a ⟨false,[(false,[.row e 133])]⟩ (λ m s t=>m=f.length/\Row t s f):=by
 refine ΦK 0 bE (λ d=>ΦQ (Option.isNone b) (d 0 [] a) (∃e:G',Cells a b 0 e/\L e=c*3/\(0+c)*32<=M/\d (0+c) ([]++e) a)) ?_;dsimp only[L,M,ΦQ];refine⟨λ u=>?_,λ u=>?_⟩
 .have:c=0:=by
   rcases abl c with h | h
   .grind
   .obtain⟨g,o,i⟩:=j.cD h;grind
  subst this;rw[aal j.len];exact⟨rfl,rfl⟩
 .obtain⟨k,q,p⟩:=j.row;refine⟨k,q,by rw[p.length,j.len];rfl,by have:=j.bnd;rw[aaT];omega,by rw[j.len];simp,by grind⟩
def pc (a:List az)(f t id:Int):List aO:=if f<t then[⟨a,⟨f,t⟩,[id]⟩]else[]
def fK (p:bc)(a:Option (List az))(v:bR):List aO:=
 pc v.vals v.vd.lo (cv v.vd p).lo v.id++(match a with
  | some l=>pc l (cv v.vd p).lo (cv v.vd p).hi v.id
  | none=>[])++pc v.vals (cv v.vd p).hi v.vd.hi v.id
def fS (p:bc)(a:bR->Option (List az))(l:List bR):List aO:=l.flatMap λ v=>fK p (a v) v
def vh {vals:List az}{f t id:Int}:(pc vals f t id).length<=1:=by unfold pc;grind
def Jq {p:bc}{ch:Option (List az)}{v:bR}:(fK p ch v).length<=3:=by
 unfold fK;have a:=vh (vals:=v.vals) (f:=v.vd.lo) (t:=(cv v.vd p).lo) (id:=v.id);have b:=vh (vals:=v.vals) (f:=(cv v.vd p).hi) (t:=v.vd.hi) (id:=v.id);cases ch with
 | none=>grind
 | some l=>
  have c:=vh (vals:=l) (f:=(cv v.vd p).lo) (t:=(cv v.vd p).hi) (id:=v.id);grind
def vi {p:bc}{a:bR->Option (List az)}{l:List bR}{v:bR}:fS p a (l++[v])=fS p a l++fK p (a v) v:=by simp[fS]
def jB {p:bc}{ch:bR->Option (List az)}{l:List bR}:(fS p ch l).length<=3*l.length:=by
 induction l with
 | nil=>simp[fS]
 | cons v l a=>
  have:fS p ch (v::l)=fK p (ch v) v++fS p ch l:=by rfl
  have b:=Jq (p:=p) (ch:=ch v) (v:=v);grind
def vj {p q:bc}(a:ae .i64 p.lo)(b:ae .i64 p.hi)(d:ae .i64 q.lo)(c:ae .i64 q.hi):ae .i64 (cv p q).lo/\ae .i64 (cv p q).hi:=by
 unfold cv;grind
def nY {B:D'}{i:List az}{id:Int}(o:Sl a b c d i)(m:ae .i64 g)(l:ae .i64 h)(k:ae .i64 id)(p:Cells a B 0 [.int .i64 id])(j:1<=e):
  Rep.rel a [S b c d,Φi g,Φi h,S B 1 e] (⟨i,⟨g,h⟩,[id]⟩:aO):=
 ⟨b,c,d,B,1,e,rfl,o,m,l,(Row.one (show Rep.rel a [Value.int .i64 id] id from⟨rfl,k⟩)).sl (ah _) p rfl j (by decide) (by simp)⟩
abbrev vo (d:Nat)(b:G')(c:Nat)(a:G'):List BC:=[.row 3 d b,.row 107 c a]
def zr {O:aU}{q o s r:Nat}{m k:G'}{j:List az}{id:Int}{l:List aO}(E:Sl a b c d j)(z:ae .i64 g)(w:ae .i64 h)(G:ae .i64 id)
  (y:Cells a (some ⟨e,0,none⟩) (0+0) [.int .i64 id]) (D:Row a k l) (C:o=l.length) (x:(o+1)*64<=140737488355328):
  ZD 340 [.v (S b c d),.v (Φi g),.v (Φi h),.me,.v (.pointer (some ⟨e,0,none⟩))] 176 (vo q m o k) a O [.row s 3,.row r 107] ⟨true,[]⟩
   (λ B u L P N T=>B=q/\u=m/\L=(l++pc j g h id).length/\Row N P (l++pc j g h id)):=by
 refine uL 3 0 bE (λ f=>∀i:Nat,J (g<h) (ΦE ZE a (some ⟨e,0,none⟩) (0+0) (λ j=>U a [I j] 1 λ l n p=>(o+1)*64<=M/\i=i/\f q m (o+1) (k++[Value.slice b c d,I g,I h,S l 1 n]) p O)) (i=i/\f q m o k a O)) trivial ?_;dsimp only[eQ,ΦE,M,J];intro W;simp only[aad];refine⟨λ i=>⟨id,y,λ X V R p Q F=>⟨x,trivial,trivial,trivial,?_,?_⟩⟩,λ i=>⟨trivial,trivial,trivial,?_,?_⟩⟩
 .rw[pc,if_pos i,aae,C];rfl
 .rw[pc,if_pos i];exact(D.mono p).append (Row.one (nY (E.mono p) z w G Q F))
 .rw[pc];grind
 .rw[pc];grind
def Py {B:D'}{l:Nat}{Y:List bR}{Q:List Xp}{r:Int}(hs:Sl a b c d Y)(ha:nk Y)(he:Sl a B e l Q)(hw:AP Q)(r0:0<=r)(r1:r<Q.length)(hb:Q.length<=1000000)(hn:c<=100000000)(ra:ae .i64 g)(rb:ae .i64 h):
  ZB 262 [S b c d,.agg ⟨[Φi g,Φi h]⟩,S B e l,Φi r,.nilFunc] a Sg
   (λ A1 n1 c1 A2 n2 c2 H'=>Sl H' A1 n1 c1 ((cW Y ⟨g,h⟩ Q r).map bR.id)/\Sl H' A2 n2 c2 (fS ⟨g,h⟩ (λ _=>none) (cW Y ⟨g,h⟩ Q r))):=by
 refine ΦK 8 {aj [] aC [(3,[ag 23,.box 11 176 [.row 82 3,.row 83 107]])]with pa:=lI [] [(4,[13])],bxr:=λ | 8=>some (λ | 340=>some [.row 76 3,.row 77 107] | _=>none) | 10=>some (λ | 340=>some [.row 78 3,.row 79 107] | _=>none) | 11=>some (λ | 340=>some [.row 80 3,.row 81 107] | _=>none) | _=>none,bxt:=lI [] [(8,[11]),(10,[11]),(11,[11])]} (λ f=>C ZT 339 [S b c d,ΦG [I g,I h],S B e l,I r] a λ i j k m=>W ZL i (λ n=>n 0 0 [] 0 [] i) λ n o p q s t u v=>J (q<O k) (ΦX j q k (ΦE ZH p j (N q*6) (λ w x y z a0 a1 a2 a3=>∀(a4:Nat)(a5:Heap),Heap.le p a5->Cells a5 (some ⟨a4,0,none⟩) 0 [I w,S x y z,I a0,I a1,I a2,I a3]->ΦE ZE a5 (some ⟨a4,0,none⟩) (0+0) λ a6=>(s+1)*8<=M/\ΦE ZK a5 (some ⟨a4,0,none⟩) (0+2) λ a7 a8=>C ZW 250 [ΦG [I a7,I a8],ΦG [I g,I h]] a5 λ a9 b0 b1 b2=>ΦE ZM a9 (some ⟨a4,0,none⟩) (0+1) λ b3 b4 b5=>ΦE ZE a9 (some ⟨a4,0,none⟩) (0+2+0) λ b6=>C ZT 82 [S b3 b4 b5] a9 λ b7 b8 b9 c0=>let c1:=λ c1 (c2 c3:Nat)(c4 c5:Int)=>[BA.v (S c1 c2 c3),BA.v (I c4),BA.v (I c5),BA.me,BA.v (.pointer (some ⟨a4,0,none⟩))];tS Xl ZV 340 (c1 b8 b9 c0 b6 b0) 176 [BC.row 3 (s+1) (t++[Value.int .i64 a6]),BC.row 107 u v] b7 ux λ c2 c3 c4 c5 c6 c7=>ΦQ (!true) (ΦE ZM c2 (some ⟨a4,0,none⟩) (0+1) (λ c8 c9 d0=>False)) (ΦE ZM c2 (some ⟨a4,0,none⟩) (0+1) (λ c8 c9 d0=>ΦE ZE c2 (some ⟨a4,0,none⟩) (0+2+1) λ d1=>C ZT 82 [S c8 c9 d0] c2 λ d2 d3 d4 d5=>tS ZN ZV 340 (c1 d3 d4 d5 b1 d1) 176 [BC.row 3 c4 c5,BC.row 107 c6 c7] d2 c3 λ d6 d7 d8 d9 e0 e1=>ΦR (q+1)/\n (q+1) d8 d9 e0 e1 d6/\o (q+1) d8 d9 e0 e1<o q s t u v))))) (U p t s (λ w x y=>U y v u λ z a0 a1=>f w s x z u a0 a1))) ?_;dsimp only[PL,aQ,aR,aW,eQ,C,tS,ΦE,M,N,ΦQ,ΦR,W,ΦX,O,J];refine⟨_,wz hs ha he hw r0 r1 hb,?_⟩;rintro H1 c0 A3 n4 c5 hA;have hL:(cW Y ⟨g,h⟩ Q r).length<=c:=by rw[<-hs.len];exact jz
 generalize cW Y ⟨g,h⟩ Q r=L at*;have s2:=hA.len;refine⟨λ i q0 a9 q1 a6 H'=>0<=i/\i<=n4/\q0=i.toNat/\Row H' a9 ((L.take i.toNat).map bR.id)/\q1=(fS ⟨g,h⟩ (λ _=>none) (L.take i.toNat)).length/\Row H' a6 (fS ⟨g,h⟩ (λ _=>none) (L.take i.toNat)),λ i _ _ _ _=>n4-i.toNat,y' ⟨rfl,rfl,rfl,rfl⟩,?_⟩;rintro H9 a7 i q0 a9 q1 a6 ⟨h0,h1,d2,V,P,R⟩;have b6:q1<=3*i.toNat:=by rw[P];refine aax jB ?_;simp;omega
 simp only[aad,aaf];refine⟨λ a3=>?_,λ f0=>?_⟩
 .obtain⟨hi,b1,_,b0,A9,n9,c9,rfl,v1,v2,v3,v4,v5,v6⟩:=hA.at a7 h0 a3;refine⟨b1,h0,a3,_,_,_,_,_,_,_,_,b0,?_⟩;rintro f4 d9 z hg;refine⟨_,hg.cy (k:=0) rfl,by omega,_,_,hg.TH (k:=2) rfl rfl,_,iK,?_⟩;rintro e7 u x y e5 ⟨e1,-⟩;have hm:=vj (p:=⟨L[i.toNat].vd.lo,L[i.toNat].vd.hi⟩) (q:=⟨g,h⟩) v3 v4 ra rb;rw[<-e1]at hm;have G:=hg.mono u;refine⟨_,_,_,G.cy (k:=1) rfl,_,G.cy (k:=2) rfl,_,fx (v2.mono (aa z u)),?_⟩;rintro e2 w d4 e9 d6 b2;have F:=aa z (aa u w);refine⟨_,zr b2 v3 hm.1 v1 ((G.mono w).cy (k:=0) rfl) (R.mono F) P (by omega),?_⟩;rintro e6 s e8 d1 b3 f1 b5 ⟨rfl,rfl,a5,a1⟩;have X:=(G.mono w).mono s;refine⟨λ o=>(by grind),λ _=>⟨_,_,_,X.cy (k:=1) rfl,_,X.cy (k:=3) rfl,_,fx (v2.mono (aa F s)),?_⟩⟩;rintro c4 v d3 e0 d7 a0;have f2:=vh (vals:=L[i.toNat].vals) (f:=L[i.toNat].vd.lo) (t:=x) (id:=L[i.toNat].id);refine⟨_,zr a0 hm.2 v4 v1 ((X.mono v).cy (k:=0) rfl) (a1.mono v) a5 (by grind),?_⟩;rintro d5 T e3 d0 b8 f3 b7 ⟨rfl,rfl,b9,b4⟩;have ep:fS ⟨g,h⟩ (λ _=>none) (L.take (i+1).toNat)=fS ⟨g,h⟩ (λ _=>none) (L.take i.toNat)++pc L[i.toNat].vals L[i.toNat].vd.lo x L[i.toNat].id++pc L[i.toNat].vals y L[i.toNat].vd.hi L[i.toNat].id:=by
   rw[bu h0 hi,vi,fK];have e1:cv L[i.toNat].vd _=⟨x,y⟩:=e1.symm;grind
  refine u' ⟨J' ⟨?_,?_,?_⟩,by omega⟩
  .rw[bu h0 hi,aaR];exact(V.mono (aa F (aa s (aa v T)))).append (Row.one (⟨rfl,v1⟩))
  .grind
  grind
 .have j:L.take i.toNat=L:=aag (by omega);rw[j]at V P R;intro e4 c3 c6 E a8 Z d8 c8 c7 D a2 a4;exact⟨(V.sl E a8 (by grind) Z (by show q0*8<=_;omega) (by omega)).mono D,R.sl (aa E D) a2 P.symm a4 (by show q1*64<=_;omega) (by omega)⟩
end
section
variable {a:Heap}{b c i:D'}{d e f g j k:Nat}{h:List Xp}{l:List xP}{m:List bR}{n o p:Int}
def Sk {Y Z:Nat}{p:List az}(v:Sl a b d e p)(h0:Cells a (some ⟨Y,0,none⟩) 0 [S i j k])(h1:Cells a (some ⟨Z,0,none⟩) 0 [S c f g])
  (he:Sl a c f g h) (Q:Sl a i j k l) (hw:AP h) (hb:h.length<=1000000) (ho:Rx h l):
  ZB 263 [S b d e,.pointer (some ⟨Y,0,none⟩),.pointer (some ⟨Z,0,none⟩)] a fi (λ A' n' c' X=>Sl X A' n' c' (iw h p l)):=by
 refine ΦK 2 {aj [] [(6,ab 2 7 [17,19,21,0])] [(3,[.slot 5 false [.row 38 133],ag 12])]with res:=wj [(9,⟨false,[(false,[.row 37 133])]⟩)]} (λ c=>C ZX 82 [S b d e] a λ f g h=>ΦE ZM f (some ⟨Y,0,none⟩) 0 λ i j k=>W ZG f (λ l=>l g h 0 f) λ l m n o p q=>J (q<O j) (ΦX i q j (ΦE ZK n i (N q*2) (λ r s=>let t:=ΦR (q+1)/\l o p (q+1) n/\m o p (q+1)<m o p q;J (0<=r) (J (r<O o) (ΦE ZM n (some ⟨Z,0,none⟩) 0 (λ u v w=>C ZU 264 [S u v w,I s,S b d e] n λ x y z a0=>ΦY r o (N r*3+3<=L p/\ΦR (q+1)/\(let a1:=av p (N r*3) [I y,I z,ΦT a0];l o a1 (q+1) x/\m o a1 (q+1)<m o p q)))) t) t))) (U n p o (λ r s t=>c r o s t))) ?_;dsimp only[PL,aQ,aR,aW,eQ,C,ΦE,L,N,ΦR,W,ΦX,ΦY,O,J];have s1:=v.len;have t1:=Q.len;have t2:=Q.bn;refine⟨_,Jp v,?_⟩;rintro H1 s n3 a6 ⟨z,D⟩;have z:d=n3:=by omega
 subst z;refine⟨_,_,_,h0.mono s,λ q M o X=>0<=o/\o<=j/\q=d/\Row X M (iw h p (l.take o.toNat)),λ _ _ o=>j-o.toNat,y' ⟨rfl,D⟩,?_⟩;rintro H3 V q M o ⟨F,i1,rfl,P⟩;have G:=aa s V;simp only[aad,aaf];refine⟨λ x=>?_,λ a2=>?_⟩
 .obtain⟨hi,hA,_,R,rfl,r1,r2⟩:=Q.at G F x;have a8:(iw h p (l.take o.toNat)).length=q:=by rw[tV,s1]
  have r:=ho _ (aan hi);have w:¬(0<=l[o.toNat].col/\l[o.toNat].col<q)->ae .i64 (o+1)/\(0<=o+1/\o+1<=j/\True/\Row H3 M (iw h p (l.take (o+1).toNat)))/\j-(o+1).toNat<j-o.toNat:=by
   rw[bu F hi,qU,zq];grind
  refine⟨hA,F,x,_,_,R,λ T=>⟨λ a1=>?_,λ a1=>w (by omega)⟩,λ T=>w (by omega)⟩;refine⟨_,_,_,h1.mono G,_,Cj (he.mono G) (v.mono G) hw r.1 r.2 hb,?_⟩;rintro a7 u k1 k2 k3 hv;have a3:M.length=(iw _ _ _).length*3:=P.length;refine⟨T,a1,y' ⟨y' ⟨trivial,?_⟩,by omega⟩⟩;rw[bu F _,qU];exact P.Zm u he.Vz v.Wr T (by omega) hv
 .have k:l.take o.toNat=l:=aag (by omega);rw[k]at P;intro a9 a4 a5 t y hn;exact P.sl t y (by rw[tV,s1]) hn v.bnd v.bn
def Pz {w k g0 g1:Nat}{r:Int}(hs:Sl a b d e m)(ha:nk m)(he:Sl a c w g h)(hw:AP h)(r0:0<=r)(r1:r<h.length)(hb:h.length<=1000000)(hn:d<=100000000)(ra:ae .i64 n)(rb:ae .i64 o)
  (c0:Cells a (some ⟨g0,0,none⟩) 0 [S i k j]) (c1:Cells a (some ⟨g1,0,none⟩) 0 [S c w g]) (ht:Sl a i k j l) (ho:Rx h l):
  ZB 262 [S b d e,.agg ⟨[Φi n,Φi o]⟩,S c w g,Φi r,.func (.func 263) #[] #[.pointer (some ⟨g0,0,none⟩),.pointer (some ⟨g1,0,none⟩)]] a Sg
   (λ A1 n1 c1 A2 n2 c2 H'=>Sl H' A1 n1 c1 ((cW m ⟨n,o⟩ h r).map bR.id)/\Sl H' A2 n2 c2 (fS ⟨n,o⟩ (λ v=>some (iw h v.vals l)) (cW m ⟨n,o⟩ h r))):=by
 refine ΦK 8 {aj [] aC [(3,[ag 23,.box 11 176 [.row 82 3,.row 83 107]])]with pa:=lI [] [(4,[13])],bxr:=λ | 8=>some (λ | 340=>some [.row 76 3,.row 77 107] | _=>none) | 10=>some (λ | 340=>some [.row 78 3,.row 79 107] | _=>none) | 11=>some (λ | 340=>some [.row 80 3,.row 81 107] | _=>none) | _=>none,bxt:=lI [] [(8,[11]),(10,[11]),(11,[11])]} (λ f=>C ZT 339 [S b d e,ΦG [I n,I o],S c w g,I r] a λ h i j k=>W ZL h (λ l=>l 0 0 [] 0 [] h) λ l m p q s t u v=>J (q<O j) (ΦX i q j (ΦE ZH p i (N q*6) (λ x y z a0 a1 a2 a3 a4=>∀(a5:Nat)(a6:Heap),Heap.le p a6->Cells a6 (some ⟨a5,0,none⟩) 0 [I x,S y z a0,I a1,I a2,I a3,I a4]->ΦE ZE a6 (some ⟨a5,0,none⟩) (0+0) λ a7=>(s+1)*8<=M/\ΦE ZK a6 (some ⟨a5,0,none⟩) (0+2) λ a8 a9=>C ZW 250 [ΦG [I a8,I a9],ΦG [I n,I o]] a6 λ b0 b1 b2 b3=>ΦE ZM b0 (some ⟨a5,0,none⟩) (0+1) λ b4 b5 b6=>ΦE ZE b0 (some ⟨a5,0,none⟩) (0+2+0) λ b7=>C ZT 82 [S b4 b5 b6] b0 λ b8 b9 c0 c1=>let c2:=λ c2 (c3 c4:Nat)(c5 c6:Int)=>[BA.v (S c2 c3 c4),BA.v (I c5),BA.v (I c6),BA.me,BA.v (.pointer (some ⟨a5,0,none⟩))];tS Xl ZV 340 (c2 b9 c0 c1 b7 b1) 176 [BC.row 3 (s+1) (t++[Value.int .i64 a7]),BC.row 107 u v] b8 ux λ c3 c4 c5 c6 c7 c8=>let c9:=λ c9 (d0:Nat) d1 (d2:Nat) d3 d4=>ΦE ZM c9 (some ⟨a5,0,none⟩) (0+1) λ d5 d6 d7=>ΦE ZE c9 (some ⟨a5,0,none⟩) (0+2+1) λ d8=>C ZT 82 [S d5 d6 d7] c9 λ d9 e0 e1 e2=>tS ZN ZV 340 (c2 e0 e1 e2 b2 d8) 176 [BC.row 3 d0 d1,BC.row 107 d2 d3] d9 d4 λ e3 e4 e5 e6 e7 e8=>ΦR (q+1)/\l (q+1) e5 e6 e7 e8 e3/\m (q+1) e5 e6 e7 e8<m q s t u v;ΦQ (!false) (ΦE ZM c3 (some ⟨a5,0,none⟩) (0+1) (λ d0 d1 d2=>C ZT 263 [S d0 d1 d2,.pointer (some ⟨g0,0,none⟩),.pointer (some ⟨g1,0,none⟩)] c3 λ d3 d4 d5 d6=>tS Xm ZV 340 (c2 d4 d5 d6 b1 b2) 176 [BC.row 3 c5 c6,BC.row 107 c7 c8] d3 c4 λ d7 d8 d9 e0 e1 e2=>c9 d7 d9 e0 e1 e2 d8)) (c9 c3 c5 c6 c7 c8 c4)))) (U p t s (λ x y z=>U z v u λ a0 a1 a2=>f x s y a0 u a1 a2))) ?_;dsimp only[PL,aQ,aR,aW,eQ,C,tS,ΦE,M,N,ΦQ,ΦR,W,ΦX,O,J];refine⟨_,wz hs ha he hw r0 r1 hb,?_⟩;rintro H1 b8 A3 n4 c5 hA;have hL:(cW m ⟨n,o⟩ h r).length<=d:=by rw[<-hs.len];exact jz
 generalize cW m ⟨n,o⟩ h r=L at*;have s2:=hA.len;refine⟨λ u q0 c4 q1 b9 H'=>0<=u/\u<=n4/\q0=u.toNat/\Row H' c4 ((L.take u.toNat).map bR.id)/\q1=(fS ⟨n,o⟩ (λ v=>some (iw h v.vals l)) (L.take u.toNat)).length/\Row H' b9 (fS ⟨n,o⟩ (λ v=>some (iw h v.vals l)) (L.take u.toNat)),λ u _ _ _ _=>n4-u.toNat,y' ⟨rfl,rfl,rfl,rfl⟩,?_⟩;rintro H9 a4 u q0 c4 q1 b9 ⟨h0,h1,f4,a8,Y,a5⟩;have d5:q1<=3*u.toNat:=by rw[Y];refine aax jB ?_;simp;omega
 simp only[aad,aaf];refine⟨λ b4=>?_,λ h6=>?_⟩
 .obtain⟨hi,c8,_,c6,A9,n9,c9,rfl,v1,v2,v3,v4,v5,v6⟩:=hA.at a4 h0 b4;have a0:=aa b8 a4;refine⟨c8,h0,b4,_,_,_,_,_,_,_,_,c6,?_⟩;rintro i1 f9 Q hg;refine⟨_,hg.cy (k:=0) rfl,by omega,_,_,hg.TH (k:=2) rfl rfl,_,iK,?_⟩;rintro h2 F x y g8 ⟨e1,-⟩;have hm:=vj (p:=⟨L[u.toNat].vd.lo,L[u.toNat].vd.hi⟩) (q:=⟨n,o⟩) v3 v4 ra rb;rw[<-e1]at hm;have Z:=hg.mono F;refine⟨_,_,_,Z.cy (k:=1) rfl,_,Z.cy (k:=2) rfl,_,fx (v2.mono (aa Q F)),?_⟩;rintro g4 G f5 h5 f7 d0;have a3:=aa Q (aa F G);refine⟨_,zr d0 v3 hm.1 v1 ((Z.mono G).cy (k:=0) rfl) (a5.mono a3) Y (by omega),?_⟩;rintro g9 R h3 f2 d1 h7 d2 ⟨rfl,rfl,a2,b2⟩;have a9:=(Z.mono G).mono R;have z:=aa a3 R;have h8:=vh (vals:=L[u.toNat].vals) (f:=L[u.toNat].vd.lo) (t:=x) (id:=L[u.toNat].id);refine⟨λ _=>⟨_,_,_,a9.cy (k:=1) rfl,_,Sk (v2.mono z) (c0.mono (aa a0 z)) (c1.mono (aa a0 z)) (he.mono (aa a0 z)) (ht.mono (aa a0 z)) hw hb ho,?_⟩,λ s=>(by cases s)⟩;rintro i2 D f3 h4 e8 c7;refine⟨_,zr c7 hm.1 hm.2 v1 ((a9.mono D).cy (k:=0) rfl) (b2.mono D) a2 (by rw[a2,aae,<-Y];omega),?_⟩;rintro h9 X e2 e0 d3 g2 d8 ⟨rfl,rfl,b7,b6⟩;have a6:=(a9.mono D).mono X;have a1:=aa z (aa D X);have g6:=vh (vals:=iw h L[u.toNat].vals l) (f:=x) (t:=y) (id:=L[u.toNat].id);refine⟨_,_,_,a6.cy (k:=1) rfl,_,a6.cy (k:=3) rfl,_,fx (v2.mono a1),?_⟩;rintro i0 P e6 e4 e3 b1;refine⟨_,zr b1 hm.2 v4 v1 ((a6.mono P).cy (k:=0) rfl) (b6.mono P) b7 (by grind),?_⟩;rintro f6 a7 g3 g5 d4 e7 d6 ⟨rfl,rfl,d7,d9⟩;have ep:fS ⟨n,o⟩ (λ v=>some (iw h v.vals l)) (L.take (u+1).toNat)=fS ⟨n,o⟩ (λ v=>some (iw h v.vals l)) (L.take u.toNat)++pc L[u.toNat].vals L[u.toNat].vd.lo x L[u.toNat].id++pc (iw h L[u.toNat].vals l) x y L[u.toNat].id++pc L[u.toNat].vals y L[u.toNat].vd.hi L[u.toNat].id:=by
   rw[bu h0 hi,vi,fK];have e1:cv L[u.toNat].vd _=⟨x,y⟩:=e1.symm;grind
  refine u' ⟨J' ⟨?_,?_,?_⟩,by omega⟩
  .rw[bu h0 hi,aaR];exact(a8.mono (aa a1 (aa P a7))).append (Row.one (⟨rfl,v1⟩))
  .grind
  grind
 .have j:L.take u.toNat=L:=aag (by omega);rw[j]at a8 Y a5;intro g7 e5 e9 V c3 b0 f8 f1 f0 T b3 b5;exact⟨(a8.sl V c3 (by grind) b0 (by show q0*8<=_;omega) (by omega)).mono T,a5.sl (aa V T) b3 Y.symm b5 (by show q1*64<=_;omega) (by omega)⟩
def oV (b:List bR)(p:bc)(a:List Xp)(r:Int):I':=(cW b p a r).map bR.id
def PA (a:List bR)(p:bc)(b:List Xp)(r:Int):List aO:=fS p (λ _=>none) (cW a p b r)
def PB (c:List bR)(p:bc)(b:List Xp)(r:Int)(a:List xP):List aO:=fS p (λ v=>some (iw b v.vals a)) (cW c p b r)
def MJ (y:Sl a b d e m)(E:nk m)(D:Sl a c f g h)(w:AP h)(t:0<=p)(l:p<h.length)(q:h.length<=1000000)(z:d<=100000000)(k:ae .i64 n)(x:ae .i64 o):
  ZB 203 [S b d e,.agg ⟨[Φi n,Φi o]⟩,S c f g,Φi p] a Sg (λ s G u F J v j=>Sl j s G u (oV m ⟨n,o⟩ h p)/\Sl j F J v (PA m ⟨n,o⟩ h p)):=by
 refine ΦK 0 bE (λ h=>C ZY 262 [S b d e,ΦG [I n,I o],S c f g,I p,Value.nilFunc] a λ i j k l m q r=>h j k l m q r i) ?_;dsimp only[aQ,aR,C];exact⟨_,Py y E D w t l q z k x,λ _ _ _ _ _ _ _ _ i=>i⟩
def MK (Q:Sl a b d e m)(U:nk m)(T:Sl a c f g h)(N:AP h)(L:0<=p)(z:p<h.length)(G:h.length<=1000000)(R:d<=100000000)(D:ae .i64 n)(P:ae .i64 o)
  (F:Sl a i j k l) (O:Rx h l):
  ZB 206 [S b d e,.agg ⟨[Φi n,Φi o]⟩,S c f g,Φi p,S i j k] a Sg (λ J W x V X M y=>Sl y J W x (oV m ⟨n,o⟩ h p)/\Sl y V X M (PB m ⟨n,o⟩ h p l)):=by
 refine ΦK 0 {bE with pbx:=mem [7,9]} (λ h=>∀(l m:Nat)(q:Heap),Heap.le a q->Cells q (some ⟨l,0,none⟩) 0 [S c f g]->1<=m->∀(r s:Nat)(t:Heap),Heap.le q t->Cells t (some ⟨r,0,none⟩) 0 [S i j k]->1<=s->ΦE ZM t (some ⟨l,0,none⟩) 0 λ u v w=>C ZY 262 [S b d e,ΦG [I n,I o],S u v w,I p,.func (.func 263) ⟨[]⟩ ⟨[.pointer (some ⟨r,0,none⟩),.pointer (some ⟨l,0,none⟩)]⟩] t λ x y z a0 a1 a2 a3=>h y z a0 a1 a2 a3 x) ?_;dsimp only[aQ,aR,eQ,C,ΦE];intro Z x H2 u t _ Y c7 H8 s w _;have v:=aa u s;exact⟨_,_,_,t.mono s,_,Pz (Q.mono v) U (T.mono v) N L z G R D P w (t.mono s) (F.mono v) O,λ _ _ _ _ _ _ _ _ q=>q⟩
end
section
variable {a b:Int}{c:List az}{d:Heap}{e f:D'}{g h i j:Nat}
def jO {id:Int}(h:a<b):pc c a b id=[⟨c,⟨a,b⟩,[id]⟩]:=if_pos h
def rR {id:Int}(h:¬a<b):pc c a b id=[]:=if_neg h
def pW {p:bc}{v:bR}:fK p (some c) v=pc v.vals v.vd.lo (cv v.vd p).lo v.id++pc c (cv v.vd p).lo (cv v.vd p).hi v.id++pc v.vals (cv v.vd p).hi v.vd.hi v.id:=rfl
def pX {p:bc}{v:bR}:fK p none v=pc v.vals v.vd.lo (cv v.vd p).lo v.id++[]++pc v.vals (cv v.vd p).hi v.vd.hi v.id:=rfl
def Sm {vs:List bR}{p:bc}{es:List Xp}{r:Int}{v:bR}(h:v∈cW vs p es r):(cv v.vd p).lo<(cv v.vd p).hi:=by
 have h:=(abc.1 h).2;unfold nX at h;simp at h;have a:=h.1.2;rw[cv];unfold gi at a;grind
def zt {E:D'}{k l:Nat}{vs:List bR}{es:List Xp}{set:List xP}{r:Int}{a0:Bool}(hs:Sl d e g h vs)(ha:nk vs)(he:Sl d f i j es)(hw:AP es)(r0:0<=r)(r1:r<es.length)(hb:es.length<=1000000)(hn:g<=100000000)(ra:ae .i64 a)(rb:ae .i64 b)
  (ht:Sl d E k l set) (ho:Rx es set):
  ZB 154 [S e g h,.agg ⟨[Φi a,Φi b]⟩,S f i j,Φi r,.bool a0,S E k l] d Sg
   (λ A1 n1 c1 A2 n2 c2 H'=>Sl H' A1 n1 c1 (oV vs ⟨a,b⟩ es r)/\Sl H' A2 n2 c2 (fS ⟨a,b⟩ (λ v=>if a0 then some (iw es v.vals set)else none) (cW vs ⟨a,b⟩ es r))):=by
 refine ΦK 2 (aj [] [(11,ab 2 6 [16,18,15,20,23,25,26,29,0])] [(3,[ag 25,.box 13 176 [.row 104 3,.row 105 107]])]) (λ c=>C ZT 225 [S e g h,ΦG [I a,I b],S f i j,I r] d λ m n o p=>W ZL m (λ q=>q 0 0 [] 0 [] m) λ q s t u v w x y=>J (u<O o) (ΦX n u o (ΦE ZH t n (N u*6) (λ z a1 a2 a3 a4 a5 a6 a7=>(v+1)*8<=M/\C ZW 226 [ΦG [I a4,I a5],ΦG [I a,I b]] t λ a8 a9 b0 b1=>let b2:=λ b2 (b3 b4:Nat)(b5 b6:Int) b7 (b8:Nat)=>[Value.slice b2 b3 b4,I b5,I b6,S b7 1 b8];let b3:=λ b3 (b4 b5:Nat)(b6 b7:Int) b8 (b9:Nat) c0=>ΦR (u+1)/\q (u+1) (v+1) (w++[Value.int .i64 z]) (x+1) (y++b2 b3 b4 b5 b6 b7 b8 b9) c0/\s (u+1) (v+1) (w++[Value.int .i64 z]) (x+1) (y++b2 b3 b4 b5 b6 b7 b8 b9)<s u v w x y;let b4:=λ b4 (b5 b6:Nat)(b7 b8:Int) b9 (c0:Nat) c1 (c2 c3:Nat)(c4:Int) c5=>ΦR (u+1)/\q (u+1) (v+1) (w++[Value.int .i64 z]) (x+1+1) (y++b2 b4 b5 b6 b7 b8 b9 c0++b2 c1 c2 c3 b8 c4 b9 c0) c5/\s (u+1) (v+1) (w++[Value.int .i64 z]) (x+1+1) (y++b2 b4 b5 b6 b7 b8 b9 c0++b2 c1 c2 c3 b8 c4 b9 c0)<s u v w x y;let b5:=[S a1 a2 a3,S f i j,S E k l];J (a4<a9) (U a8 [I z] 1 (λ b6 b7 b8=>(x+1)*64<=M/\ΦQ a0 (C ZT 227 b5 b8 (λ b9 c0 c1 c2=>(x+1+1)*64<=M/\J (b0<a5) ((x+1+1+1)*64<=M/\ΦR (u+1)/\(let c3:=y++b2 a1 a2 a3 a4 a9 b6 b7++b2 c0 c1 c2 a9 b0 b6 b7++b2 a1 a2 a3 b0 a5 b6 b7;q (u+1) (v+1) (w++[Value.int .i64 z]) (x+1+1+1) c3 b9/\s (u+1) (v+1) (w++[Value.int .i64 z]) (x+1+1+1) c3<s u v w x y)) (b4 a1 a2 a3 a4 a9 b6 b7 c0 c1 c2 b0 b9))) (J (b0<a5) ((x+1+1)*64<=M/\ΦR (u+1)/\(let b9:=y++b2 a1 a2 a3 a4 a9 b6 b7++b2 a1 a2 a3 b0 a5 b6 b7;q (u+1) (v+1) (w++[Value.int .i64 z]) (x+1+1) b9 b8/\s (u+1) (v+1) (w++[Value.int .i64 z]) (x+1+1) b9<s u v w x y)) (b3 a1 a2 a3 a4 a9 b6 b7 b8)))) (ΦQ a0 (C ZT 227 b5 a8 (λ b6 b7 b8 b9=>U b6 [I z] 1 λ c0 c1 c2=>(x+1)*64<=M/\J (b0<a5) ((x+1+1)*64<=M/\b4 b7 b8 b9 a9 b0 c0 c1 a1 a2 a3 a5 c2) (b3 b7 b8 b9 a9 b0 c0 c1 c2))) (J (b0<a5) (U a8 [I z] 1 (λ b6 b7 b8=>(x+1)*64<=M/\b3 a1 a2 a3 b0 a5 b6 b7 b8)) (ΦR (u+1)/\q (u+1) (v+1) (w++[Value.int .i64 z]) x y a8/\s (u+1) (v+1) (w++[Value.int .i64 z]) x y<s u v w x y)))))) (U t w v (λ z a1 a2=>U a2 y x λ a3 a4 a5=>c z v a1 a3 x a4 a5))) ?_;dsimp only[PL,aQ,aR,aW,eQ,C,ΦE,M,N,ΦQ,ΦR,W,ΦX,O,J];refine⟨_,zp hs ha he hw r0 r1 hb,?_⟩;rintro H1 c7 A3 n4 c5 hA;have hL:(cW vs ⟨a,b⟩ es r).length<=g:=by rw[<-hs.len];exact jz
 have d2:=λ v o=>Sm (vs:=vs) (p:=⟨a,b⟩) (es:=es) (r:=r) (v:=v) o;unfold oV;generalize cW vs ⟨a,b⟩ es r=L at*;have s2:=hA.len;obtain⟨Y,b3⟩:∃Y:bR->Option (List az),Y=λ v=>if a0 then some (iw es v.vals set)else none:=⟨_,rfl⟩;rw[<-b3];refine⟨λ s q0 b5 q1 d0 H'=>0<=s/\s<=n4/\q0=s.toNat/\Row H' b5 ((L.take s.toNat).map bR.id)/\q1=(fS ⟨a,b⟩ Y (L.take s.toNat)).length/\Row H' d0 (fS ⟨a,b⟩ Y (L.take s.toNat)),λ s _ _ _ _=>n4-s.toNat,y' ⟨rfl,rfl,rfl,rfl⟩,?_⟩;rintro H9 a9 s q0 b5 q1 d0 ⟨h0,h1,e8,b2,D,T⟩;have d5:q1<=3*s.toNat:=by rw[D];refine aax jB ?_;simp;omega
 simp only[aad,aaf];refine⟨λ c0=>?_,λ g4=>?_⟩
 .obtain⟨hi,d4,_,d3,A9,n9,c9,rfl,v1,v2,v3,v4,v5,v6⟩:=hA.at a9 h0 c0;have a7:=aa c7 a9;have a8:=d2 _ (aan hi);refine⟨d4,h0,c0,_,_,_,_,_,_,_,_,d3,by omega,_,pV,?_⟩;rintro f6 t x y e6 ⟨e1,-⟩;have hm:=vj (p:=⟨L[s.toNat].vd.lo,L[s.toNat].vd.hi⟩) (q:=⟨a,b⟩) v3 v4 ra rb;rw[<-e1]at hm;have e1:cv L[s.toNat].vd ⟨a,b⟩=⟨x,y⟩:=e1.symm;rw[e1]at a8;have c4:x<y:=a8;have w:fS ⟨a,b⟩ Y (L.take (s+1).toNat)=fS ⟨a,b⟩ Y (L.take s.toNat)++fK ⟨a,b⟩ (Y L[s.toNat]) L[s.toNat]:=by rw[bu h0 hi,vi]
  have R:∀H',Heap.le H9 H'->Row H' (b5++[Φi L[s.toNat].id]) ((L.take (s+1).toNat).map bR.id):=by
   intro H' b8;rw[bu h0 hi,aaR];exact(b2.mono b8).append (Row.one (show Rep.rel H' [Φi L[s.toNat].id] L[s.toNat].id from⟨rfl,v1⟩))
  have hg:ae .i64 (s+1):=by omega
  have G:n4-(s+1).toNat<n4-s.toNat:=by omega
  have i0:0<=s+1:=by omega
  have i1:s+1<=n4:=by omega
  have iq:q0+1=(s+1).toNat:=by omega
  refine⟨λ f1 e3 g5 d6 Z a1 P=>u' ⟨λ f2=>?_,λ f2=>?_⟩,λ f1=>⟨λ f2=>?_,λ f2=>?_⟩⟩
  .have u:=aa t Z;refine⟨_,tW (v2.mono u) (he.mono (aa a7 u)) (ht.mono (aa a7 u)) hw hb ho,?_⟩;rintro g6 a5 f4 g2 e0 b6;have a6:=a1.mono a5;have Q:=aa u a5;have z:Y L[s.toNat]=some (iw es L[s.toNat].vals set):=by rw[b3,f2];rfl
   rw[z,pW,e1]at w;dsimp only at w;rw[jO f1,jO c4]at w;have R2:=((T.mono Q).append (Row.one (nY (v2.mono Q) v3 hm.1 v1 a6 P))).append (Row.one (nY b6 hm.1 hm.2 v1 a6 P));refine u' ⟨λ F=>u' ⟨hg,⟨i0,i1,iq,R _ Q,?_,?_⟩,G⟩,λ F=>⟨hg,⟨i0,i1,iq,R _ Q,?_,?_⟩,G⟩⟩
   .rw[w,jO F,aae,<-D];rfl
   .rw[w,jO F];simpa only[aat]using R2.append (Row.one (nY (v2.mono Q) hm.2 v4 v1 a6 P))
   .rw[w,rR F,aae,<-D];rfl
   .rw[w,rR F];simpa only[aat,aar]using R2
  .have u:=aa t Z;have z:Y L[s.toNat]=none:=by rw[b3,f2];rfl
   rw[z,pX,e1]at w;dsimp only at w;rw[jO f1]at w;have R2:=(T.mono u).append (Row.one (nY (v2.mono u) v3 hm.1 v1 a1 P));refine⟨λ F=>u' ⟨hg,⟨i0,i1,iq,R _ u,?_,?_⟩,G⟩,λ F=>⟨hg,⟨i0,i1,iq,R _ u,?_,?_⟩,G⟩⟩
   .rw[w,jO F,aae,<-D];rfl
   .rw[w,jO F];simpa only[aat,aar]using R2.append (Row.one (nY (v2.mono u) hm.2 v4 v1 a1 P))
   .rw[w,rR F,aae,<-D];rfl
   .rw[w,rR F];grind
  .refine⟨_,tW (v2.mono t) (he.mono (aa a7 t)) (ht.mono (aa a7 t)) hw hb ho,?_⟩;rintro d9 b4 f8 f7 d8 b6 g0 f0 e4 a2 b1 b0;have X:=aa t (aa b4 a2);have z:Y L[s.toNat]=some (iw es L[s.toNat].vals set):=by grind
   rw[z,pW,e1]at w;rw[rR f1,jO c4]at w;have R2:=(T.mono X).append (Row.one (nY (b6.mono a2) hm.1 hm.2 v1 b1 b0));refine u' ⟨λ F=>u' ⟨hg,⟨i0,i1,iq,R _ X,?_,?_⟩,G⟩,λ F=>⟨hg,⟨i0,i1,iq,R _ X,?_,?_⟩,G⟩⟩
   .rw[w,jO F,aae,<-D];rfl
   .rw[w,jO F];simpa only[aat,abO]using R2.append (Row.one (nY (v2.mono X) hm.2 v4 v1 b1 b0))
   .rw[w,rR F,aae,<-D];rfl
   .rw[w,rR F];grind
  .have z:Y L[s.toNat]=none:=by grind
   rw[z,pX,e1]at w;rw[rR f1]at w;refine⟨λ F e9 g3 f9 V c6 c8=>u' ⟨hg,⟨i0,i1,iq,R _ (aa t V),?_,?_⟩,G⟩,λ F=>⟨hg,⟨i0,i1,iq,R _ t,?_,?_⟩,G⟩⟩
   .rw[w,jO F,aae,<-D];rfl
   .rw[w,jO F];exact(T.mono (aa t V)).append (Row.one (nY (v2.mono (aa t V)) hm.2 v4 v1 c6 c8))
   .rw[w,rR F,aae,<-D];rfl
   .rw[w,rR F];simpa only[aar]using T.mono t
 .have l:L.take s.toNat=L:=aag (by omega);rw[l]at b2 D T;intro g1 d7 e2 a4 d1 b7 f5 e7 e5 a3 b9 c3;exact⟨(b2.sl a4 d1 (by grind) b7 (by show q0*8<=_;omega) (by omega)).mono a3,T.sl (aa a4 a3) b9 D.symm c3 (by show q1*64<=_;omega) (by omega)⟩
def tX {o:List bR}{l:List Xp}{r:Int}(D:Sl d e g h o)(G:nk o)(F:Sl d f i j l)(y:AP l)(v:0<=r)(q:r<l.length)(t:l.length<=1000000)(E:g<=100000000)(s:ae .i64 a)(z:ae .i64 b):
  ZB 102 [S e g h,.agg ⟨[Φi a,Φi b]⟩,S f i j,Φi r] d Sg (λ u L w J M x p=>Sl p u L w (oV o ⟨a,b⟩ l r)/\Sl p J M x (PA o ⟨a,b⟩ l r)):=by
 refine ΦK 0 bE (λ c=>C ZY 154 [S e g h,ΦG [I a,I b],S f i j,I r,ΦB false,S none 0 0] d λ k l m n o p q=>c l m n o p q k) ?_;dsimp only[aQ,aR,C];exact⟨_,zt (set:=[]) D G F y v q t E s z Sl.nil (λ _ k=>by grind),λ _ _ _ _ _ _ _ _ k=>k⟩
def tY {E:D'}{k o:Nat}{s:List bR}{q:List Xp}{p:List xP}{r:Int}(M:Sl d e g h s)(P:nk s)(O:Sl d f i j q)(G:AP q)(z:0<=r)(u:r<q.length)(x:q.length<=1000000)(N:g<=100000000)(v:ae .i64 a)(L:ae .i64 b)
  (w:Sl d E k o p) (J:Rx q p):
  ZB 103 [S e g h,.agg ⟨[Φi a,Φi b]⟩,S f i j,Φi r,S E k o] d Sg (λ y R D Q T F t=>Sl t y R D (oV s ⟨a,b⟩ q r)/\Sl t Q T F (PB s ⟨a,b⟩ q r p)):=by
 refine ΦK 0 bE (λ c=>C ZY 154 [S e g h,ΦG [I a,I b],S f i j,I r,ΦB true,S E k o] d λ l m n p q s t=>c m n p q s t l) ?_;dsimp only[aQ,aR,C];exact⟨_,zt M P O G z u x N v L w J,λ _ _ _ _ _ _ _ _ l=>l⟩
end
section
variable {a c e:Nat}{b:D'}{d:List Kd}{f:Heap}
def bZ (l:List aO)(a:I'):List Kd:=(l.filter λ t=>dm t.p).map λ t=>⟨aJ t.vals a,t⟩
def jC {l:List aO}{cols:I'}(b:a<l.length):bZ (l.take (a+1)) cols=bZ (l.take a) cols++(if dm l[a].p then[⟨aJ l[a].vals cols,l[a]⟩]else[]):=by
 rw[aaj b];simp only[bZ];grind
def kU (l:List aO)(a:I'):(bZ l a).length<=l.length:=by
 simp[bZ];grind
def Jt {H:Heap}{B:D'}{d:Nat}{l:List aO}{cols:I'}(T:Sl H b a c l)(ht:Sl H B e d cols)(hb:e*32<=140737488355328)(hn:a<=5000):
  ZB 115 [S b a c,S B e d] H fi (λ A' Y c' y=>∃g:List Kd,Sl y A' Y c' g/\g.Perm (bZ l cols)/\g.Pairwise (λ f h=>¬qa h f<0)):=by
 refine ΦK 1 {aj [16] [(6,[2,4,6,8,12,11,14,17,19,20,0])] [(3,[.slot 5 false [.row 30 198],ag 10])]with mt:=ir [165] []} (λ c=>W ZG H (λ f=>f 0 [] 0 H) λ f g h i j k=>J (k<O a) (ΦX b k a (ΦE ZI h b (N k*4) (λ l m n o p q r s=>C ZO 139 [ΦG [I o,I p]] h λ t u=>ΦQ u (C ZT 164 [S l m n,S B e d] t (λ v w x y=>(i+1)*88<=M/\ΦR (k+1)/\let z:=j++[Value.slice w x y,S l m n,I o,I p,S q r s];f (i+1) z (k+1) v/\g (i+1) z (k+1)<g i j k)) (ΦR (k+1)/\f i j (k+1) t/\g i j (k+1)<g i j k)))) (ZZ ZV 165 [S none 0 0,.func (.func 166) ⟨[]⟩ ⟨[]⟩] 0 198 i j true h (λ l m=>U l m i λ n o p=>c n i o p))) ?_;dsimp only[PL,aQ,aR,aW,eQ,C,ZZ,ΦE,M,N,ΦQ,ΦR,W,ΦX,O,J];have hl:=T.len;refine⟨λ k R i y=>0<=i/\i<=a/\k=(bZ (l.take i.toNat) cols).length/\Row y R (bZ (l.take i.toNat) cols),λ _ _ i=>a-i.toNat,P' ⟨rfl,rfl⟩,?_⟩;rintro H2 u k R i ⟨F,P,D,x⟩;have o:=kU (l.take i.toNat) cols;rw[aaE]at o;have V:(i+1).toNat=i.toNat+1:=by omega
 refine ΦD (λ v=>?_) λ X=>?_
 .obtain⟨hi,hA,_,hc,⟨A9,n9,c9,a1,a0,a2,rfl,L,q2,q3,q4⟩⟩:=T.at u F v;refine⟨hA,F,v,_,_,_,_,_,_,_,_,hc,_,bX,?_⟩;rintro H3 r _ rfl;have j:=jC (cols:=cols) hi;refine⟨λ Q=>?_,λ Q=>?_⟩
  .refine⟨_,jy (L.mono r) (ht.mono (aa u r)) hb,?_⟩;intro H4 w A4 n4 c4 h4;have q:=Q;rw[if_pos q]at j;refine y' ⟨y' (T' ?_),by grind⟩;rw[V,j];refine(x.mono (aa r w)).append ⟨_,[],by rfl,⟨_,_,_,_,_,_,_,_,_,rfl,h4,L.mono (aa r w),q2,q3,q4.mono (aa r w)⟩,rfl⟩
  .have q:¬dm l[i.toNat].p=true:=by
    simp_all
   rw[if_neg q,aar]at j;exact u' ⟨y' (T' (by rw[V,j];exact x.mono r)),by grind⟩
 .rw[aag (by omega)]at D x;have o:=kU l cols;refine⟨_,Bg x D.symm (by omega) ⟨_,Tryz.func166,rfl,by rfl⟩ MN (λ y vs us s t P Z h3=>GW (H:=H) _ _ _ s t (aa u P) Z h3),?_⟩;rintro H3 r ys ⟨g,g1,G,g3⟩ A4 c4 H4 w E z;exact⟨g,g1.sl w E (by rw[G.length_eq,D]) z (by show k*88<=_;omega) (by omega),G,g3⟩
def fT (l:I'):I':=l.mergeSort λ x y=>decide (x<=y)
def ends (l:List Kd):I':=l.flatMap λ k=>[k.t.p.lo,k.t.p.hi]
def points (l:List Kd):I':=Lib.compact (fT (ends l))
def MS (b:a<d.length):ends (d.take (a+1))=ends (d.take a)++[d[a].t.p.lo,d[a].t.p.hi]:=by
 rw[aaj _,ends,abo];rfl
def qd:∀l:List Kd,(ends l).length=2*l.length
 |[]=>rfl
 | k::l=>by
  have:=qd l;simp[ends,abH]at*;omega
def dU (l:I'):(Lib.compact l).length<=l.length:=(wm l).length_le
def dw (l:I'):(fT l).length=l.length:=by simp[fT]
def xw (q:Sl f b a c d):ZB 170 [S b a c] f fi (λ P x z t=>Sl t P x z (points d)):=by
 refine ΦK 2 {aj [] [] [(3,[.slot 3 false [.row 29 3],ag 8])]with res:=wj [(27,⟨false,[(false,[.row 28 3])]⟩)],mt:=ir [234] [235]} (λ c=>W ZG f (λ d=>d 0 [] 0 f) λ d e g h i j=>J (j<O a) (ΦX b j a (ΦE Xn g b (N j*5) (λ k l m n o p q r s t u=>(h+2)*8<=M/\ΦR (j+1)/\d (h+2) (i++[Value.int .i64 q,I r]) (j+1) g/\e (h+2) (i++[Value.int .i64 q,I r]) (j+1)<e h i j))) (ZZ ZV 234 [S none 0 0] 0 3 h i true g (λ k l=>ZZ Yt 235 [S none 0 0] 0 3 h l false k λ m n o p=>U m p o λ q r s=>c q o r s))) ?_;dsimp only[PL,aQ,aR,aW,eQ,ZZ,ΦE,M,N,ΦR,W,ΦX,O,J];have hl:=q.len;have Z:a*88<=140737488355328:=q.bnd;refine⟨λ k v i t=>0<=i/\i<=a/\k=(ends (d.take i.toNat)).length/\Row t v (ends (d.take i.toNat)),λ _ _ i=>a-i.toNat,P' ⟨rfl,rfl⟩,?_⟩;rintro H2 s k v i ⟨u,h1,m,o⟩;have e:=qd (d.take i.toNat);rw[aaE]at e;have V:(i+1).toNat=i.toNat+1:=by omega
 refine ΦD (λ g=>?_) λ w=>?_
 .obtain⟨T,L,_,hc,⟨E9,n9,c9,B,X,C,Y,F,R,rfl,q0,q1,q2,G,q4⟩⟩:=q.at s u g;have r:=MS T;refine⟨L,u,g,_,_,_,_,_,_,_,_,_,_,_,hc,y' ⟨y' (T' ?_),by grind⟩⟩;rw[V,r];exact o.append ⟨[_],[_],rfl,⟨rfl,q2⟩,[_],[],rfl,⟨rfl,G⟩,rfl⟩
 .rw[aag (by omega)]at m o;have e:=qd d;refine⟨_,tP o m.symm (by omega),?_⟩;intro H3 l3 ys p;have p:Row _ _ (fT _):=p;refine⟨_,lJ p (by rw[dw,m]) (by omega),?_⟩;rintro H4 l4 zs n4 Q ⟨rfl,E⟩ A5 c5 H5 D j h;have y:=dU (fT (ends d));rw[dw]at y;exact E.sl D j rfl h (by show(Lib.compact _).length*8<=_;omega) (by omega)
def Bh:Go.Shelf.Ren:=⟨λ | 4=>397 | n=>n,λ | 22=>40 | 25=>3 | 3=>3 | 4=>4 | 9=>9 | 20=>20 | 0=>0 | n=>n,λ n=>n⟩
def MT:Lays8.n4 Tryz.prog Bh:=by
 constructor<;>first | kernel_rfl | exact λ _=>by kernel_rfl | exact ab3 (by kernel_rfl) (by kernel_rfl)
def PF {n:Int}{r:Nat}{H:Heap}(b:0<=n)(c:n*8<=140737488355328):
  ZB 397 [.slice none 0 0,Φi n] H ⟨false,[(false,[.row r 3])]⟩ (λ m a _=>m=0/\a=[]):=by
 have h:=Pq (Γ:=tab) tO MT (j:=(tab 3).get rfl) rfl (by decide) (by decide) (n:=n.toNat) (r:=r) (H:=H) (by show n.toNat*8<=_;omega);rw[Int.toNat_of_nonneg b]at h;exact h
def Ju {d:List (I')}(u:Sl f b a c d)(hb:d.flatten.length*8<=140737488355328):
  ZB 306 [S b a c] f ⟨false,[(false,[.row e 3])]⟩ (λ m t z=>m=d.flatten.length/\Row z t d.flatten):=by
 refine ΦK 2 {aj [] [] [(3,[ag 3,ag 11]),(11,[.slot 6 false [.row 37 3],ag 27])]with res:=wj [(24,⟨false,[(false,[.row 36 3])]⟩)]} (λ c=>W ZK f (λ d=>d 0 0 f) λ d e g h i=>J (i<O a) (ΦX b i a (ΦE ZM g b (N i*1) (λ j k l=>ΦR (h+O k)/\J (h+O k<0) False (ΦR (i+1)/\d (h+O k) (i+1) g/\e (h+O k) (i+1)<e h i)))) (C Yu 397 [S none 0 0,I h] g (λ j k l=>W ZG j (λ m=>m k l 0 j) λ m n o p q r=>J (r<O a) (ΦX b r a (ΦE ZM o b (N r*1) (λ s t u=>∃v:G',Cells o s 0 v/\L v=t*1/\(p+t)*8<=M/\ΦR (r+1)/\m (p+t) (q++v) (r+1) o/\n (p+t) (q++v) (r+1)<n p q r))) (c p q o)))) ?_;dsimp only[PL,aQ,aR,aW,eQ,C,ΦE,L,M,N,ΦR,W,ΦX,O,J];have Z:=u.bn;have b2:=u.len;have o:∀k,(d.take k).flatten.length<=d.flatten.length:=λ k=>by
  have:d.flatten.length=(d.take k).flatten.length+(d.drop k).flatten.length:=by rw[<-aae,<-List.flatten_append,aaL]
  omega
 have h:∀{i:Int} (q:0<=i) (p:i.toNat<d.length),(d.take (i+1).toNat).flatten=(d.take i.toNat).flatten++d[i.toNat]:=λ {i} q p=>by
  rw[show(i+1).toNat=i.toNat+1 by omega,aaj p,List.flatten_append];simp
 refine⟨λ m i _=>0<=i/\i<=a/\m=(d.take i.toNat).flatten.length,λ _ i=>a-i.toNat,y' (by simp),?_⟩;rintro H2 E m i ⟨q,h1,rfl⟩;refine ΦD (λ g=>?_) λ w=>?_
 .obtain⟨p,x,_,B,⟨X,P,U,rfl,l⟩⟩:=u.at E q g;have D:=l.len;have G:=o (i+1).toNat;have y:=aak List.length (h q p);rw[aae]at y;refine⟨x,q,g,_,_,_,B,by omega,λ hf=>?_,λ _=>u' ⟨y' (by omega),by grind⟩⟩;grind
 .have s:(d.take i.toNat).flatten=d.flatten:=by rw[aag (by omega)]
  rw[s];refine⟨_,PF (by simp) (by omega),?_⟩;rintro H3 R _ _ ⟨rfl,rfl⟩;refine⟨λ m t i z=>0<=i/\i<=a/\m=(d.take i.toNat).flatten.length/\Row z t (d.take i.toNat).flatten,λ _ _ i=>a-i.toNat,P' ⟨by rfl,by rfl⟩,?_⟩;rintro H4 T _ t j ⟨v,j1,rfl,V⟩;refine⟨λ g=>?_,λ w=>?_⟩
  .have g:=aab g;obtain⟨p,x,_,B,⟨X,P,U,rfl,l⟩⟩:=u.at (aa E (aa R T)) v g;have D:=l.len;have G:=o (j+1).toNat;have y:=aak List.length (h v p);rw[aae]at y;obtain⟨Y,Q,F⟩:=l.row;refine⟨x,v,g,_,_,_,B,Y,Q,by rw[F.length,D];rfl,y' ⟨J' ?_,by grind⟩⟩;rw[h v p];exact V.append F
  grind
def cx (a b:I'):I':=Lib.compact (fT (a++b))
def iL {H:Heap}{B:D'}{d r:Nat}{f g:I'}(q:Sl H b a c f)(o:Sl H B e d g)(u:(a+e)*8<=140737488355328):
  ZB 237 [S b a c,S B e d] H ⟨false,[(false,[.row r 3])]⟩ (λ k p I=>k=(cx f g).length/\Row I p (cx f g)):=by
 refine ΦK 2 {bE with res:=wj [(9,⟨false,[(false,[.row 14 3])]⟩),(13,⟨false,[(false,[.row 15 3])]⟩)],mt:=ir [234] [235]} (λ f=>U H [S b a c,S B e d] 2 λ g h i=>C Yv 306 [S g 2 h] i λ j k l=>ZZ ZV 234 [S none 0 0] 0 3 k l true j λ m n=>ZZ Yw 235 [S none 0 0] 0 3 k n false m λ o p q r=>f q r o) ?_;dsimp only[aQ,aR,C,ZZ];intro y x j s J F;have t:Sl j y 2 x [f,g]:=Row.sl (H:=j) (T:=I') (l:=[f,g]) ⟨[_],[_],rfl,⟨b,a,c,rfl,q.mono s⟩,[_],[],rfl,⟨B,e,d,rfl,o.mono s⟩,rfl⟩ (ah j) J rfl F (by decide) (by decide);have z:=q.len;have G:=o.len;have h:[f,g].flatten=f++g:=by simp
 have i:(f++g).length=a+e:=by rw[aae,z,G]
 refine⟨_,Ju t (by rw[h,i];exact u),?_⟩;rw[h];rintro O R k p ⟨rfl,E⟩;refine⟨_,tP E rfl (by omega),?_⟩;intro P V W v;refine⟨_,lJ v (dw _) (by omega),?_⟩;rintro N M L Q D w;exact w
def di (l:List Kd):I':=l.flatMap λ k=>k.t.lin
def MU (b:a<d.length):di (d.take (a+1))=di (d.take a)++d[a].t.lin:=by
 rw[aaj b,di,abo];simp[di]
def MV (l:List Kd)(i:Nat):(di (l.take i)).length<=(di l).length:=by
 have:di l=di (l.take i)++di (l.drop i):=by rw[di,di,di,<-abo,aaL]
 grind
def cN (l:List Kd):I':=cx (di l) []
def wC {r:Nat}(s:Sl f b a c d)(hb:(di d).length*8<=140737488355328):
  ZB 174 [S b a c] f ⟨false,[(false,[.row r 3])]⟩ (λ k j u=>k=(cN d).length/\Row u j (cN d)):=by
 refine ΦK 2 {aj [] [] [(3,[.slot 3 false [.row 21 3],ag 8])]with res:=wj [(19,⟨false,[(false,[.row 20 3])]⟩)]} (λ c=>W ZG f (λ d=>d 0 [] 0 f) λ d e g h i j=>J (j<O a) (ΦX b j a (ΦE Xn g b (N j*5) (λ k l m n o p q r s t u=>∃v:G',Cells g s 0 v/\L v=t*1/\(h+t)*8<=M/\ΦR (j+1)/\d (h+t) (i++v) (j+1) g/\e (h+t) (i++v) (j+1)<e h i j))) (U g i h (λ k l m=>C Yx 237 [S k h l,S none 0 0] m λ n o p=>c o p n))) ?_;dsimp only[PL,aQ,aR,aW,eQ,C,ΦE,L,M,N,ΦR,W,ΦX,O,J];have hl:=s.len;have a0:=s.bn;refine⟨λ k j i u=>0<=i/\i<=a/\k=(di (d.take i.toNat)).length/\Row u j (di (d.take i.toNat)),λ _ _ i=>a-i.toNat,P' ⟨rfl,rfl⟩,?_⟩;rintro H2 t k j i ⟨v,h1,w,q⟩;have V:(i+1).toNat=i.toNat+1:=by omega
 refine ΦD (λ e=>?_) λ y=>?_
 .obtain⟨R,G,_,hc,⟨E9,n9,c9,z,X,D,Z,E,Q,rfl,q0,q1,q2,q3,o⟩⟩:=s.at t v e;have h:=MU R;have g:=aak List.length h;rw[aae,o.len]at g;have ht:=MV d (i.toNat+1);obtain⟨Y,B,x⟩:=o.row;refine⟨G,v,e,_,_,_,_,_,_,_,_,_,_,_,hc,Y,B,by rw[x.length,o.len];rfl,y' ⟨y' (T' ?_),by grind⟩⟩;rw[V,h];exact q.append x
 .rw[aag (by omega)]at w q;intro A4 c4 H4 I p m;refine⟨_,iL (r:=20) (q.sl I p w.symm m (by show k*8<=_;omega) (by omega)) (Sl.nil (T:=Int)) (by omega),?_⟩;rintro H5 l5 k5 P F;exact F
end
section
variable {a c:Nat}{b:Heap}{d:D'}{e:Type}{f:G'}
def Cr {B:D'}{m f:Nat}{e g:I'}(p:Sl b d a c e)(t:Sl b B m f g):
  ZB 185 [S d a c,S B m f] b fg (λ r _=>r=decide (e=g)):=by
 refine ΦK 0 (aj [] [(6,gb)] [(4,[ag 13])]) (λ c=>V (O a=O m) (c false b) (W ZE b (λ e=>e 0 b) (λ e f g h=>J (h<O a) (ΦX d h a (ΦE ZE g d (N h*1) (λ i=>ΦX B h m (ΦE ZE g B (N h*1) (λ j=>V (i=j) (c false g) (ΦR (h+1)/\e (h+1) g/\f (h+1)<f h)))))) (c true g)))) ?_;dsimp only[PL,aW,eQ,ΦE,N,ΦR,W,ΦX,O,V,J];have x:=p.len;have I:=t.len;have F:=p.bn;refine⟨λ o=>?_,λ z=>?_⟩
 .grind
 have u:(a:Int)=m:=by grind
 refine⟨λ i _=>0<=i/\i<=a/\(e=g↔e.drop i.toNat=g.drop i.toNat),λ i=>a-i.toNat,P' (by rfl),?_⟩;rintro L k i ⟨h,G,s⟩;refine ΦD (λ j=>?_) λ l=>?_
 .obtain⟨y,w,_,E,⟨rfl,q⟩⟩:=p.at k h j;obtain⟨C,D,_,v,⟨rfl,M⟩⟩:=t.at k h (by omega);rw[ak h y,ak h C]at s;refine⟨w,h,j,_,E,D,h,by omega,_,v,λ o=>?_,λ z=>u' ⟨y' ?_,by grind⟩⟩
  .grind
  grind
 .rw[ai l x,aaN (by omega)]at s;grind
def zy {l:List e}{x:e}(h:0<l.length):l.set (l.length-1) x=l.dropLast++[x]:=by
 rw[acj,if_pos (by omega),adn,show l.length-1+1=l.length by omega,List.drop_length]
def cG (l:List cT)(v:cT):List cT:=match l.getLast? with
 | some u=>if u.p.hi=v.p.lo/\u.ids=v.ids then l.dropLast++[⟨⟨u.p.lo,v.p.hi⟩,u.ids⟩]else l++[v]
 | none=>l++[v]
def wD {r:Nat}{l:List cT}{v:cT}{e:Nat}(w:Row b f l)(hl:l.length=a)(X:(a+1)*40<=140737488355328)(P:ae .i64 v.p.lo)(z:ae .i64 v.p.hi)(E:Sl b d c e v.ids):
  ZC 173 [.slice none 0 0,.agg ⟨[Φi v.p.lo,Φi v.p.hi,S d c e]⟩] 0 241 a f false b ⟨false,[(false,[.row r 241])]⟩
   (λ _=>λ k V t=>k=(cG l v).length/\Row t V (cG l v)):=by
 refine RY 0 (aj [32] [(2,ab 2 6 [22,24,26,15,16,18,21,28,30,32,34,36,38,46,48,41,42,45,51,52,0])] []) (λ g=>let h:=f++[Value.int .i64 v.p.lo,I v.p.hi,S d c e];J (0<O a) (ΦR (O a-1)/\ΦY (O a-1) a (ΦF ZE f (N (O a-1)*3+0+1) 1 (λ i=>J (i=v.p.lo) (ΦR (O a-1)/\ΦY (O a-1) a (ΦF ZM f (N (O a-1)*3+2) 1 (λ j k l=>C ZO 185 [S j k l,S d c e] b λ m n=>ΦQ n (ΦR (O a-1)/\ΦY (O a-1) a (N (O a-1)*3+0+1+1<=L f/\g a (av f (N (O a-1)*3+0+1) [I v.p.hi]) m)) ((a+1)*40<=M/\g (a+1) h m)))) ((a+1)*40<=M/\g (a+1) h b)))) ((a+1)*40<=M/\g (a+1) h b)) ?_;dsimp only[aQ,aR,eQ,C,ΦF,L,M,N,ΦQ,ΦR,ΦY,O,J];have h:∀{t:Heap},Heap.le b t->Row t (f++[Φi v.p.lo,Φi v.p.hi,S d c e]) (l++[v]):=λ o=>(w.mono o).append ⟨_,[],by simp,⟨_,_,_,rfl,P,z,E.mono o⟩,rfl⟩;have j:=w.length;refine ΦD (λ U=>?_) λ U=>?_
 .have T:((a:Int)-1).toNat<l.length:=by omega
  obtain⟨Z,⟨F,W,Q,rfl,G,q2,D⟩,B,y⟩:=w.mg T;have i:l.getLast?=some l[((a:Int)-1).toNat]:=by
   rw[abK,aai (by omega)];congr 2;omega
  have x:=B 1 1 (by decide);have u:=B 2 1 (by decide);refine J' ⟨_,x,λ s=>J' ⟨_,_,_,u,_,Cr D E,?_⟩,λ s=>u' ?_⟩
  .have s:=aab s;rintro Y R _ rfl;refine⟨λ q=>?_,λ q=>u' ?_⟩
   .have q:=aab q;have g:cG l v=l.set ((a:Int)-1).toNat ⟨⟨l[((a:Int)-1).toNat].p.lo,v.p.hi⟩,l[((a:Int)-1).toNat].ids⟩:=by
     unfold cG;rw[i];simp only;rw[if_pos ⟨s,q⟩,<-zy (by omega),show l.length-1=((a:Int)-1).toNat by omega]
    refine J' ⟨?_,?_⟩
    .rw[j];show _<=l.length*3;omega
    .rw[g];refine T' ?_;exact(y 1 _ ⟨⟨l[((a:Int)-1).toNat].p.lo,v.p.hi⟩,l[((a:Int)-1).toNat].ids⟩ (by show 1+1<=3;simp) ⟨F,W,Q,rfl,G,z,D⟩).mono R
   .have g:cG l v=l++[v]:=by
     unfold cG;grind
    grind
  .have g:cG l v=l++[v]:=by
    unfold cG;grind
   rw[g];exact T' (h (ah b))
 .have:l=[]:=aal (by omega);subst this;exact u' ⟨by simp[cG];omega,h (ah b)⟩
def DZ {l:List Kd}{f:FuncId}{q:Value}{p:Kd->Bool}(o:Sl b d a c l)(w:kP Tryz.prog Kd b f q p):
  ZB 236 [S d a c,.func (.func f) #[] #[q]] b gL (λ r _=>r=idxOf p 0 l):=by
 refine ΦK 0 (aj [16] [] [(2,[ag 8])]) (λ c=>W ZE b (λ e=>e 0 b) λ e g h i=>J (i<O a) (ΦX d i a (ΦE Xn h d (N i*5) (λ j k l m n o p r s t u=>C ZO f [ΦG [S j k l,S m n o,I p,I r,S s t u],q] h λ v w=>ΦQ w (c i v) (ΦR (i+1)/\e (i+1) v/\g (i+1)<g i)))) (c (-1) h)) ?_;dsimp only[PL,aQ,aR,aW,eQ,C,ΦE,N,ΦQ,ΦR,W,ΦX,O,J];refine⟨λ a _=>0<=a/\a<=l.length/\idxOf p 0 l=idxOf p a (l.drop a.toNat),λ a=>l.length-a.toNat,P' rfl,?_⟩;rintro R j i ⟨m,G,s⟩;simp only[aad,aaf];refine⟨λ g=>?_,λ k=>?_⟩
 .obtain⟨x,u,_,y,t⟩:=o.at j m g;have h:=w _ _ _ j t;obtain⟨Q,E,z,P,L,F,M,D,T,rfl,-⟩:=t;refine⟨u,m,g,_,_,_,_,_,_,_,_,_,_,_,y,_,h,?_⟩;rintro B _ e rfl;rw[ak m x,idxOf]at s;refine⟨λ v=>?_,λ v=>⟨?_,y' ?_,by omega⟩⟩
  .grind
  .have:=o.bn;omega
  grind
 .rw[ai k o.len,idxOf]at s;grind
def sH {T:Type}(p:T->Bool):∀(l:List T) (i:Int),0<=i->(idxOf p i l= -1/\l.filter (λ x=> !p x)=l)\/(∃k:Nat,idxOf p i l=i+k/\k<l.length/\(l.take (k+1)).filter (λ x=> !p x)=l.take k)
 |[],i,h=> .inl ⟨rfl,rfl⟩
 | x::r,i,h=>by
  by_cases b:p x=true
  .exact .inr ⟨0,by simp[idxOf,b],N' (by simp[b])⟩
  .have a:p x=false:=by simpa using b
   rcases sH p r (i+1) (by omega)with⟨c,d⟩ |⟨k,c,d,e⟩
   .exact .inl ⟨by simp[idxOf,a,c],by simp[a,d]⟩
   .refine .inr ⟨k+1,by simp[idxOf,a,c];omega,by simp;omega,?_⟩;rw[acy,aba,if_pos (by simp[a]),e,acy]
def Row.take {T:Type}[Rep T]{H:Heap}:∀{a:G'} {l:List T} (i:Nat),Row H a l->Row H (a.take (i*Rep.sz T)) (l.take i)
 | a,[],i,h=>by rw[h];simp[Row]
 | a,t::l,0,h=>by simp[Row]
 | a,t::l,i+1,⟨vs,ys,h1,h2,h3⟩=>by
  have b:=Rep.len h2;refine⟨vs,ys.take _,?_,h2,Row.take i h3⟩;rw[h1,abf,aco,aag (by omega),b,aep]
def zz [Rep e]{Z:G'}{c:List e}{i:Nat}(h:Row b f c)(l:c.length=a)(p:i<=a)(q:Z.length=(a-i)*Rep.sz e):
  Row b (List.take (List.length (av f (i*Rep.sz e) Z)/a*(i-0)) (av f (i*Rep.sz e) Z)) (c.take i):=by
 have m:=h.length;rw[l]at m;have o:i*Rep.sz e<=a*Rep.sz e:=aaC _ p;have g:(a-i)*Rep.sz e=a*Rep.sz e-i*Rep.sz e:=adM _ _ _;have d:(av f (i*Rep.sz e) Z).length=a*Rep.sz e:=by
  simp[av,aaE];omega
 have k:(av f (i*Rep.sz e) Z).length/a*(i-0)=i*Rep.sz e:=by
  rw[d,aeG];rcases abl a with j | j
  .grind
  .rw[Nat.mul_div_cancel_left _ j,adX]
 rw[k];have:List.take (i*Rep.sz e) (av f (i*Rep.sz e) Z)=f.take (i*Rep.sz e):=by
  simp[av];grind
 rw[this];exact h.take i
def mO (p:e->Bool){l:List e}(b:a<l.length):(l.take (a+1)).filter (λ x=> !p x)=(l.take a).filter (λ x=> !p x)++(if p l[a]then[]else[l[a]]):=by
 rw[aaj b];grind
def Bi {H0:Heap}{l:List Kd}{d:FuncId}{q:Value}{p:Kd->Bool}(g:Heap.le H0 b)(T:Row H0 f l)(R:l.length=a)(hb:a*88<=140737488355328)(hf:kP Tryz.prog Kd b d q p):
  ZC 171 [.slice none 0 0,.func (.func d) #[] #[q]] 0 198 a f false b ⟨false,[(false,[.row c 198])]⟩
   (λ _=>λ k B _=>k=(l.filter λ x=> !p x).length/\Row H0 B (l.filter λ x=> !p x)):=by
 refine RY 1 (aj [10,28] [] [(5,[.slot 0 false [.row 42 198],ag 5,ag 6])]) (λ c=>∃e:Int->Heap->Prop,U b f a (λ g h i=>af Tryz.prog 236 [S g a h,.func (.func d) ⟨[]⟩ ⟨[q]⟩] i ⟨false,[(false,[.int .i64])]⟩ e)/\∀(g:Heap)(h:Int),e h g->J (h=-1) (c a f b) (ΦR (h+1)/\W Xo b (λ i=>i a f h (h+1) b) (λ i j k l m n o=>J (o<O l) (ΦY o l (ΦF Xn m (N o*5) 5 (λ p r s t u v w x y z a0=>let a1:=[S p r s,S t u v,I w,I x,S y z a0];C ZO d [ΦG a1,q] k λ a2 a3=>ΦQ (!a3) (ΦY n l (N n*5+5<=L m/\ΦR (n+1)/\ΦR (o+1)/\i l (av m (N n*5) a1) (n+1) (o+1) a2/\j l (av m (N n*5) a1) (n+1) (o+1)<j l m n o)) (ΦR (o+1)/\i l m n (o+1) a2/\j l m n (o+1)<j l m n o)))) (0<=n/\n<=O l/\O l<=O l/\(0:Int)<=0/\0<=n/\n<=O l/\(let p:=av m (N n*5) (dE [S none 0 0,S none 0 0,I 0,I 0,S none 0 0] (N (O l)-N n));c (N n-0) (List.take (L p/l*(N n-0)) p) k))))) ?_;dsimp only[PL,aQ,aR,aW,eQ,C,ΦF,L,N,ΦQ,ΦR,W,ΦY,O,J];refine⟨_,λ A1 c1 H3 l3 o hn=>DZ (T.sl (aa g l3) o R hn hb (by omega)) (λ H' vs t v s=>hf H' vs t (aa l3 v) s),?_⟩;rintro H7 y rfl;rcases sH p l 0 (by omega)with⟨v,s⟩ |⟨k0,v,s,h3⟩
 .refine⟨λ _=>⟨by rw[s,R],by rw[s];exact T⟩,λ E=>?_⟩;have:=aac E;exact absurd v this
 rw[v];refine⟨λ E=>by have:=aab E;omega,λ E=>u' ?_⟩;refine⟨λ k B i j _=>k=a/\0<=i/\i<j/\j<=a/\∃e:List Kd,Row H0 B e/\e.length=a/\e.take i.toNat=(l.take j.toNat).filter (λ x=> !p x)/\e.drop j.toNat=l.drop j.toNat,
  λ _ _ _ j=>a-j.toNat,⟨rfl,J' ⟨l,T,R,by rw[show((0:Int)+k0+1).toNat=k0+1 by omega,h3];congr 1;omega,rfl⟩⟩,?_⟩
 rintro V u k B i j ⟨rfl,y,a2,a5,e,o,D,G,Y⟩;have M:=o.length;refine ΦD (λ F=>?_) λ a1=>?_
 .have hj:j.toNat<e.length:=by omega
  have z:j.toNat<l.length:=by omega
  have P:e[j.toNat]=l[j.toNat]:=by
   have:=aak (λ x=>x[0]?) Y;simp only[acq,adW]at this;rw[aai hj,aai z]at this;simpa using this
  have w:=o.dO hj;rw[P]at w;have m:=o.dV (i:=i.toNat) (by omega) w;have h:=hf V _ _ u (Rep.mono (aa g u) w);have A:=mO p z;have e1:(j+1).toNat=j.toNat+1:=by omega
  have X:e.drop (j.toNat+1)=l.drop (j.toNat+1):=by
   rw[<-abT,<-abT,Y]
  generalize a3:win B (j.toNat*Rep.sz Kd) (Rep.sz Kd)=wv at w m h;obtain⟨E9,k9,e9,A9,n9,c9,B9,m9,d9,rfl,-⟩:=w;refine u' ⟨F,_,_,_,_,_,_,_,_,_,_,_,rfl,_,h,?_⟩;rintro a6 a4 _ rfl;refine⟨λ Q=>?_,λ Q=>?_⟩
  .have Q:p l[j.toNat]=false:=by simpa using Q
   rw[if_neg (by grind)]at A;refine⟨y,by omega,?_,y' ⟨⟨rfl,J' ⟨e.set i.toNat l[j.toNat],m,by grind,?_,?_⟩⟩,by grind⟩⟩
   .rw[M];show i.toNat*5+5<=e.length*5;omega
   .rw[e1,A,<-G,show(i+1).toNat=i.toNat+1 by omega,aaj (by grind),aeh (by simp)];simp
   .rw[e1,aeg (by omega),X]
  .exact u' ⟨⟨rfl,y,y' ⟨e,o,D,T' (by grind)⟩⟩,by grind⟩
 .rw[aag (by omega:l.length<=j.toNat)]at G;have a7:i.toNat=(l.filter λ x=> !p x).length:=by
   grind
  have a0:=zz (Z:=dE [.slice none 0 0,.slice none 0 0,Φi 0,Φi 0,.slice none 0 0] (Int.toNat (k)-i.toNat)) o D (i:=i.toNat) (by omega) (by rw[gz];rfl);refine⟨y,u' (P' ⟨y,y' ?_⟩)⟩;rw[<-G];omega
end
end Go.Vc
