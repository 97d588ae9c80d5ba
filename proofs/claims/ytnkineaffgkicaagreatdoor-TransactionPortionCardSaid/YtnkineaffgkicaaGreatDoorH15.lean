/- A part of the proof. -/
import Derived.Test.YtnkineaffgkicaaGreatDoorH13
import Derived.Test.YtnkineaffgkicaaGreatDoorH14
import Derived.Shelf.Small.Strs
set_option maxHeartbeats 0
set_option maxRecDepth 100000
set_option linter.unusedVariables false
set_option linter.defProp false
set_option linter.unusedSectionVars false
set_option linter.unusedSimpArgs false
namespace Go.Vc
open Go Go.Shelf Go.Proofs
section
variable {a:Heap}{b:Int}{c:G'}{d:Nat}{e:I'}
def Gp:Go.Shelf.Ren:=⟨λ | 106=>233 | 213=>304 | 265=>387 | n=>n,λ | 9=>9 | 3=>3 | n=>n,λ n=>n⟩
def KW:Lays.n106 Tryz.prog Gp:=by
 constructor<;>first | kernel_rfl | exact λ _=>by rfl | exact ab3 (by kernel_rfl) (by kernel_rfl)
def My:Go.Shelf.Ren:=⟨λ | 189=>234 | 125=>239 | 257=>305 | 128=>315 | 129=>316 | 294=>388 | 295=>389 | 296=>390 | 297=>391 | 298=>392 | 299=>393 | 216=>394 | 300=>395 | 301=>396 | 328=>473 | 329=>399 | 330=>400 | 331=>474 | 332=>475 | 215=>108 | 343=>514 | n=>n,λ | 28=>40 | 3=>3 | 46=>310 | 0=>0 | 51=>404 | 53=>406 | 4=>4 | 183=>398 | 182=>397 | 131=>252 | 5=>5 | 9=>9 | 218=>483 | 222=>487 | 228=>567 | 229=>232 | n=>n,λ n=>n⟩
def Vu:Lays.n189 Tryz.prog My:=by
 constructor<;>first | kernel_rfl | exact λ _=>by kernel_rfl | exact ab3 (by kernel_rfl) (by kernel_rfl)
def Mz:Go.Shelf.Ren:=⟨λ | 20=>235 | n=>n,λ | 22=>40 | 3=>3 | 4=>4 | 0=>0 | n=>n,λ n=>n⟩
def Vv:Lays2.n20 Tryz.prog Mz:=by
 constructor<;>first | kernel_rfl | exact λ _=>by kernel_rfl | exact ab3 (by kernel_rfl) (by kernel_rfl)
def MA {P:Program}{f:FuncId}(g:fN P f)(h:∀w,Calls P f c.toArray w λ e d=>e= .returned (Φi b)/\d=w):af P f c a gL (λ r _=>r=b):=by
 refine⟨g,λ w i=>(h w).mono ?_⟩;rintro e d ⟨rfl,rfl⟩;exact⟨_,a,[],rfl,⟨b,_,rfl,rfl,rfl,rfl⟩,⟨⟨rfl,rfl,rfl,aaB _,λ _ _=>rfl⟩,ah a,λ _ _ _=>rfl,i,aaB _⟩,N' List.Pairwise.nil⟩
def strings_Compare {H:Heap}{a b:ByteArray}:ZB 233 [ΦT a,ΦT b] H gL (λ r _=>r=Gn a b):=
 MA (fN.xM KW.f106 rfl (by rfl)) λ w=>Any.strings_Compare KW a b w
def tP (g:Row a c e)(f:e.length=d)(i:d<=140737488355328):
  ZC 234 [.slice none 0 0] 0 3 d c true a ⟨true,[]⟩ (λ b (h:Heap)=>Row h b (e.mergeSort λ x y=>decide (x<=y))):=
 Mx Vu (by kernel_rfl) g f i
def lJ {r:Nat}(g:Row a c e)(f:e.length=d)(i:d<=140737488355328):
  ZC 235 [.slice none 0 0] 0 3 d c false a ⟨false,[(false,[.row r 3])]⟩ (λ _=>λ m (b:G') (h:Heap)=>m=(Lib.compact e).length/\Row h b (Lib.compact e)):=
 DN Vv (by kernel_rfl) g f i
def Cf:ZB 108 [Φi b] a fg (λ r _=>r=false):=by
 refine ΦK 0 bE (λ c=>c (!decide (b=b)) a) ?_;simp
def gC {y:Int}:ZB 52 [Φi b,Φi y] a gL (λ r _=>r=cQ b y):=by
 refine ΦK 0 (aj [8,10] [] []) (λ c=>C ZO 108 [I b] a λ d e=>C ZO 108 [I y] d λ f g=>ΦQ e (ΦQ g (c 0 f) (c (-1) f)) (ΦQ g (c 1 f) (J (b<y) (c (-1) f) (J (y<b) (c 1 f) (c 0 f))))) ?_;dsimp only[aQ,aR,C,ΦQ,J];refine⟨_,Cf,?_⟩;rintro c _ _ rfl;refine⟨_,Cf,?_⟩;grind[cQ]
def wo:ZB 303 [Φi b] a fg (λ r _=>r=false):=by
 refine ΦK 0 bE (λ c=>c (!decide (b=b)) a) ?_;simp
def Bb {y:Int}:ZB 232 [Φi b,Φi y] a gL (λ r _=>r=cQ b y):=by
 refine ΦK 0 (aj [8,10] [] []) (λ c=>C ZO 303 [I b] a λ d e=>C ZO 303 [I y] d λ f g=>ΦQ e (ΦQ g (c 0 f) (c (-1) f)) (ΦQ g (c 1 f) (J (b<y) (c (-1) f) (J (y<b) (c 1 f) (c 0 f))))) ?_;dsimp only[aQ,aR,C,ΦQ,J];refine⟨_,wo,?_⟩;rintro c _ _ rfl;refine⟨_,wo,?_⟩;grind[cQ]
def Pn {A:D'}{c:Nat}{l:I'}(g:Sl a A d c l):ZB 167 [S A d c] a gL (λ r _=>r=Pk l):=by
 refine ΦK 0 (aj [] [] [(3,[ag 8])]) (λ b=>W ZE a (λ c=>c 0 a) λ c e f g=>J (g<O d) (ΦX A g d (ΦE ZE f A (N g*1) (λ h=>V (h=0) (b h f) (ΦR (g+1)/\c (g+1) f/\e (g+1)<e g)))) (b 0 f)) ?_;dsimp only[PL,aW,eQ,ΦE,N,ΦR,W,ΦX,O,V,J];refine⟨λ i _=>0<=i/\i<=d/\Pk l=Pk (l.drop i.toNat),λ i=>d-i.toNat,P' rfl,?_⟩;rintro v h i ⟨f,t,j⟩;have s:=g.bn;have o:=g.len;refine ΦD (λ b=>?_) λ e=>?_
 .obtain⟨p,m,_,q,⟨rfl,u⟩⟩:=g.at h f b;rw[ak f p,Pk]at j;refine⟨m,f,b,_,q,λ k=>?_,λ w=>u' ⟨y' ?_,by grind⟩⟩
  .grind
  grind
 .rw[ai e o,Pk]at j;grind
def Gq (h:∀x∈e,ae .i64 x):Row a (e.map (Value.int .i64)) e:=nO h
def gM.bd {T:Type}{f:T->T->Int}(h:gM f)(a b:T):ae .i64 (f a b):=by
 rcases h.sign a b with e | e | e<;>rw[e]<;>decide
def ml {d b:az}:ZB 169 [.agg ⟨[Φi d.kind,Φi d.n,ΦT d.s]⟩,.agg ⟨[Φi b.kind,Φi b.n,ΦT b.s]⟩] a gL (λ r _=>r=Ba d b):=by
 refine ΦK 0 (aj [9,14,19,21] [(1,[2,4,6,8,12,14,16,18,22,24,26,28,11,21,31,33,35,36,0])] []) (λ c=>C ZP 52 [I d.kind,I b.kind] a λ e f=>C ZP 232 [I d.n,I b.n] e λ g h=>C ZP 233 [ΦT d.s,ΦT b.s] g λ i j=>∃k:Int->Heap->Prop,U i [I f,I h,I j] 3 (λ l m n=>af Tryz.prog 167 [S l 3 m] n ⟨false,[(false,[.int .i64])]⟩ k)/\∀(l:Heap)(m:Int),k m l->c m i) ?_;dsimp only[aQ,aR,C];refine⟨_,gC,?_⟩;rintro j k _ rfl;refine⟨_,Bb,?_⟩;rintro i m _ rfl;refine⟨_,strings_Compare,?_⟩;rintro p o _ rfl;refine⟨_,λ A c e h f g=>Pn (l:=[cQ d.kind b.kind,cQ d.n b.n,Gn d.s b.s]) (Row.sl (T:=Int) (Gq ?_) (ah e) f rfl g (by decide) (by simp)),?_⟩
 .have:=fQ.bd d.kind b.kind;have:=fQ.bd d.n b.n;have:=pO.bd d.s b.s;grind
 .rintro q _ rfl;rfl
def jM (P:Program)(T:Type)[Rep T](H:Heap)(f:FuncId)(d:T->T->Int):Prop:=
 ∀(a:Heap) (c b:G') (s t:T),Heap.le H a->Rep.rel a c s->Rep.rel a b t->af P f [.agg ⟨c⟩,.agg ⟨b⟩] a gL (λ r _=>r=d s t)
def xq (H:Heap):jM Tryz.prog az H 169 Ba:=by
 rintro c b a s t _ ⟨rfl,-⟩ ⟨rfl,-⟩;exact ml
end
section
variable {a b g h:Nat}{c j:List az}{d:Heap}{e f:D'}{i:Type}{k:I'}
def uQ {f:i->i->Int}{c b:List i}(e:a<c.length)(d:a<b.length):gf f (c.drop a) (b.drop a)=if f c[a] b[a]≠0 then f c[a] b[a]else gf f (c.drop (a+1)) (b.drop (a+1)):=by
 rw[aas _,aas d,gf]
def uR {f:i->i->Int}{c b:List i}(d:c.length<=a):gf f (c.drop a) (b.drop a)=if a<b.length then-1 else 0:=by
 rw[aaN d];split
 .rename_i e;rw[aas e];rfl
 .rw[aaN (by omega)];rfl
def uS {f:i->i->Int}{c b:List i}(d:a<c.length)(e:b.length<=a):gf f (c.drop a) (b.drop a)=1:=by
 rw[aas d,aaN e];rfl
def xr {l:FuncId}{k:az->az->Int}(v:Sl d e a b c)(w:Sl d f g h j)(G:jM Tryz.prog az d l k):
  ZB 168 [S e a b,S f g h,.func (.func l) #[] #[]] d gL (λ r _=>r=gf k c j):=by
 refine ΦK 0 (aj [29] [] [(2,[ag 13])]) (λ b=>W ZE d (λ c=>c 0 d) λ c h i j=>J (j<O a) (ΦX e j a (ΦE ZF i e (N j*3) (λ k m n=>J (O g<=j) (b 1 i) (ΦX f j g (ΦE ZF i f (N j*3) (λ o p q=>C ZP l [ΦG [I k,I m,ΦT n],ΦG [I o,I p,ΦT q]] i λ r s=>V (s=0) (b s r) (ΦR (j+1)/\c (j+1) r/\h (j+1)<h j))))))) (J (O a<O g) (b (-1) i) (b 0 i))) ?_;dsimp only[PL,aQ,aR,aW,eQ,C,ΦE,N,ΦR,W,ΦX,O,V,J];refine⟨λ i _=>0<=i/\i<=a/\gf k c j=gf k (c.drop i.toNat) (j.drop i.toNat),λ i=>a-i.toNat,P' rfl,?_⟩;rintro H2 o i ⟨s,Y,t⟩;have T:=v.bn;have hl:=v.len;have hm:=w.len;refine ΦD (λ p=>?_) λ z=>?_
 .obtain⟨y,F,_,P,x⟩:=v.at o s p;obtain⟨rfl,X,q2,Z⟩:=id x;refine⟨F,s,p,_,_,_,P,ΦD (λ u=>?_) λ u=>?_⟩
  .rw[t,uS y (by omega)]
  .obtain⟨L,M,_,D,q⟩:=w.at o s (by omega);obtain⟨rfl,p1,R,Q⟩:=id q;refine⟨M,s,by omega,_,_,_,D,_,G _ _ _ _ _ o x q,?_⟩;rintro U l3 _ rfl;rw[uQ y L]at t;refine⟨λ E=>?_,λ he=>u' ⟨y' ?_,by grind⟩⟩
   .grind
   grind
 .rw[uR (by omega)]at t;grind
def aeP:fI where
 res:=λ _=>none
 lend:=λ | 7=>true | _=>false
 sch:=λ _=> .done
 lt:=λ _=>[]
 kz:=Gh
def cL (l:Sl d e a b c)(k:Sl d f g h j):
  ZB 116 [S e a b,S f g h] d gL (λ r _=>r=bK c j):=by
 refine uJ (an:=aeP) (fn:=Tryz.f116) mix tO Tryz.func116 (by rfl) (extra:=0) ?_;exact⟨_,xr l k (xq d),λ _ _ _ i=>i⟩
def pQ:∀a b:List UInt8,Op.bytesLess a b=decide (Lib.compareBytes a b= -1)
 |[],[]=>by rfl
 | _::_,[]=>by rfl
 |[],_::_=>by rfl
 | x::a,y::b=>by
  simp[Op.bytesLess,Lib.compareBytes];by_cases c:x<y
  .grind
  .by_cases d:y<x
   .grind
   .have:x=y:=by
     grind
    subst this;simp[pQ a b]
def toList_data (a:ByteArray):a.toList=a.data.toList:=ByteArray.toList_eq a
def Bc (a b:ByteArray):Op.bytesLess a.toList b.toList=decide (Gn a b= -1):=by
 rw[toList_data,toList_data];exact pQ _ _
def UM (x:Int):cQ x x=0:=fQ.refl x
def UN (x:ByteArray):Gn x x=0:=pO.refl x
def nS {a b:az}:ZB 68 [.agg ⟨[Φi a.kind,Φi a.n,ΦT a.s]⟩,.agg ⟨[Φi b.kind,Φi b.n,ΦT b.s]⟩] d gL (λ r _=>r=Ba a b):=by
 refine ΦK 0 bE (λ c=>J (a.kind<b.kind) (c (-1) d) (let e:=ΦQ (decide (a.kind=b.kind)&&(decide (a.n=b.n)&&decide (a.s=b.s))) (c 0 d) (c 1 d);let f:=J (a.kind=b.kind) (J (a.n=b.n) (ΦQ (Op.bytesLess (ByteArray.toList a.s) (ByteArray.toList b.s)) (c (-1) d) e) e) e;J (a.kind=b.kind) (J (a.n<b.n) (c (-1) d) f) f)) ?_;dsimp only[ΦQ,J];simp only[Bc];have i:=pO.sign a.s b.s;have g:= @gM.iff _ _ pO a.s b.s;simp only[Ba,Pk];rcases Int.lt_trichotomy a.kind b.kind with h | h | h
 .have f:¬a.kind=b.kind:=by omega
  have c:cQ a.kind b.kind= -1:=by unfold cQ;grind
  grind
 .have c:cQ a.kind b.kind=0:=by unfold cQ;grind
  rcases Int.lt_trichotomy a.n b.n with k | k | k
  .have e:cQ a.n b.n= -1:=by unfold cQ;grind
   grind
  .have e:cQ a.n b.n=0:=by unfold cQ;grind
   grind
  .have e:cQ a.n b.n=1:=by unfold cQ;grind
   grind
 .have f:¬a.kind=b.kind:=by omega
  have c:cQ a.kind b.kind=1:=by unfold cQ;grind
  grind
def fv (t:Sl d e a b c)(u:Sl d f g h j):
  ZB 26 [S e a b,S f g h] d gL (λ r _=>r=bK c j):=by
 refine ΦK 0 (aj [27] [(4,ab 2 8 [19,20,0])] [(2,[ag 5])]) (λ b=>W ZE d (λ c=>c 0 d) λ c h i j=>let k:=J (O a<O g) (b (-1) i) (J (O g<O a) (b 1 i) (b 0 i));J (j<O a) (J (j<O g) (ΦX e j a (ΦE ZF i e (N j*3) (λ l m n=>ΦX f j g (ΦE ZF i f (N j*3) (λ o p q=>C ZP 68 [ΦG [I l,I m,ΦT n],ΦG [I o,I p,ΦT q]] i λ r s=>V (s=0) (b s r) (ΦR (j+1)/\c (j+1) r/\h (j+1)<h j)))))) k) k) ?_;dsimp only[PL,aQ,aR,aW,eQ,C,ΦE,N,ΦR,W,ΦX,O,V,J];refine⟨λ i _=>0<=i/\i<=a/\i<=g/\bK c j=gf _ (c.drop i.toNat) (j.drop i.toNat),λ i=>a-i.toNat,Q' rfl,?_⟩;rintro H2 l i ⟨o,U,D,p⟩;have Q:=t.bn;have hl:=t.len;have hm:=u.len;refine ΦD (λ k=>?_) λ v=>?_
 .refine ΦD (λ s=>?_) λ s=>?_
  .obtain⟨E,y,_,L,z⟩:=t.at l o k;obtain⟨rfl,T,q2,X⟩:=id z;obtain⟨F,G,_,w,q⟩:=u.at l o (by omega);obtain⟨rfl,Z,P,M⟩:=id q;refine⟨y,o,k,_,_,_,L,G,o,by omega,_,_,_,w,_,nS,?_⟩;rintro R Y _ rfl;rw[uQ E F]at p;refine⟨λ x=>?_,λ he=>u' ⟨J' ?_,by grind⟩⟩
   .grind
   grind
  .rw[uS (by omega) (by omega)]at p;grind
 .rw[uR (by omega)]at p;grind
def gg:az:=⟨0,0,⟨#[]⟩⟩
def fJ (a:List az)(c:Int):az:=if 0<=c then a.getD c.toNat gg else gg
def aJ (a:List az)(b:I'):List az:=b.map (fJ a)
def Sa (d:b<k.length)(f:k.length=a)(e:fJ c k[b]=gg):
  aJ c (k.take b)++List.replicate (a-b) gg=aJ c (k.take (b+1))++List.replicate (a-(b+1)) gg:=by
 rw[aaj d,aJ,aJ,show a-b=(a-(b+1))+1 by omega];grind
def TN (d:b<k.length)(f:k.length=a){v:az}(e:fJ c k[b]=v):
  (aJ c (k.take b)++List.replicate (a-b) gg).set b v=aJ c (k.take (b+1))++List.replicate (a-(b+1)) gg:=by
 rw[aaj d,aJ,aJ,aaR,show a-b=(a-(b+1))+1 by omega,acW];have g:((k.take b).map (fJ c)).length=b:=by grind
 simp_all
def jy {H:Heap}(P:Sl H e a b c)(y:Sl H f g h k)(hb:g*32<=140737488355328):
  ZB 164 [S e a b,S f g h] H fi (λ A' Y Z G=>Sl G A' Y Z (aJ c k)):=by
 refine ΦK 1 (aj [] [] [(3,[.slot 5 false [.row 35 133],ag 13])]) (λ b=>O g=O g/\0<=O g/\O g*O 32<=M/\∀c:G',c=dE [I 0,I 0,ΦT ⟨⟨[]⟩⟩] (N (O g))->W ZG H (λ d=>d (N (O g)) c 0 H) λ d h i j k l=>J (l<O g) (ΦX f l g (ΦE ZE i f (N l*1) (λ m=>let n:=ΦR (l+1)/\d j k (l+1) i/\h j k (l+1)<h j k l;J (0<=m) (J (m<O a) (ΦX e m a (ΦE ZF i e (N m*3) (λ o p q=>ΦY l j (N l*3+3<=L k/\ΦR (l+1)/\(let r:=av k (N l*3) [I o,I p,ΦT q];d j r (l+1) i/\h j r (l+1)<h j k l))))) n) n))) (U i k j (λ m n o=>b m j n o))) ?_;dsimp only[PL,aW,eQ,ΦE,L,M,N,ΦR,W,ΦX,ΦY,O,J];have F:=y.bn;have hl:=P.len;have Q:=y.len;refine⟨rfl,N' (T' ?_)⟩;rintro w rfl;refine⟨λ j w i G=>0<=i/\i<=g/\j=g/\Row G w (aJ c (k.take i.toNat)++List.replicate (g-i.toNat) gg),λ _ _ i=>g-i.toNat,P' ⟨by rfl,?_⟩,?_⟩
 .exact Row.gS (H:=H) (T:=az) (t:=gg) (show Rep.rel H _ _ from⟨rfl,by decide,by decide,by unfold str gg;decide⟩) g
 rintro H2 s j w i ⟨z,h1,rfl,u⟩;have D:=u.length;have p:(aJ c (k.take i.toNat)++List.replicate (j-i.toNat) gg).length=j:=by simp[aJ];omega
 have R:(i+1).toNat=i.toNat+1:=by omega
 refine ΦD (λ l=>?_) λ V=>?_
 .obtain⟨hi,hA,_,hc,⟨rfl,-⟩⟩:=y.at s z l;have skip:fJ c k[i.toNat]=gg->ae .i64 (i+1)/\(0<=i+1/\i+1<=j/\j=j/\Row H2 w (aJ _ (k.take (i+1).toNat)++List.replicate (j-(i+1).toNat) _))/\j-(i+1).toNat<j-i.toNat:=λ x=>
   (u' ⟨y' ⟨rfl,by rw[R,<-Sa _ Q x];grind⟩,by omega⟩)
  refine⟨hA,z,l,_,hc,λ q=>⟨λ o=>?_,λ o=>?_⟩,λ q=>?_⟩
  .have q:=aab q;have o:=aab o;obtain⟨hj,hB,_,X,x⟩:=P.at s q o;have r:=u.dV (i:=i.toNat) (by omega) x;obtain⟨rfl,q1,q2,q3⟩:=x;refine⟨hB,q,o,_,_,_,X,z,by omega,?_,by omega,y' ⟨rfl,?_⟩,by grind⟩
   .rw[D,p];show i.toNat*3+3<=j*3;omega
   .rw[TN hi Q (v:=c[k[i.toNat].toNat]) (by unfold fJ;grind),<-R]at r;omega
  .exact skip (by unfold fJ;grind)
  .exact skip (by unfold fJ;grind)
 .intro A2 c2 H3 l3 C E;have:aJ c (k.take i.toNat)++List.replicate (j-i.toNat) gg=aJ c k:=by
   rw[show j-i.toNat=0 by omega,aag (by omega)];simp
  rw[this]at u;exact u.sl l3 C (by grind) E hb F
def bX {a b:Int}:ZB 139 [.agg ⟨[Φi a,Φi b]⟩] d fg (λ r _=>r=dm ⟨a,b⟩):=by
 refine ΦK 0 bE (λ c=>J (0<=a) (J (a<b) (c (decide (b<=1099511627776)) d) (c false d)) (c false d)) ?_;dsimp only[J];grind[dm]
end
end Go.Vc
namespace Go.Vc
open Go Go.Sort Go.Shelf Go.Proofs Go.RowKit
section
section
variable {T:Type}
theorem VF {A B C:List T}{x y:T}{a b:Nat}(d:a=A.length)(f:b=A.length+1+B.length):∃(c:a<(A++x::(B++y::C)).length) (e:b<(A++x::(B++y::C)).length),
  ((A++x::(B++y::C)).set a (A++x::(B++y::C))[b]).set b (A++x::(B++y::C))[a]=A++y::(B++x::C):=by
 grind
def gZ (X p r q Y:List T)(i:Nat):List T:=X++(q.take i++p.drop i)++r++(p.take i++q.drop i)++Y
theorem zu (X p r q Y:List T):gZ X p r q Y 0=X++p++r++q++Y:=by rfl
theorem Cn {X p r q Y:List T}(h:p.length=q.length):gZ X p r q Y p.length=X++q++r++p++Y:=by
 unfold gZ;grind
theorem zv {X p r q Y:List T}{i:Nat}(h:p.length=q.length)(d:i<p.length){a b:Nat}(g:a=X.length+i)(l:b=X.length+p.length+r.length+i):
  ∃(k:a<(gZ X p r q Y i).length) (j:b<(gZ X p r q Y i).length),((gZ X p r q Y i).set a (gZ X p r q Y i)[b]).set b (gZ X p r q Y i)[a]=gZ X p r q Y (i+1):=by
 have c:i<q.length:=by omega
 have e:gZ X p r q Y i=(X++q.take i)++p[i]::((p.drop (i+1)++r++p.take i)++q[i]::(q.drop (i+1)++Y)):=by
  unfold gZ;rw[aas d,aas c];simp only[aat,aby,abO]
 have f:gZ X p r q Y (i+1)=(X++q.take i)++q[i]::((p.drop (i+1)++r++p.take i)++p[i]::(q.drop (i+1)++Y)):=by
  unfold gZ;rw[aaj d,aaj c];grind
 rw[f];simp only[e];exact VF (by grind) (by grind)
def cM (X q:List T)(x:T)(Y:List T)(t:Nat):List T:=X++(q.take t++x::q.drop t)++Y
theorem GO {X q:List T}{x:T}{Y:List T}{t:Nat}(c:t<q.length){a b:Nat}(d:a=X.length+t)(h:b=a+1):
  ∃(g:a<(cM X q x Y t).length) (f:b<(cM X q x Y t).length),((cM X q x Y t).set a (cM X q x Y t)[b]).set b (cM X q x Y t)[a]=cM X q x Y (t+1):=by
 have e:cM X q x Y t=(X++q.take t)++x::([]++q[t]::(q.drop (t+1)++Y)):=by
  unfold cM;rw[aas c];grind
 have i:cM X q x Y (t+1)=(X++q.take t)++q[t]::([]++x::(q.drop (t+1)++Y)):=by
  unfold cM;rw[aaj c];grind
 grind
theorem UO {l:List T}{a b:Nat}{x y:T}(h:a≠b):(l.set a x).set b y=(l.set b y).set a x:=List.set_comm _ _ h
theorem zw {X q:List T}{x:T}{Y:List T}{t:Nat}(i:0<t)(j:t<=q.length){a b:Nat}(g:a=X.length+t)(k:b+1=a):
  ∃(d:a<(cM X q x Y t).length) (f:b<(cM X q x Y t).length),((cM X q x Y t).set a (cM X q x Y t)[b]).set b (cM X q x Y t)[a]=cM X q x Y (t-1):=by
 have c:t-1<q.length:=by omega
 have e:cM X q x Y t=(X++q.take (t-1))++q[t-1]::([]++x::(q.drop t++Y)):=by
  have d:q.take t=q.take (t-1)++[q[t-1]]:=by
   have:=aaj c
   rwa[show t-1+1=t by omega]at this
  unfold cM;rw[d];simp only[aat,aby,abO]
 have h:cM X q x Y (t-1)=(X++q.take (t-1))++x::([]++q[t-1]::(q.drop t++Y)):=by
  have d:q.drop (t-1)=q[t-1]::q.drop t:=by
   have:=aas c;grind
  unfold cM;grind
 obtain⟨d,f,l⟩:=VF (A:=X++q.take (t-1)) (B:=[]) (C:=q.drop t++Y) (x:=q[t-1]) (y:=x) (a:=b) (b:=a) (by grind) (by grind);grind
theorem qV {X q:List T}{x:T}{Y:List T}(t:Nat):(cM X q x Y t).length=X.length+1+q.length+Y.length:=by
 simp[cM,aav];omega
theorem Co {X p r q Y:List T}(t:Nat):(gZ X p r q Y t).length=(X++p++r++q++Y).length:=by
 simp[gZ];omega
def kq (cf:T->T->Int)(l:List T):Prop:=l.Pairwise (λ a b=>¬cf b a<0)
variable {cf:T->T->Int}(hO:Sort.SWO (ltOf cf))
include hO
theorem TU (x:T):¬cf x x<0:=by have:=hO.irrefl x;simpa[ltOf]using this
theorem TW {x y z:T}(a:cf x y<0)(b:cf y z<0):cf x z<0:=by
 have:=hO.trans (x:=x) (y:=y) (z:=z);simpa[ltOf,a,b]using this
theorem DX {x y z:T}(a:¬cf x y<0)(b:¬cf y z<0):¬cf x z<0:=by
 have:=hO.ntrans (x:=x) (y:=y) (z:=z);simpa[ltOf,a,b]using this
theorem Jr {x y:T}(a:cf x y<0):¬cf y x<0:=λ b=>TU hO x (TW hO a b)
theorem xQ {l:List T}(c:kq cf l){x:T}{i:Nat}(e:i<l.length)(h:¬cf x l[i]<0):∀y∈l.take (i+1),¬cf x y<0:=by
 intro y b;obtain⟨j,d,rfl⟩:=aaM b;rw[acv];rcases abR j i with a | a
 .exact DX hO h (aaX.1 c j i _ _ a)
 grind
theorem GP {l:List T}(c:kq cf l){x:T}{i:Nat}(e:i<l.length)(h:¬cf l[i] x<0):∀y∈l.drop i,¬cf y x<0:=by
 intro y a;obtain⟨j,d,rfl⟩:=aaM a;rw[aey];rcases abl j with b | b
 .grind
 .exact DX hO (aaX.1 c i _ _ _ (by omega)) h
omit hO in
theorem Lf {a b:List T}(c:kq cf a)(d:kq cf b)(h:∀x∈a,∀y∈b,¬cf y x<0):kq cf (a++b):=aaW.2 ⟨c,d,h⟩
omit hO in
theorem mN {a b:List T}(h:kq cf (a++b)):kq cf a/\kq cf b/\∀x∈a,∀y∈b,¬cf y x<0:=aaW.1 h
theorem Lg {l:List T}(e:kq cf l){x:T}{i:Nat}(h:i<=l.length)(g:∀y∈l.take i,¬cf x y<0)(d:∀y∈l.drop i,¬cf y x<0):kq cf (l.take i++x::l.drop i):=by
 have:=e;rw[<-aaL i l]at this;obtain⟨a,b,c⟩:=mN this;refine Lf a (aaz.2 ⟨d,b⟩) λ y f z j=>?_;grind
theorem GQ {l:List T}(a:kq cf l){x:T}{i:Nat}(d:i<=l.length)(c:∀j,j+1=i->∀h:j<l.length,cf l[j] x<0)(b:∀h:i<l.length,¬cf l[i] x<0):kq cf (l.take i++x::l.drop i):=by
 refine Lg hO a d ?_ ?_
 .cases i with
  | zero=>simp
  | succ j=>exact xQ hO a (by omega) (Jr hO (c j rfl _))
 .rcases abR i _ with h | h
  .exact GP hO a h (b h)
  grind
theorem GR {l:List T}(a:kq cf l){x:T}{i:Nat}(d:i<=l.length)(c:∀j,j+1=i->∀h:j<l.length,¬cf x l[j]<0)(b:∀h:i<l.length,cf x l[i]<0):kq cf (l.take i++x::l.drop i):=by
 refine Lg hO a d ?_ ?_
 .cases i with
  | zero=>simp
  | succ j=>exact xQ hO a (by omega) (c j rfl _)
 .rcases abR i _ with h | h
  .exact GP hO a h (Jr hO (b h))
  grind
theorem ML {p q:List T}(e:kq cf p)(b:kq cf q){i j:Nat}(v:i<=p.length)(z:j<=q.length)
  (s:∀k,k+1=i->∀(r:k<p.length) (z:j<q.length),¬cf q[j] p[k]<0) (n:∀k,k+1=j->∀(v:i<p.length) (r:k<q.length),cf q[k] p[i]<0):
  ∀x∈p.take i++q.take j,∀y∈p.drop i++q.drop j,¬cf y x<0:=by
 have l:=e;have m:=b;rw[<-aaL i p]at l;rw[<-aaL j q]at m;obtain⟨-,-,A⟩:=mN l;obtain⟨-,-,B⟩:=mN m;intro x w y u;rcases aam.1 w with g | g<;>rcases aam.1 u with d | d
 .grind
 .cases i with
  | zero=>grind
  | succ k=>
   rcases abR j _ with h | h
   .have a:=s k rfl (by omega) h;have f:=xQ hO e _ a x g;obtain⟨t,o,rfl⟩:=aaM d;rw[aey];rcases abl t with c | c
    .simp_all
    .exact DX hO (aaX.1 b j _ h _ (by omega)) f
   grind
 .cases j with
  | zero=>grind
  | succ k=>
   rcases abR i _ with h | h
   .have a:=Jr hO (n k rfl h (by omega));have f:=xQ hO b _ a x g;obtain⟨t,o,rfl⟩:=aaM d;rw[aey];rcases abl t with c | c
    .simp_all
    .exact DX hO (aaX.1 e i _ h _ (by omega)) f
   grind
 grind
end
section
variable {T:Type}
def kT (l:List T)(i j:Nat):List T:=(l.take j).drop i
theorem jd {X w a Y:List T}(h:w.length=a.length){i j:Nat}(b:j<=X.length\/X.length+w.length<=i):kT (X++a++Y) i j=kT (X++w++Y) i j:=by
 apply abU;unfold kT;grind
theorem lN {X w Y:List T}{i j:Nat}(b:i=X.length)(a:j=X.length+w.length):kT (X++w++Y) i j=w:=by
 unfold kT;grind
theorem gE (l:List T){i j:Nat}(a:i<=j):l=l.take i++kT l i j++l.drop j:=by
 have b:l.take i=(l.take j).take i:=by grind
 unfold kT;simp_all
theorem dL (l:List T)(i:Nat){j:Nat}(a:j<=l.length):(kT l i j).length=j-i:=by
 unfold kT;grind
theorem xR (l:List T){i k j:Nat}(b:i<=k)(a:k<=j):kT l i j=kT l i k++kT l k j:=by
 have e:l.take k=(l.take j).take k:=by grind
 unfold kT;rw[e];generalize l.take j=m;have:=(aaL k m).symm;grind
theorem qW (l:List T){i j:Nat}(h:l.length<=i):kT l i j=[]:=by
 exact aaN (by grind)
theorem lO (l:List T)(i:Nat){j k:Nat}(a:l.length<=j)(b:l.length<=k):kT l i j=kT l i k:=by
 unfold kT;rw[aag a,aag b]
end
end
section
variable {a h i:Int}{b c:Heap}{d:Nat}{e:G'}
def pZ (c:0<=a)(b:a<=1000000000000000):IntKind.wrap .i64 (Int.fdiv a 2)=a/2:=by
 rw[Int.fdiv_eq_ediv_of_nonneg _ (by simp)];exact nB (by omega)
def Cp (P:Program)(f:FuncId)(ty:TypeId)(g:FuncId)(N:Nat)(s0:Value)(c e b:Int)(a:G'->Heap->Prop)(d:G')(H:Heap):Prop:=
 (decide (c<e)=true->(decide (e<b)=true->∃(i:G'->Heap->Prop),dJ P f [.slice none 0 0,.int .i64 c,.int .i64 e,.int .i64 b,.func (.func g) #[] #[]] 0 ty N d true H ⟨true,[]⟩ i/\∀(h:Heap),Heap.le H h->∀(j:G'),i j h->s0=s0/\N=N/\a j h)/\(decide (e<b)=false->s0=s0/\N=N/\a d H))/\(decide (c<e)=false->s0=s0/\N=N/\a d H)
def Cq (P:Program)(f:FuncId)(ty:TypeId)(g:FuncId)(N:Nat)(s0:Value)(a s c e b:Int)(d:G'->Heap->Prop)(h:G')(H:Heap):Prop:=
 (decide (a<s)=true->(decide (s<c)=true->∃(j:G'->Heap->Prop),dJ P f [.slice none 0 0,.int .i64 a,.int .i64 s,.int .i64 c,.func (.func g) #[] #[]] 0 ty N h true H ⟨true,[]⟩ j/\∀(i:Heap),Heap.le H i->∀(k:G'),j k i->Cp P f ty g N s0 c e b d k i)/\(decide (s<c)=false->Cp P f ty g N s0 c e b d h H))/\(decide (a<s)=false->Cp P f ty g N s0 c e b d h H)
def VG (P:Program)(f rot:FuncId)(ty:TypeId)(g:FuncId)(N:Nat)(s0:Value)(a s m d e b:Int)(c:G'->Heap->Prop)(h:G')(H:Heap):Prop:=
 (decide (s<m)=true->(decide (m<e)=true->∃(j:G'->Heap->Prop),dJ P rot [.slice none 0 0,.int .i64 s,.int .i64 m,.int .i64 e,.func (.func g) #[] #[]] 0 ty N h true H ⟨true,[]⟩ j/\∀(i:Heap),Heap.le H i->∀(k:G'),j k i->Cq P f ty g N s0 a s d e b c k i)/\(decide (m<e)=false->Cq P f ty g N s0 a s d e b c h H))/\(decide (s<m)=false->Cq P f ty g N s0 a s d e b c h H)
section
variable {P:Program}{f rot:FuncId}{ty:TypeId}{g:FuncId}{T:Type}[Rep T]{cf:T->T->Int}{N:Nat}{s0:Value}
def tZ (P:Program)(f:FuncId)(ty:TypeId)(g:FuncId){T:Type}[Rep T](cf:T->T->Int)(N:Nat)(e:Heap)(k:Nat):Prop:=
 ∀(H:Heap) (c:G') (X p q Y:List T) (a m b:Int),Heap.le e H->p.length+q.length<=k->Row H c (X++p++q++Y)->(X++p++q++Y).length=N->p≠[]->q≠[]->kq cf p->kq cf q->a=X.length->m=a+p.length->b=m+q.length->
  dJ P f [.slice none 0 0,.int .i64 a,.int .i64 m,.int .i64 b,.func (.func g) #[] #[]] 0 ty N c true H ⟨true,[]⟩ (λ d (h:Heap)=>∃w:List T,Row h d (X++w++Y)/\w.Perm (p++q)/\kq cf w)
def TX (P:Program)(rot:FuncId)(ty:TypeId)(g:FuncId)(T:Type)[Rep T](N:Nat)(e:Heap):Prop:=
 ∀(H:Heap) (c:G') (X p q Y:List T) (a m b:Int),Heap.le e H->Row H c (X++p++q++Y)->(X++p++q++Y).length=N->p≠[]->q≠[]->a=X.length->m=a+p.length->b=m+q.length->
  dJ P rot [.slice none 0 0,.int .i64 a,.int .i64 m,.int .i64 b,.func (.func g) #[] #[]] 0 ty N c true H ⟨true,[]⟩ (λ d (f:Heap)=>Row f d (X++q++p++Y))
def PC (L:tZ P f ty g cf N b d)(q:Heap.le b c){X w u v Y:List T}{W:List T}(F:Row c e (X++w++u++v++Y))(R:(X++w++u++v++Y).length=N)(B:u.length+v.length<=d)
  (G:kq cf u) (M:kq cf v) (D:kq cf w) (J:∀x∈w,∀y∈u++v,¬cf y x<0) (C:(w++(u++v)).Perm W) (s:a=X.length+w.length) (O:h=a+u.length) (A:i=h+v.length):
  Cp P f ty g N s0 a h i (λ e (Q:Heap)=>∃w:List T,Row Q e (X++w++Y)/\w.Perm W/\kq cf w) e c:=by
 have done:∀{o:Heap} {n:List _} {w2:List T},Row o n (X++w++w2++Y)->w2.Perm (u++v)->kq cf w2->∃w:List T,Row o n (X++w++Y)/\w.Perm W/\kq cf w:=by
  intro o n w2 r m I;refine⟨w++w2,by grind,(acD _ m).trans C,Lf D I λ x p y E=>J x p y (m.mem_iff.1 E)⟩
 have l:(u=[]\/v=[])->∃w:List T,Row c e (X++w++Y)/\w.Perm W/\kq cf w:=by
  intro j;refine done (w2:=u++v) (by grind) (acA _) ?_;grind
 refine⟨λ r=>⟨λ m=>?_,λ m=>⟨rfl,rfl,l (.inr (aal (by grind)))⟩⟩,λ r=>⟨rfl,rfl,l (.inl (aal (by grind)))⟩⟩;refine⟨_,L _ _ _ _ _ _ _ _ _ q B F R (by grind) (by grind) G M (by grind) O A,?_⟩;rintro o S n ⟨w2,z,K,t⟩;exact⟨rfl,rfl,done z K t⟩
def PD (G:tZ P f ty g cf N b d)(t:Heap.le b c){X o n p q Y:List T}{m j:Int}{W:List T}(hr:Row c e (X++o++n++p++q++Y))(hN:(X++o++n++p++q++Y).length=N)
  (C:o.length+n.length<=d) (B:p.length+q.length<=d) (Q:kq cf o) (I:kq cf n) (V:kq cf p) (M:kq cf q) (hx:∀x∈o++n,∀y∈p++q,¬cf y x<0) (K:((o++n)++(p++q)).Perm W)
  (ha:a=X.length) (Z:h=a+o.length) (u:i=h+n.length) (he:m=i+p.length) (J:j=m+q.length):
  Cq P f ty g N s0 a h i m j (λ e (v:Heap)=>∃w:List T,Row v e (X++w++Y)/\w.Perm W/\kq cf w) e c:=by
 have next:∀{z:Heap} {E:List _} {w:List T},Heap.le c z->Row z E (X++w++p++q++Y)->w.Perm (o++n)->kq cf w->Cp P f ty g N s0 i m j (λ e (v)=>∃w:List T,Row v e (X++w++Y)/\w.Perm W/\kq cf w) E z:=by
  intro z E w l1 O F R;have D:=F.length_eq;simp at D hN;refine PC G (aa t l1) O (by grind) B V M R (λ x A y U=>hx x (F.mem_iff.1 A) y U) ((ack _ F).trans K) (by omega) he J
 have r:(o=[]\/n=[])->Cp P f ty g N s0 i m j (λ e (v)=>∃w:List T,Row v e (X++w++Y)/\w.Perm W/\kq cf w) e c:=by
  intro l;refine next (w:=o++n) (ah c) (by grind) (acA _) ?_
  grind
 refine⟨λ S=>⟨λ L=>?_,λ L=>r (.inr (aal (by grind)))⟩,λ S=>r (.inl (aal (by grind)))⟩;refine⟨_,G _ _ _ _ _ _ _ _ (Y:=p++q++Y) t C (by grind) (by grind) (by grind) (by grind) Q I ha Z u,?_⟩;grind
def GS (hO:Sort.SWO (ltOf cf))(ih:tZ P f ty g cf N b d)(rc:TX P rot ty g T N b)(y:Heap.le b c){X p q Y:List T}{m r o l:Int}(hr:Row c e (X++p++q++Y))(hN:(X++p++q++Y).length=N)
  (K:kq cf p) (I:kq cf q) {i j:Nat} (L:i<=p.length) (M:j<=q.length) (S:i+j<=d) (Q:(p.length-i)+(q.length-j)<=d)
  (c1:∀t,t+1=i->∀(hk:t<p.length) (M:j<q.length),¬cf q[j] p[t]<0) (c2:∀t,t+1=j->∀(L:i<p.length) (hk:t<q.length),cf q[t] p[i]<0)
  (ha:a=X.length) (hm:m=a+p.length) (hb:l=m+q.length) (hs:h=a+i) (O:r=h+j) (he:o=m+j):
  VG P f rot ty g N s0 a h m r o l (λ e (z:Heap)=>∃w:List T,Row z e (X++w++Y)/\w.Perm (p++q)/\kq cf w) e c:=by
 have hx:=ML hO K I L M c1 c2;have G:=K;have J:=I;rw[<-aaL i p]at G;rw[<-aaL j q]at J;obtain⟨p1,V,-⟩:=mN G;obtain⟨q1,q2,-⟩:=mN J;have ep:p=p.take i++p.drop i:=(aaL i p).symm;have eq:q=q.take j++q.drop j:=(aaL j q).symm;have a4:(p.take i).length=i:=by rw[aaE];omega
 have U:(p.drop i).length=p.length-i:=abb ..;have W:(q.take j).length=j:=by rw[aaE];omega
 have R:(q.drop j).length=q.length-j:=abb ..;have Z:p.length=i+(p.drop i).length:=by omega
 have a5:q.length=j+(q.drop j).length:=by omega
 generalize a0:p.take i=A at*;generalize a2:p.drop i=v at*;generalize a1:q.take j=x at*;generalize a3:q.drop j=C at*;have hW:((A++x)++(v++C)).Perm (p++q):=by
  rw[ep,eq,aat,aat];refine acD _ ?_;rw[<-aat,<-aat];exact ack _ adm
 have D:Row c e (X++A++v++x++(C++Y)):=by
  grind
 have F:(X++A++v++x++(C++Y)).length=N:=by
  grind
 have next:∀{B:Heap} {E:List _},Heap.le c B->Row B E (X++A++x++v++(C++Y))->Cq P f ty g N s0 a h r o l (λ e (z)=>∃w:List T,Row z e (X++w++Y)/\w.Perm (p++q)/\kq cf w) E B:=by
  intro B E l1 r1;exact PD ih (aa y l1) (by grind) (by grind) (by omega) (by omega) p1 q1 V q2 hx hW ha (by omega) (by omega) (by omega) (by omega)
 have u:(v=[]\/x=[])->Cq P f ty g N s0 a h r o l (λ e (z)=>∃w:List T,Row z e (X++w++Y)/\w.Perm (p++q)/\kq cf w) e c:=by
  intro n;refine next (ah c) ?_
  grind
 refine⟨λ g1=>⟨λ g2=>?_,λ g2=>u (.inr (aal (by grind)))⟩,λ g1=>u (.inl (aal (by grind)))⟩;refine⟨_,rc _ _ _ _ _ _ _ _ _ y D F (by grind) (by grind) (by grind) (by omega) (by omega),?_⟩;grind
end
end
section
@[reducible] def ab5:List aI->(G'->Prop)->(G'->Prop)->Prop
 |[],p,k=>p []/\k []
 | .int q::l,p,k=>∃n:Int,ab5 l (λ x=>p (.int q n::x)) (λ x=>k (.int q n::x))
 | .sl::l,p,k=>∃(a:D') (n c:Nat),ab5 l (λ x=>p (.slice a n c::x)) (λ x=>k (.slice a n c::x))
 | _,_,_=>False
section
variable (T:Type)[Rep T](ls:List aI)
def ab2 (x:G')(i:Int)(K:G'->Prop):Prop:=ab5 ls (λ c=>win x (i.toNat*Rep.sz T) (Rep.sz T)=c) K
def ab4 (x:G')(a b:Int)(n:Nat)(K:G'->Prop)(c d:G'):Prop:=
 ΦY a n (a.toNat*Rep.sz T+Rep.sz T<=x.length/\ΦY b n (b.toNat*Rep.sz T+Rep.sz T<=(av x (a.toNat*Rep.sz T) c).length/\K (av (av x (a.toNat*Rep.sz T) c) (b.toNat*Rep.sz T) d)))
def hG (x:G')(a b:Int)(n:Nat)(e:G'->G'->Prop):Prop:=
 ΦY b n (ab2 T ls x b (λ c=>ΦY a n (ab2 T ls x a (e c)))/\ΦY a n (ab2 T ls x b (λ c=>ab2 T ls x a (e c))/\ab2 T ls x a (λ c=>ab2 T ls x b λ d=>e d c)))/\
 ΦY a n (ΦY b n (ab2 T ls x b (λ c=>ab2 T ls x a (e c))/\ab2 T ls x a (λ c=>ab2 T ls x b λ d=>e d c))/\ab2 T ls x a (λ c=>ΦY b n (ab2 T ls x b λ d=>e d c)))
def aa3 (x:Int)(K:Int->Prop):Prop:=∃g:Int,IntKind.wrap .u64 x=g/\(1:Int)=1/\∃h:Int,IntKind.wrap .i64 (Int.fdiv g 2)=h/\K h
def aa6 (x:G')(a b:Int)(n:Nat)(f:FuncId)(H:Heap)(K:Heap->Int->Prop):Prop:=
 hG T ls x b a n λ c d=>C gL f [.agg ⟨c⟩,.agg ⟨d⟩] H K
end
def aa7 (T:Type)[Rep T](ls:List aI)(ty:TypeId)(fr fm l:FuncId)(H:Heap)(b:Nat)(X:G')(k:G'->Heap->Prop)(a:Value)(n i m c p o:Int):Prop:=
 W [.int .i64,.int .i64] H (λ d=>d p o H) λ d e f g h=>J (g<h) (ΦR (g+h)/\aa3 (g+h) λ j=>ΦR (c+i-1-j)/\aa6 T ls X (c+i-1-j) j b l f λ x r=>V (r<0) (ΦR (j+1)/\d (j+1) h x/\e (j+1) h<e g h) (d g j x/\e g j<e g h))
  (ΦR (c+i-g)/\VG Tryz.prog fm fr ty l b a n g i c (c+i-g) m k X f)
structure ab6 (T:Type)[Rep T](ls:List aI)(ty:TypeId)(fi fs fr fm fb ff:FuncId):Prop where
 ld:∀{H:Heap} {w:G'} {t:T} {K:G'->Prop},Rep.rel H w t->K w->ab5 ls (λ c=>w=c) K
 ins:∀{H:Heap} {n i j:Nat} (_:i<=j) {xs:G'} {l:List T} (_:Row H xs l) (_:l.length=n) (_:j<=n) (_:n<=140737488355328) {g:FuncId} (_:fN Tryz.prog g) {cf:T->T->Int} (_:Sort.SWO (ltOf cf)) (_:jM Tryz.prog T H g cf),
  dJ Tryz.prog fi [.slice none 0 0,.int .i64 i,.int .i64 j,.func (.func g) #[] #[]] 0 ty n xs true H ⟨true,[]⟩
   (λ ys (H':Heap)=>∃m:List T,Row H' ys (l.take i++m++l.drop j)/\m.Perm ((l.take j).drop i)/\m.Pairwise (λ a b=>¬cf b a<0))
 sw:∀(H:Heap) (a b n:Int) (g:FuncId) (N:Nat) (X:G') (post:G'->Heap->Prop),(
  ∀c:Value,W [.row 0 0,.int .i64] H (λ d=>d N X 0 H) λ d e f g h i=>J (i<n) (ΦR (a+i)/\ΦR (b+i)/\ΦR (b+i)/\ΦR (a+i)/\hG T ls h (a+i) (b+i) g (ab4 T h (a+i) (b+i) g λ y=>ΦR (i+1)/\d g y (i+1) f/\e g y (i+1)<e g h i)) (c=c/\g=N/\post h f))->
  dJ Tryz.prog fs [.slice none 0 0,.int .i64 a,.int .i64 b,.int .i64 n,.func (.func g) #[] #[]] 0 ty N X true H ⟨true,[]⟩ post
 rot:∀(H:Heap) (a m b:Int) (cf:FuncId) (N:Nat) (X:G') (post:G'->Heap->Prop),(
  ∀c:Value,ΦR (m-a)/\ΦR (b-m)/\W [.row 0 0,.int .i64,.int .i64] H (λ d=>d N X (m-a) (b-m) H) λ d e f g h i j=>V (i=j)
   (J (j<i) (ΦR (m-i)/\ZZ ⟨true,[]⟩ fs [S none 0 0,I (m-i),I m,I j,.func (.func cf) ⟨[]⟩ ⟨[]⟩] 0 ty g h true f (λ k l=>ΦR (i-j)/\d g l (i-j) j k/\e g l (i-j) j<e g h i j))
    (ΦR (m-i)/\ΦR (m+j)/\ΦR (m+j-i)/\ZZ ⟨true,[]⟩ fs [S none 0 0,I (m-i),I (m+j-i),I i,.func (.func cf) ⟨[]⟩ ⟨[]⟩] 0 ty g h true f (λ k l=>ΦR (j-i)/\d g l i (j-i) k/\e g l i (j-i)<e g h i j)))
   (ΦR (m-i)/\ZZ ⟨true,[]⟩ fs [S none 0 0,I (m-i),I m,I i,.func (.func cf) ⟨[]⟩ ⟨[]⟩] 0 ty g h true f (λ k l=>c=c/\g=N/\post l k)))->
  dJ Tryz.prog fr [.slice none 0 0,.int .i64 a,.int .i64 m,.int .i64 b,.func (.func cf) #[] #[]] 0 ty N X true H ⟨true,[]⟩ post
 sym:∀(H:Heap) (p1 p2 p3:Int) (cf:FuncId) (N:Nat) (X:G') (post:G'->Heap->Prop),(
  ∀a:Value,ΦR (p2-p1)/\J (p2-p1=1)
   (W [.int .i64,.int .i64] H (λ b=>b p2 p3 H) λ b c d e f=>J (e<f) (ΦR (e+f)/\aa3 (e+f) λ h=>aa6 T ls X h p1 N cf d λ x r=>J (r<0) (ΦR (h+1)/\b (h+1) f x/\c (h+1) f<c e f) (b e h x/\c e h<c e f))
    (W [.row 0 0,.int .i64] d (λ g=>g N X p1 d) λ g h i j k l=>ΦR (e-1)/\J (l<e-1) (ΦR (l+1)/\ΦR (l+1)/\hG T ls k l (l+1) j (ab4 T k l (l+1) j λ y=>ΦR (l+1)/\g j y (l+1) i/\h j y (l+1)<h j k l)) (a=a/\j=N/\post k i)))
   (ΦR (p3-p2)/\J (p3-p2=1)
    (W [.int .i64,.int .i64] H (λ b=>b p1 p2 H) λ b c d e f=>J (e<f) (ΦR (e+f)/\aa3 (e+f) λ h=>aa6 T ls X p2 h N cf d λ x r=>V (r<0) (ΦR (h+1)/\b (h+1) f x/\c (h+1) f<c e f) (b e h x/\c e h<c e f))
     (W [.row 0 0,.int .i64] d (λ g=>g N X p2 d) λ g h i j k l=>J (e<l) (ΦR (l-1)/\ΦR (l-1)/\hG T ls k l (l-1) j (ab4 T k l (l-1) j λ y=>ΦR (l-1)/\g j y (l-1) i/\h j y (l-1)<h j k l)) (a=a/\j=N/\post k i)))
    (ΦR (p1+p3)/\aa3 (p1+p3) λ c=>ΦR (c+p2)/\
     J (c<p2) (ΦR (c+p2-p3)/\ΦR (c+p2-1)/\aa7 T ls ty fr fm cf H N X post a p1 p2 p3 c (c+p2-p3) c) (ΦR (c+p2-1)/\aa7 T ls ty fr fm cf H N X post a p1 p2 p3 c p1 p2))))->
  dJ Tryz.prog fm [.slice none 0 0,.int .i64 p1,.int .i64 p2,.int .i64 p3,.func (.func cf) #[] #[]] 0 ty N X true H ⟨true,[]⟩ post
 stb:∀(H:Heap) (n:Int) (cf:FuncId) (N:Nat) (X:G') (post:G'->Heap->Prop),(
  ∀a:Value,W [.row 0 0,.int .i64,.int .i64] H (λ b=>b N X 0 20 H) λ b c d e f g h=>J (h<=n) (ZZ ⟨true,[]⟩ fi [S none 0 0,I g,I h,.func (.func cf) ⟨[]⟩ ⟨[]⟩] 0 ty e f true d (λ i j=>ΦR (h+20)/\b e j h (h+20) i/\c e j h (h+20)<c e f g h))
   (ZZ ⟨true,[]⟩ fi [S none 0 0,I g,I n,.func (.func cf) ⟨[]⟩ ⟨[]⟩] 0 ty e f true d (λ i j=>W [.row 0 0,.int .i64] i (λ k=>k e j 20 i) λ k l m o p q=>J (q<n)
    (ΦR (2*q)/\W [.row 0 0,.int .i64,.int .i64] m (λ r=>r o p 0 (2*q) m) (λ r s t u v w x=>J (x<=n) (ΦR (w+q)/\ZZ ⟨true,[]⟩ fm [S none 0 0,I w,I (w+q),I x,.func (.func cf) ⟨[]⟩ ⟨[]⟩] 0 ty u v true t (λ y z=>ΦR (2*q)/\ΦR (x+2*q)/\r u z x (x+2*q) y/\s u z x (x+2*q)<s u v w x))
     (ΦR (w+q)/\J (w+q<n) (ZZ ⟨true,[]⟩ fm [S none 0 0,I w,I (w+q),I n,.func (.func cf) ⟨[]⟩ ⟨[]⟩] 0 ty u v true t (λ y z=>ΦR (q*2)/\k u z (q*2) y/\l u z (q*2)<l o p q)) (ΦR (q*2)/\k u v (q*2) t/\l u v (q*2)<l o p q)))) (a=a/\o=N/\post p m))))->
  dJ Tryz.prog fb [.slice none 0 0,.int .i64 n,.func (.func cf) #[] #[]] 0 ty N X true H ⟨true,[]⟩ post
 kq:∀(H:Heap) (cf:FuncId) (N:Nat) (X:G') (post:G'->Heap->Prop),(
  ∀a:Value,ZZ ⟨true,[]⟩ fb [S none 0 0,I (O N),.func (.func cf) ⟨[]⟩ ⟨[]⟩] 0 ty N X true H λ b c=>a=a/\N=N/\post c b)->
  dJ Tryz.prog ff [.slice none 0 0,.func (.func cf) #[] #[]] 0 ty N X true H ⟨true,[]⟩ post
theorem wA {T:Type}{x w b y m l:List T}(h:w.Perm b)(e:m=x++b++y)(a:m.Perm l):(x++w++y).Perm l:=by
 subst e;exact((h.append_left x).append_right y).trans a
theorem eB {x:Int}{K:Int->Prop}(b:0<=x)(a:x<=1000000000000000)(h:K (x/2)):aa3 x K:=⟨_,nB (by omega),rfl,_,pZ b a,h⟩
section
variable {T:Type}[Rep T]{ls:List aI}{ty:TypeId}{fi fs fr fm fb ff:FuncId}(S:ab6 T ls ty fi fs fr fm fb ff)
include S
theorem aa4 {H:Heap}{x:G'}{l:List T}{a b:Int}{n:Nat}{W:G'->G'->Prop}(p:Row H x l)(s:l.length=n)(k:0<=a)(m:a<n)(j:0<=b)(g:b<n)
  (h:∀c d,Rep.rel H c (l[b.toNat]'(by omega))->Rep.rel H d (l[a.toNat]'(by omega))->W c d):hG T ls x a b n W:=by
 have q:=p.dO (i:=a.toNat) (by omega);have o:=p.dO (i:=b.toNat) (by omega);have w:=h _ _ o q;have e:∀{K:List _->Prop},K _->ab2 T _ x a K:=S.ld q;have f:∀{K:List _->Prop},K _->ab2 T _ x b K:=S.ld o;have r:ab2 T _ x b (λ c=>ab2 T _ x a _)/\ab2 T _ x a (λ c=>ab2 T _ x b λ d=>W d c):=⟨f (e w),e (f w)⟩;exact⟨⟨j,g,f ⟨k,m,e w⟩,k,m,r⟩,k,m,⟨j,g,r⟩,e ⟨j,g,f w⟩⟩
theorem aa1 {H:Heap}{x:G'}{l:List T}{a b:Int}{n:Nat}{K:G'->Prop}(e:Row H x l)(q:l.length=n)(k:0<=a)(m:a<n)(g:0<=b)(f:b<n)
  (h:∀y,Row H y ((l.set a.toNat (l[b.toNat]'(by omega))).set b.toNat (l[a.toNat]'(by omega)))->K y):hG T ls x a b n (ab4 T x a b n K):=by
 refine aa4 S e q k m g f λ c d s p=>?_;have j:=e.dV (i:=a.toNat) (by omega) s;have r:=e.length;have o:=j.length;rw[abd]at o;refine⟨k,m,?_,g,f,?_,h _ (j.dV (by grind) p)⟩
 .rw[r,<-abf];exact aaC _ (by omega)
 .rw[o,<-abf];exact aaC _ (by omega)
theorem wB {j H:Heap}{x:G'}{l:List T}{a b:Int}{n:Nat}{g:FuncId}{o:T->T->Int}{K:Heap->Int->Prop}(C:jM Tryz.prog T j g o)(f:Heap.le j H)(w:Row H x l)(v:l.length=n)(z:0<=a)(A:a<n)(u:0<=b)(p:b<n)
  {s t:T} (y:l[a.toNat]'(by omega)=s) (q:l[b.toNat]'(by omega)=t) (h:∀i,Heap.le H i->K i (o s t)):aa6 T ls x a b n g H K:=by
 refine aa4 S w v u p z A λ c d m k=>?_;rw[y]at m;rw[q]at k;exact⟨_,C _ _ _ _ _ f m k,λ i B r e=>e▸h _ B⟩
theorem bA {H:Heap}{n:Nat}{j:G'}{X p r q Y:List T}(F:Row H j (X++p++r++q++Y))(o:(X++p++r++q++Y).length=n)(K:n<=140737488355328)(c:p.length=q.length){a b k:Int}(Q:a=X.length)(t:b=a+p.length+r.length)(w:k=p.length){g:FuncId}:
  ZC fs [.slice none 0 0,Φi a,Φi b,Φi k,.func (.func g) #[] #[]] 0 ty n j true H ⟨true,[]⟩ (λ e (h:Heap)=>Row h e (X++q++r++p++Y)):=by
 refine S.sw H a b k g n _ _ ?_;intro z;have A:=Co (X:=X) (p:=p) (r:=r) (q:=q) (Y:=Y);have f:=o;simp only[aae]at f;refine⟨λ u e i h=>u=n/\0<=i/\i<=k/\Row h e (gZ X p r q Y i.toNat),λ _ _ i=>(k-i).toNat,⟨rfl,N' (u' (by rw[show(0:Int).toNat=0 from rfl,zu];grind))⟩,?_⟩;rintro v B u e i ⟨rfl,D,P,d⟩;refine ΦD (λ m=>?_) λ l=>?_
 .obtain⟨x,s,G⟩:=zv (X:=X) (r:=r) (Y:=Y) (i:=i.toNat) c (by omega) (a:=(a+i).toNat) (b:=(b+i).toNat) (by omega) (by omega);refine M' (aa1 S d (by grind) (by omega) (by omega) (by omega) (by omega) λ y E=>?_);grind
 .rw[show i.toNat=p.length by omega,Cn c]at d;grind
theorem aa8 {H:Heap}{n:Nat}{x:G'}{X p q Y:List T}(hr:Row H x (X++p++q++Y))(hl:(X++p++q++Y).length=n)(hn:n<=140737488355328)(R:p≠[])(P:q≠[]){a m b:Int}(ha:a=X.length)(hm:m=a+p.length)(hb:b=m+q.length){g:FuncId}:
  ZC fr [.slice none 0 0,Φi a,Φi m,Φi b,.func (.func g) #[] #[]] 0 ty n x true H ⟨true,[]⟩ (λ l (z:Heap)=>Row z l (X++q++p++Y)):=by
 refine S.rot H a m b g n x _ ?_;dsimp only[W,aW,PL,J,V,ΦR,ZZ,aR,aQ];intro s0;have w:=hl;simp only[aae]at w;refine⟨by omega,by omega,λ u l i j z=>u=n/\∃e c d f:List T,Row z l (e++c++d++f)/\m=e.length+c.length/\i=c.length/\j=d.length/\c≠[]/\d≠[]/\X++q++p++Y=e++d++c++f,
  λ _ _ i j=>(i+j).toNat,⟨rfl,X,p,q,Y,hr,J' ⟨R,P,rfl⟩⟩,?_⟩
 rintro H3 l3 u l i j ⟨hu,e,c,d,f,a0,F,hi,hj,v,y,he⟩;have K:=aaP.2 v;have a1:=aaP.2 y;have k:=aak List.length he;simp only[aae]at k;have Z:(e++c++d++f).length=u:=by simp only[aae];omega
 refine⟨λ h=>?_,λ t=>?_⟩
 .have h:¬i=j:=by simpa using h
  refine ΦD (λ E=>?_) λ D=>?_
  .have B:c=c.take j.toNat++c.drop j.toNat:=(aaL _ _).symm;have o:(c.take j.toNat).length=d.length:=by rw[aaE];omega
   have s:(c.drop j.toNat).length=c.length-d.length:=by rw[abb];omega
   generalize c.take j.toNat=p1 at B o;generalize c.drop j.toNat=G at B s;refine u' ⟨_,bA S (X:=e) (p:=p1) (r:=G) (q:=d) (Y:=f) (by grind) (by grind) (by omega) o (by omega) (by omega) (by omega),?_⟩;grind
  .have A:d=d.take (j-i).toNat++d.drop _:=(aaL _ _).symm;have o:(d.take (j-i).toNat).length=d.length-c.length:=by grind
   have s:(d.drop (j-i).toNat).length=c.length:=by grind
   generalize d.take _=Q at A o;generalize d.drop _=q2 at A s;refine J' ⟨_,bA S (X:=e) (p:=c) (r:=Q) (q:=q2) (Y:=f) (by grind) (by grind) (by omega) s.symm (by omega) (by omega) (by omega),?_⟩;grind
 .have t:i=j:=by grind
  refine u' ⟨_,bA S (X:=e) (p:=c) (r:=[]) (q:=d) (Y:=f) (by grind) (by grind) (by omega) (by omega) (by omega) (by grind) (by omega),?_⟩;grind
theorem aa5 {g:FuncId}{z:T->T->Int}(hO:Sort.SWO (ltOf z)){n:Nat}(hn:n<=100000000000000){H0:Heap}(hc:jM Tryz.prog T H0 g z){k:Nat}(ih:tZ Tryz.prog fm ty g z n H0 k):
  tZ Tryz.prog fm ty g z n H0 (k+1):=by
 have rc:TX Tryz.prog fr ty g T n H0:=λ _ _ _ _ _ _ _ _ _ A d R hp hq ha hm hb=>aa8 S d R (by omega) hp hq ha hm hb;intro H xs X p q Y a m b A hk d R hp hq sp sq ha hm hb;have b4:=aaP.2 hp;have b6:=aaP.2 hq;have K:=R;simp only[aae]at K;refine S.sym H a m b g n xs _ ?_;dsimp only[W,aW,PL,J,V,ΦR,ZZ,aR,aQ];intro s0;refine u' ⟨λ h1=>?_,λ h1=>u' ⟨λ h2=>?_,λ h2=>?_⟩⟩
 .have h1:=aab h1;obtain⟨x,rfl⟩:∃x,p=[x]:=adg.1 (by omega);refine⟨λ i j _=>m<=i/\i<=j/\j<=b/\(∀t,t+1=(i-m).toNat->∀h:t<q.length,z q[t] x<0)/\(∀h:(j-m).toNat<q.length,¬z q[(j-m).toNat] x<0),λ i j=>(j-i).toNat,J' ⟨λ t ht=>by omega,λ h=>by omega⟩,?_⟩;rintro H4 l i j ⟨i0,i1,i2,i3,i4⟩;refine ΦD (λ D=>?_) λ E=>?_
  .refine u' (eB (by omega) (by omega) ?_);have o:i<=(i+j)/2:=by omega
   have B:(i+j)/2<j:=by omega
   generalize (i+j)/2=h at o B;have a0:(h-m).toNat<q.length:=by omega
   refine wB S hc (aa A l) (d.mono l) R (by omega) (by omega) (by omega) (by omega) (s:=q[(h-m).toNat]) (t:=x) ?_ ?_ λ H5 l5=>?_
   .have e:h.toNat=(X++[x]).length+(h-m).toNat:=by simp only[aae,aaU]at hm⊢;omega
    simp only[e];rw[aaI (by simp only[aae]at*;omega),abp (by omega)];simp
   .have:a.toNat=X.length:=by omega
    simp[this]
   .refine⟨λ d=>u' ⟨J' ⟨λ t ht a5=>?_,i4⟩,by dsimp only;omega⟩,λ d=>⟨(J' ⟨i3,λ _=>aac d⟩),by dsimp only;omega⟩⟩;have:t=(h-m).toNat:=by omega
    subst this;exact aab d
  .have F:i=j:=by omega
   subst F;have P:(i-m).toNat<=q.length:=by omega
   have v:=GQ hO sq P i3 i4;have G:=qV (X:=X) (q:=q) (x:=x) (Y:=Y);refine⟨λ u Q k H'=>u=n/\a<=k/\k<=i-1/\Row H' Q (cM X q x Y (k-a).toNat),λ _ _ k=>(i-k).toNat,⟨rfl,y' (by rw[show(a-a).toNat=0 by omega];simpa[cM]using d.mono l)⟩,?_⟩;rintro a2 a1 u Q k ⟨rfl,k0,k1,f⟩;simp only[aaU]at hm K;refine u' (ΦD (λ D=>?_) λ E=>?_)
   .obtain⟨a8,h2,h3⟩:=GO (X:=X) (q:=q) (x:=x) (Y:=Y) (t:=(k-a).toNat) (by omega) (a:=k.toNat) (b:=(k+1).toNat) (by omega) (by omega);refine y' (aa1 S f (by rw[G];omega) (by omega) (by omega) (by omega) (by omega) λ y hy=>?_);rw[h3]at hy;exact u' ⟨⟨rfl,y' (by rwa[show(k+1-a).toNat=(k-a).toNat+1 by omega])⟩,by dsimp only;omega⟩
   .have e:(k-a).toNat=(i-m).toNat:=by omega
    rw[e]at f;refine⟨rfl,rfl,_,f,?_,v⟩;have:=adT (a:=x) (l₁:=q.take (i-m).toNat) (l₂:=q.drop (i-m).toNat);rw[aaL]at this;exact this
 .have h2:=aab h2;obtain⟨x,rfl⟩:∃x,q=[x]:=adg.1 (by omega);refine⟨λ i j _=>a<=i/\i<=j/\j<=m/\(∀t,t+1=(i-a).toNat->∀h:t<p.length,¬z x p[t]<0)/\(∀h:(j-a).toNat<p.length,z x p[(j-a).toNat]<0),λ i j=>(j-i).toNat,J' ⟨λ t ht=>by omega,λ h=>by omega⟩,?_⟩;rintro H4 l i j ⟨i0,i1,i2,i3,i4⟩;refine ΦD (λ D=>?_) λ E=>?_
  .refine u' (eB (by omega) (by omega) ?_);have o:i<=(i+j)/2:=by omega
   have B:(i+j)/2<j:=by omega
   generalize (i+j)/2=h at o B;have a0:(h-a).toNat<p.length:=by omega
   refine wB S hc (aa A l) (d.mono l) R (by omega) (by omega) (by omega) (by omega) (s:=x) (t:=p[(h-a).toNat]) ?_ ?_ λ H5 l5=>?_
   .have:m.toNat=(X++p).length:=by simp only[aae];omega
    simp only[this];rw[aaI (by simp),abp (by omega)];simp
   .have e:h.toNat=X.length+(h-a).toNat:=by omega
    simp only[e];rw[aaI (by simp only[aae]at*;omega),aaI (by simp only[aae]at*;omega),abp (by omega)];simp
   .refine⟨λ d=>u' ⟨J' ⟨λ t ht a5=>?_,i4⟩,by dsimp only;omega⟩,λ d=>⟨(J' ⟨i3,λ _=>by simpa using d⟩),by dsimp only;omega⟩⟩;have:t=(h-a).toNat:=by omega
    subst this;simpa using d
  .have F:i=j:=by omega
   subst F;have P:(i-a).toNat<=p.length:=by omega
   have v:=GR hO sp P i3 i4;have G:=qV (X:=X) (q:=p) (x:=x) (Y:=Y);simp only[aaU]at K;refine⟨λ u Q k H'=>u=n/\i<=k/\k<=m/\Row H' Q (cM X p x Y (k-a).toNat),λ _ _ k=>(k-i).toNat,⟨rfl,y' (by rw[show(m-a).toNat=p.length by omega];simpa[cM]using d.mono l)⟩,?_⟩;rintro a2 a1 u Q k ⟨rfl,k0,k1,f⟩;refine ΦD (λ D=>?_) λ E=>?_
   .obtain⟨a8,b5,h3⟩:=zw (X:=X) (q:=p) (x:=x) (Y:=Y) (t:=(k-a).toNat) (by omega) (by omega) (a:=k.toNat) (b:=(k-1).toNat) (by omega) (by omega);refine y' (aa1 S f (by rw[G];omega) (by omega) (by omega) (by omega) (by omega) λ y hy=>?_);rw[h3]at hy;exact u' ⟨⟨rfl,y' (by rwa[show(k-1-a).toNat=(k-a).toNat-1 by omega])⟩,by dsimp only;omega⟩
   .have a3:k=i:=by omega
    subst a3;refine⟨rfl,rfl,_,f,?_,v⟩;have:=adT (a:=x) (l₁:=p.take (k-a).toNat) (l₂:=p.drop (k-a).toNat);rw[aaL]at this;exact this.trans (adm (l₁:=[x]) (l₂:=p))
 .have h1:=aac h1;have h2:=aac h2;refine u' (eB (by omega) (by omega) ?_);generalize a9:(a+b)/2=c;have b7:∀Z hi:Int,(Z=c+m-b/\hi=c/\c<m)\/(Z=a/\hi=m/\m<=c)->aa7 T ls ty fr fm g H n xs (λ Q (H':Heap)=>∃w:List T,Row H' Q (X++w++Y)/\w.Perm (p++q)/\kq z w) s0 a m b c Z hi:=by
   intro Z hi a6;dsimp only[aa7,W,aW,PL,J,V,ΦR];refine⟨λ s r _=>Z<=s/\s<=r/\r<=hi/\(Z<s->∀(g1:(s-1-a).toNat<p.length) (g2:(c-s).toNat<q.length),¬z q[(c-s).toNat] p[(s-1-a).toNat]<0)/\(r<hi->∀(g1:(r-a).toNat<p.length) (g2:(c-1-r).toNat<q.length),z q[(c-1-r).toNat] p[(r-a).toNat]<0),λ s r=>(r-s).toNat,N' ⟨by omega,by simp,λ h=>by omega,λ h=>by omega⟩,?_⟩;rintro H4 l s r ⟨b3,s1,s2,s3,s4⟩;refine ΦD (λ D=>?_) λ E=>?_
   .refine u' (eB (by omega) (by omega) ?_);have o:s<=(s+r)/2:=by omega
    have B:(s+r)/2<r:=by omega
    generalize (s+r)/2=h at o B;have b0:(c-1-h).toNat<q.length:=by omega
    have a0:(h-a).toNat<p.length:=by omega
    refine u' (wB S hc (aa A l) (d.mono l) R (by omega) (by omega) (by omega) (by omega) (s:=q[(c-1-h).toNat]) (t:=p[(h-a).toNat]) ?_ ?_ λ H5 l5=>?_)
    .have e:(c+m-1-h).toNat=(X++p).length+(c-1-h).toNat:=by simp;omega
     simp only[e];rw[aaI (by simp;omega),abp (by simp)];simp
    .have e:h.toNat=X.length+(h-a).toNat:=by omega
     simp only[e];rw[aaI (by simp;omega),aaI (by simp;omega)];simp
    .refine⟨λ d=>u' ⟨J' ⟨λ _ g1 g2=>?_,s4⟩,by dsimp only;omega⟩,λ d=>⟨(J' ⟨s3,λ _ g1 g2=>by simp_all⟩),by dsimp only;omega⟩⟩;have e2:(c-(h+1)).toNat=(c-1-h).toNat:=by omega
     simp_all
   .have a4:s=r:=by omega
    subst a4;refine u' ?_;refine GS (i:=(s-a).toNat) (j:=(c-s).toNat) hO ih rc (aa A l) (d.mono l) R sp sq (by omega) (by omega) (by omega) (by omega) (λ t ht a7 b2=>?_) (λ t ht b1 a7=>?_) ha hm hb (by omega) (by omega) (by omega)
    .have:t=(s-1-a).toNat:=by omega
     subst this;exact s3 (by omega) _ _
    .have:t=(c-1-s).toNat:=by omega
     subst this;exact s4 (by omega) _ _
  grind
theorem bB {g:FuncId}{c:T->T->Int}(e:Sort.SWO (ltOf c)){n:Nat}(f:n<=100000000000000){d:Heap}(h:jM Tryz.prog T d g c):
  ∀k:Nat,tZ Tryz.prog fm ty g c n d k
 | 0=>by
  intro H s X p q Y a m b i j r t o l;grind
 | k+1=>aa5 S e f h (bB e f h k)
theorem aa2 {H:Heap}{n:Nat}{xs:G'}{l:List T}(hr:Row H xs l)(hl:l.length=n)(hn:n<=10000000000000){g:FuncId}(hg:fN Tryz.prog g){cf:T->T->Int}(hO:Sort.SWO (ltOf cf))(hc:jM Tryz.prog T H g cf):
  ZC fb [.slice none 0 0,Φi n,.func (.func g) #[] #[]] 0 ty n xs true H ⟨true,[]⟩
   (λ ys (K:Heap)=>∃m:List T,Row K ys m/\m.Perm l/\m.Pairwise (λ a b=>¬cf b a<0)):=by
 refine S.stb H n g n xs _ ?_;dsimp only[W,aW,PL,J,ΦR,ZZ,aR,aQ];intro s0;refine⟨λ u ys a b K=>u=n/\0<=a/\a<=n/\b=a+20/\20∣a.toNat/\∃m:List T,Row K ys m/\m.Perm l/\∀i:Nat,20∣i->i+20<=a.toNat->kq cf (kT m i (i+20)),λ _ _ a _=>(n-a).toNat,
  ⟨rfl,J' ⟨⟨0,rfl⟩,l,hr,acA _,λ i _ h=>by simp at h⟩⟩,?_⟩
 rintro H3 l3 u ys a b ⟨rfl,a0,a1,rfl,Y,m,R,E,P⟩;have F:m.length=u:=by rw[E.length_eq,hl]
 obtain⟨A,rfl⟩:=abP a0;simp only[aaV]at Y P;refine ΦD (λ b5=>?_) λ b6=>?_
 .have a9:((A:Int)+20)=((A+20:Nat):Int):=by omega
  rw[a9];refine⟨_,S.ins (i:=A) (j:=A+20) (by omega) R F (by omega) (by omega) hg hO (λ K vs us s t h1 z h3=>hc K vs us s t (aa l3 h1) z h3),?_⟩;rintro c8 d1 c3 ⟨w,h1,z,h3⟩;have z:w.Perm (kT m A (A+20)):=z;have Q:=dL m A (j:=A+20) (by omega);have Z:=z.length_eq;have q:(m.take A).length=A:=by rw[aaE];omega
  have p:=gE m (i:=A) (j:=A+20) (by omega);refine u' ⟨⟨rfl,J' ⟨by simp only[aaV];omega,_,h1,?_,λ i D a4=>?_⟩⟩,by dsimp only;omega⟩
  .have:(m.take A++w++m.drop (A+20)).Perm (m.take A++kT m A (A+20)++m.drop (A+20)):=ack _ (acD _ z);rw[<-p]at this;exact this.trans E
  .simp only[aaV]at a4;rcases abR i A with d | d
   .rw[jd (w:=kT m A (A+20)) (by omega) (.inl (by omega)),<-p];exact P i D (by omega)
   .have:i=A:=by omega
    subst this;rw[lN q.symm (by omega)];exact h3
 refine⟨_,S.ins (i:=A) (j:=u) (by omega) R F (by omega) (by omega) hg hO (λ K vs us s t h1 z h3=>hc K vs us s t (aa l3 h1) z h3),?_⟩;rintro c4 b7 b9 ⟨w,h1,z,h3⟩;have z:w.Perm (kT m A u):=z;have Q:=dL m A (j:=u) (by omega);have Z:=z.length_eq;have q:(m.take A).length=A:=by rw[aaE];omega
 have p:=gE m (i:=A) (j:=u) (by omega);have b4:(m.drop u).length=0:=by grind
 have o:(m.take A++w++m.drop u).Perm l:=by
  exact wA z p E
 have a3:∀i:Nat,20∣i->kq cf (kT (m.take A++w++m.drop u) i (i+20)):=by
  intro i D;have a5:=o.length_eq;rcases abV i A with d | d | d
  .rw[jd (w:=kT m A u) (by omega) (.inl (by omega))];grind
  .subst d;rw[lO _ i (j:=i+20) (k:=u) (by omega) (by omega),lN q.symm (by omega)];exact h3
  .rw[qW _ (by omega)];exact List.Pairwise.nil
 generalize m.take A++w++m.drop u=m2 at h1 o a3;clear P E R h3 z Z Q p q b4 F;refine⟨λ v ys bs K=>v=u/\1<=bs/\bs<=2*u+20/\∃m:List _,Row K ys m/\m.Perm l/\∀i:Nat,bs.toNat∣i->kq _ (kT m i (i+bs.toNat)),λ _ _ bs=>(u-bs).toNat,⟨rfl,by simp,by omega,m2,h1,o,a3⟩,?_⟩;clear h1 o a3;rintro c5 a8 v zs bs ⟨rfl,b0,b1,m,R,E,P⟩;have F:m.length=v:=by rw[E.length_eq,hl]
 obtain⟨B,rfl⟩:=abP (show 0<=bs by omega);simp at P;refine ΦD (λ c6=>?_) λ d0=>?_
 .refine⟨by omega,λ u ys a b K=>u=v/\0<=a/\a<=v/\b=a+2*B/\(2*B)∣a.toNat/\∃m:List _,Row K ys m/\m.Perm l/\(∀i:Nat,(2*B)∣i->i+2*B<=a.toNat->kq cf (kT m i (i+2*B)))/\(∀i:Nat,B∣i->a.toNat<=i->kq _ (kT m i (i+B))),
   λ _ _ a _=>(v-a).toNat,⟨rfl,Q' ⟨⟨0,by rfl⟩,m,R,E,λ i _ h=>by grind,λ i D _=>P i D⟩⟩,?_⟩
  clear P R E F;rintro c7 b2 u ys a b ⟨rfl,a0,a1,rfl,Y,m,R,E,P,ht⟩;have F:m.length=u:=by rw[E.length_eq,hl]
  obtain⟨A,rfl⟩:=abP a0;simp at Y P ht;have X:=Nat.dvd_trans ⟨2,adX 2 B⟩ Y;have r:∀{i j:Nat},(2*B)∣i->(2*B)∣j->i<j->i+2*B<=j:=by
   rintro i j ⟨x,rfl⟩ ⟨y,rfl⟩ h;have b3:=Nat.lt_of_mul_lt_mul_left h;calc 2*B*x+2*B=2*B*(x+1):=(Nat.mul_succ _ _).symm
    _<=2*B*y:=acx _ b3
  have a2:=aa l3 (aa b7 (aa a8 b2));have q:(m.take A).length=A:=by grind
  refine ΦD (λ b5=>?_) λ b6=>?_
  .have a7:=dL m A (j:=A+B) (by omega);have a6:=dL m (A+B) (j:=A+2*B) (by omega);have p:=gE m (i:=A) (j:=A+2*B) (by simp);have G:=xR m (i:=A) (k:=A+B) (j:=A+2*B) (by simp) (by omega);have f:=ht A X (aaB _);have c:=ht _ ((acK X).2 (adE B)) (by simp);rw[show A+B+B=A+2*B by omega]at c;refine u' ⟨_,bB S hO (by omega) hc u _ _ (m.take A) _ _ (m.drop (A+2*B)) _ _ _ a2 (by omega) ?_ ?_ ?_ ?_ f c (by grind) (by grind) (by grind),?_⟩
   .grind
   .grind
   .grind
   .grind
   rintro d2 d4 b8 ⟨w,r1,r2,r3⟩;rw[<-G]at r2;have Z:=r2.length_eq;have Q:=dL m A (j:=A+2*B) (by omega);have o:=by
    exact wA r2 p E
   refine y' ⟨⟨rfl,y' ⟨by rfl,by exact(acK Y).2 (adE _),_,r1,o,λ i D a4=>?_,λ i D a4=>?_⟩⟩,by grind⟩
   .rcases abR i A with d | d
    .have:=r D Y d;rw[jd (w:=kT m A (A+2*B)) (by omega) (.inl (by omega))];grind
    .have:i=A:=by omega
     subst this;rw[lN q.symm (by omega)];grind
   .rw[jd (w:=kT m A (A+2*B)) (by omega) (.inr (by omega))];grind
  .have e2:((B:Int)*2).toNat=2*B:=by omega
   refine u' (ΦD (λ c2=>?_) λ c1=>?_)
   .have a7:=dL m A (j:=A+B) (by omega);have a6:=dL m (A+B) (j:=u) (by omega);have p:=gE m (i:=A) (j:=u) (by omega);have G:=xR m (i:=A) (k:=A+B) (j:=u) (by simp) (by omega);have f:=ht A X (aaB _);have c:=ht _ ((acK X).2 (adE B)) (by simp);rw[lO _ _ (j:=A+B+B) (k:=u) (by omega) (by omega)]at c;refine⟨_,bB S hO (by omega) hc u _ _ (m.take A) _ _ (m.drop u) _ _ _ a2 (by omega) ?_ ?_ ?_ ?_ f c (by grind) (by grind) (by grind),?_⟩
    .grind
    .grind
    .grind
    .grind
    rintro c9 d3 c0 ⟨w,r1,r2,r3⟩;rw[<-G]at r2;have Z:=r2.length_eq;have Q:=dL m A (j:=u) (by omega);have o:=by
     exact wA r2 p E
    have a5:=o.length_eq;refine u' ⟨⟨rfl,y' ⟨_,r1,o,λ i D=>?_⟩⟩,by grind⟩;rw[e2]at D⊢;rcases abV i A with d | d | d
    .have:=r D Y d;rw[jd (w:=kT m A u) (by omega) (.inl (by omega))];grind
    .subst d;rw[lO _ i (j:=i+2*B) (k:=u) (by omega) (by omega),lN q.symm (by omega)];grind
    .have:=r Y D d;rw[qW _ (by omega)];exact List.Pairwise.nil
   .refine u' ⟨⟨rfl,y' ⟨m,R,E,λ i D=>?_⟩⟩,by grind⟩;rw[e2]at D⊢;rcases abV i A with d | d | d
    .grind
    .rw[lO _ i (j:=i+2*B) (k:=i+B) (by omega) (by omega)];grind
    .have:=r Y D d;rw[qW _ (by omega)];exact List.Pairwise.nil
 .refine⟨rfl,rfl,m,R,E,?_⟩;have h0:=P 0 ⟨0,by rfl⟩;have e:kT m 0 (0+B)=m:=by
   unfold kT;rw[abN,aag (by omega)]
  rw[e]at h0;exact h0
theorem aa0 {H:Heap}{n:Nat}{d:G'}{l:List T}(k:Row H d l)(j:l.length=n)(o:n<=10000000000000){g:FuncId}(f:fN Tryz.prog g){c:T->T->Int}(i:Sort.SWO (ltOf c))(q:jM Tryz.prog T H g c):
  ZC ff [.slice none 0 0,.func (.func g) #[] #[]] 0 ty n d true H ⟨true,[]⟩
   (λ e (p:Heap)=>∃m:List T,Row p e m/\m.Perm l/\m.Pairwise (λ a b=>¬c b a<0)):=by
 refine S.kq H g n _ _ ?_;intro r;exact⟨_,aa2 S k j o f i q,λ s t e h=>⟨rfl,rfl,h⟩⟩
end
end
end Go.Vc
namespace Go.Vc
open Go Go.Shelf Go.Proofs
def DY {A T:Type}{g:A->A->Int}(h:gM g)(a:T->A):Sort.SWO (ltOf λ x y:T=>g (a x) (a y))where
 irrefl x:=by simp[ltOf,h.refl]
 trans x y z h1 h2:=by
  simp[ltOf]at*;have c:=h.sign (a x) (a y);have d:=h.sign (a y) (a z);have:=h.trans _ _ _ (by omega:g (a x) _= -1) (by omega:g (a y) (a z)= -1);omega
 ntrans x y z h1 h2:=by
  simp only[ltOf,aaf]at*;intro b;have c:=h.anti (a x) (a y);have d:=h.anti (a y) (a z);have k:=h.anti (a x) (a z);have i:=h.sign (a x) (a y);have j:=h.sign (a y) (a z);by_cases e:g (a x) (a y)=0
  .rw[h.eq _ _ e]at b;grind
  .by_cases f:g (a y) (a z)=0
   .rw[<-h.eq _ _ f]at b;grind
   .have:=h.trans (a z) (a y) (a x) (by omega) (by omega);omega
def qa (a b:Kd):Int:=Pk [bK a.key b.key,cQ a.t.p.lo b.t.p.lo]
def GU (a:Kd):List az×Int:=(a.key,a.t.p.lo)
def GV (a b:List az×Int):Int:=if bK a.1 b.1≠0 then bK a.1 b.1 else cQ a.2 b.2
def MM:gM GV:=aD.pair fQ
def zx (a b:Kd):qa a b=GV (GU a) (GU b):=by
 simp[qa,Pk,GV,GU];grind
def MN:Sort.SWO (ltOf qa):=by
 have h:=DY MM GU;have e:=by funext x y;exact(zx x y).symm
 grind
def GW {H:Heap}:jM Tryz.prog Kd H 166 qa:=by
 rintro Y z V s t _ ⟨E,k,e,A,n,c,B,m,d,rfl,h,v,P,D,F⟩ ⟨y,J,G,L,r,w,u,Q,O,rfl,a,i,j,b,g⟩;refine ΦK 0 (aj [9,18,20] [(1,[2,4,6,8]++ab 12 8 [11,29,31,33,34,0])] []) (λ a=>C ZP 116 [S E k e,S y J G] Y λ b c=>C ZP 52 [I s.t.p.lo,I t.t.p.lo] b λ d f=>∃g:Int->Heap->Prop,U d [I c,I f] 2 (λ h i j=>af Tryz.prog 167 [S h 2 i] j ⟨false,[(false,[.int .i64])]⟩ g)/\∀(h:Heap)(i:Int),g i h->a i d) ?_;dsimp only[aQ,aR,C];refine⟨_,cL h a,?_⟩;rintro N W _ rfl;refine⟨_,gC,?_⟩;rintro R X _ rfl;refine⟨_,λ A c f M q o=>Pn (l:=[bK s.key t.key,cQ s.t.p.lo t.t.p.lo]) (Row.sl (T:=Int) (Gq ?_) (ah f) q rfl o (by decide) (by simp)),?_⟩
 .have:=aD.bd s.key t.key;have:=fQ.bd s.t.p.lo t.t.p.lo;grind
 .rintro x _ rfl;rfl
def rS:Go.Shelf.Ren:=⟨λ | 20=>301 | n=>n,λ | 24=>198 | 22=>195 | 3=>3 | 25=>245 | 4=>4 | 0=>0 | n=>n,λ n=>n⟩
def MO:SlLaysF0.n20 Tryz.prog rS:=by
 constructor<;>first | kernel_rfl | exact λ _=>by kernel_rfl | exact ab3 (by rfl) (by rfl)
def Sn:TY Tryz.prog rS 5:=⟨MO,Tryz.isAgg198,Tryz.sizeOf198,by kernel_rfl⟩
def ab0:ab6 Kd [.sl,.sl,.int .i64,.int .i64,.sl] 198 301 472 386 302 231 165 where
 ld:=by
  rintro H w t K ⟨v,n,l,u,q,o,r,m,z,rfl,-⟩ h;grind
 ins a _ _ b c d e _ f _ g h:=Lh (cap:=[]) Sn a b c d e f g λ y p x s t j i k=>h _ _ _ s t j i k
 sw _ _ _ _ _ _ _ _ h:=DM 0 (aj [] ay [(1,[.im 38 198,ag 10])]) (λ _=>_) h
 rot _ _ _ _ _ _ _ _ h:=DM 0 {aj [] [] [(2,[.im 58 198,ag 10,ag 11])]with mt:=ir [472] []} (λ _=>_) h
 sym _ _ _ _ _ _ _ _ h:=DM 0 {aj eA ao [(3,[ag 10,ag 11]),(9,[.im 220 198,ag 13]),(15,[ag 14,ag 15]),(21,[.im 220 198,ag 17]),(33,[ag 20,ag 21])]with mt:=ir [302,386] []} (λ _=>_) h
 stb _ _ _ _ _ _ h:=DM 0 {aj [] [] [(2,[.im 63 198,ag 7,ag 8]),(7,[.im 63 198,ag 6]),(9,[.im 63 198,ag 7,ag 8])]with mt:=ir [301,302] []} (λ _=>_) h
 kq _ _ _ _ _ h:=DM 0 {bE with mt:=ir [231] []} (λ _=>_) h
def Bg {H:Heap}{n:Nat}{d:G'}{l:List Kd}(h:Row H d l)(f:l.length=n)(p:n<=10000000000000){g:FuncId}(k:fN Tryz.prog g){c:Kd->Kd->Int}(i:Sort.SWO (ltOf c))(o:jM Tryz.prog Kd H g c):
 ZC 165 [.slice none 0 0,.func (.func g) #[] #[]] 0 198 n d true H ⟨true,[]⟩
  (λ e (j:Heap)=>∃m:List Kd,Row j e m/\m.Perm l/\m.Pairwise (λ a b=>¬c b a<0)):=aa0 ab0 h f p k i o
end Go.Vc
