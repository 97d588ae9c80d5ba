/- A part of the proof. -/
import Derived.Test.YtnkineaffgkicaaGreatDoorH18
import Derived.IntWalk
set_option maxHeartbeats 0
set_option maxRecDepth 100000
set_option linter.unusedVariables false
set_option linter.defProp false
set_option linter.unusedSimpArgs false
namespace Go.Vc
open Go Go.Proofs
section
variable {a:Heap}{b:Int}
def PH:List ByteArray:=[⟨⟨[97]⟩⟩,⟨⟨[98]⟩⟩,⟨⟨[99]⟩⟩,⟨⟨[100]⟩⟩,⟨⟨[101]⟩⟩]
def PI:I':=[1,2,1,3,2]
def PJ (i:Int):cz:=⟨i+1,PH.getD i.toNat empty,PI.getD i.toNat 0⟩
def wF (f:0<=b)(g:b<5):
  ZB 74 [Φi b] a ⟨false,[(true,[.int .i64,.str,.int .i64])]⟩ (λ e d c h=>(⟨e,d,c⟩:cz)=PJ b/\ae .i64 e/\str d/\ae .i64 c):=by
 refine ΦK 0 (aj [] [(3,ab 2 9 [21,0])] []) (λ c=>L [Value.string ⟨⟨[]⟩⟩,ΦT ⟨⟨[]⟩⟩,ΦT ⟨⟨[]⟩⟩,ΦT ⟨⟨[]⟩⟩,ΦT ⟨⟨[]⟩⟩]=5/\L [Value.int .i64 0,I 0,I 0,I 0,I 0]=5/\ΦR (b+1)/\ΦY b 5 (ΦF Xr [ΦT {data:=⟨[(97:UInt8)]⟩},ΦT {data:=⟨[(98:UInt8)]⟩},ΦT {data:=⟨[(99:UInt8)]⟩},ΦT {data:=⟨[(100:UInt8)]⟩},ΦT {data:=⟨[(101:UInt8)]⟩}] (N b*1) 1 (λ d=>ΦY b 5 (ΦF ZE [I 1,I 2,I 1,I 3,I 2] (N b*1) 1 (λ e=>c (b+1) d e a))))) ?_;dsimp only[eQ,ΦF,L,N,ΦR,ΦY];refine⟨rfl,rfl,by omega,f,T' ?_⟩;obtain rfl | rfl | rfl | rfl | rfl:b=0\/b=1\/b=2\/b=3\/b=4:=by omega
 all_goals exact⟨_,rfl,P' ⟨_,rfl,rfl,by simp[ae],by simp[str,ByteArray.size],by simp[ae]⟩⟩
def tables:List ByteArray:=[⟨⟨[116]⟩⟩,⟨⟨[117]⟩⟩,⟨⟨[119]⟩⟩]
def tableName (x:Int):ByteArray:=tables.getD (x.tmod 3).toNat empty
def zB (f:0<=b):
  ZB 69 [Φu b] a ⟨false,[(false,[.str])]⟩ (λ s g=>s=tableName b/\str s):=by
 refine ΦK 0 bE (λ c=>(3:Int)≠0/\ΦY (Int.tmod b 3) 3 (ΦF Xr [ΦT {data:=⟨[(116:UInt8)]⟩},ΦT {data:=⟨[(117:UInt8)]⟩},ΦT {data:=⟨[(119:UInt8)]⟩}] (N (Int.tmod b 3)*1) 1 (λ d=>c d a))) ?_;dsimp only[eQ,ΦF,N,ΦY];unfold tableName;have e:b.tmod 3=b%3:=acG f;rw[e];have c:0<=b%3:=by omega
 have d:b%3<3:=by omega
 generalize b%3=y at c d;refine N' ⟨c,T' ?_⟩;obtain rfl | rfl | rfl:y=0\/y=1\/y=2:=by omega
 all_goals exact⟨_,rfl,rfl,by simp[str,ByteArray.size]⟩
def vp (n:Nat):List cz:=(List.range n).map λ i=>PJ (i:Nat)
def mkKey (x:Int):I':=if x.tmod 5=1 then[1]else if x.tmod 5=2 then[2,1]else[]
def jF (x:Int):List nz:=if x.tmod 5=1 then[⟨[1],tableName (x.tdiv 5),[1]⟩]else[]
def jR (x:Int):List Rs:=if x.tmod 6=1 then[⟨1,[2]⟩]else if x.tmod 6=2 then[⟨2,[1,2]⟩]else[]
def qg {T:Type}[Rep T]{H:Heap}{A:D'}{c:Nat}{d:G'}{t:T}(h:Cells a A 0 d)(b:Heap.le a H)(f:1<=c)(e:Rep.rel H d t)(g:Rep.byt T<=100000):Sl H A 1 c [t]:=
 (Row.one e).sl (ah _) (h.mono b) rfl f (by omega) (by simp)
def Lj (h:ae .i64 b):Rep.rel a [Φi b] b:=⟨rfl,h⟩
def Ee {H:Heap}{A:D'}{c:Nat}{d:Int}(h:Cells a A 0 [Φi b,Φi d])(e:Heap.le a H)(i:2<=c)(f:ae .i64 b)(g:ae .i64 d):Sl H A 2 c [b,d]:=
 ((Row.one (Lj f)).append (Row.one (Lj g))).sl (xs:=[Φi b,Φi d]) (ah _) (h.mono e) rfl i (by decide) (by simp)
end
section
variable {a b:Int}{c:ByteArray}{d:Heap}
def bG (v:az):Bool:=
 if v.kind=0 then decide (v.n=0)&&decide (v.s=empty)
 else if v.kind=1 then decide (v.s=empty)
 else if v.kind=2 then decide (v.n=0)&&decide (v.s.size<=200)
 else if v.kind=3 then(decide (v.n=0)||decide (v.n=1))&&decide (v.s=empty)
 else false
def wG:(decide (a=0)=true->(decide (b=0)=true->decide (c=empty)=bG ⟨a,b,c⟩)/\(decide (b=0)=false->false=bG ⟨a,b,c⟩))/\
  (decide (a=0)=false->(decide (a=1)=true->decide (c=empty)=bG ⟨a,b,c⟩)/\(decide (a=1)=false->
   (decide (a=2)=true->(decide (b=0)=true->decide ((c.size:Int)<=200)=bG ⟨a,b,c⟩)/\(decide (b=0)=false->false=bG ⟨a,b,c⟩))/\
   (decide (a=2)=false->(decide (a=3)=true->(decide (b=0)=true->decide (c=empty)=bG ⟨a,b,c⟩)/\(decide (b=0)=false->(decide (b=1)=true->decide (c=empty)=bG ⟨a,b,c⟩)/\(decide (b=1)=false->false=bG ⟨a,b,c⟩)))/\
    (decide (a=3)=false->false=bG ⟨a,b,c⟩)))):=by
 simp[bG];grind
def wH:ZB 258 [.agg ⟨[Φi a,Φi b,ΦT c]⟩] d fg (λ r _=>r=bG ⟨a,b,c⟩):=by
 refine ΦK 0 bE (λ e=>let f:=e (decide (c=⟨⟨[]⟩⟩)) d;J (a=0) (J (b=0) f (e false d)) (J (a=1) f (J (a=2) (J (b=0) (e (decide (O (ByteArray.size c)<=200)) d) (e false d)) (J (a=3) (J (b=0) f (J (b=1) f (e false d))) (e false d))))) ?_;dsimp only[O,J];exact wG
def zC:ZB 152 [.agg ⟨[Φi a,Φi b,ΦT c]⟩] d fg (λ r _=>r=bG ⟨a,b,c⟩):=by
 refine ΦK 0 bE (λ e=>let f:=e (decide (c=⟨⟨[]⟩⟩)) d;J (a=0) (J (b=0) f (e false d)) (J (a=1) f (J (a=2) (J (b=0) (e (decide (O (ByteArray.size c)<=200)) d) (e false d)) (J (a=3) (J (b=0) f (J (b=1) f (e false d))) (e false d))))) ?_;dsimp only[O,J];exact wG
def Ha:Rep.rel d [Φi 0,Φi 0,.string ⟨⟨[]⟩⟩] gg:=⟨rfl,by simp[ae,gg],by simp[ae,gg],by simp[str,gg,ByteArray.size]⟩
def xS {T:Type}(A:List T)(x y:T)(B:List T){k:Nat}(h:A.length=k):(A++x::B).set k y=A++y::B:=by
 simp_all
def MX {T S:Type}(f:S->T)(z:T)(l:List S)(i:Int)(n:Nat)(a:0<=i)(b:i.toNat<l.length)(c:l.length=n):
  ((l.take i.toNat).map f++List.replicate (n-i.toNat) z).set i.toNat (f l[i.toNat])=(l.take (i+1).toNat).map f++List.replicate (n-(i+1).toNat) z:=by
 rw[take_at a b,show n-i.toNat=(n-(i+1).toNat)+1 by omega,acW,xS _ _ _ _ (by grind)];grind
end
def iB:List az->List cz->List az->Option (List az)
 | o,[],_=>some o
 | o,_::_,[]=>some o
 | o,c::cs,v::vs=>if bG v=true/\(v.kind=0\/v.kind=c.kind)then iB (o.set (c.id-1).toNat v) cs vs else none
def mS (w:Int)(c:cz):Bool:=decide (c.id<1)||decide (w<c.id)
def expand (a:List cz)(b:List az)(w:Int):List az×Int:=
 if b.length≠a.length\/12<w then([],1)else if a.any (mS w)=true then([],1)
 else match iB (List.replicate w.toNat gg) a b with
  | none=>([],7)
  | some o=>(o,0)
def Bl {H:Heap}{a b w:Int}{A B:D'}{n c m d:Nat}{e:List cz}{f:List az}(G:Sl H A n c e)(T:Sl H B m d f):
  ZB 197 [.agg ⟨[Φi a,Φi b,S A n c]⟩,S B m d,Φi w] H ⟨true,[(false,[.sl]),(false,[.int .i64])]⟩ (λ A' s c' r Q=>Sl Q A' s c' (expand e f w).1/\r=(expand e f w).2):=by
 refine ΦK 1 (aj [57] [(16,ab 2 8 [19,21,0])] [(4,[ag 27]),(11,[.slot 10 false [.row 82 133],ag 47])]) (λ a=>V (O m=O n) (a none 0 0 1 H) (J (12<w) (a none 0 0 1 H) (W ZE H (λ b=>b 0 H) (λ b c d e=>J (e<O n) (ΦX A e n (ΦE Xq d A (N e*3) (λ f g h=>J (f<1) (a none 0 0 1 d) (J (w<f) (a none 0 0 1 d) (ΦR (e+1)/\b (e+1) d/\c (e+1)<c e))))) (max w 0=max w 0/\(0:Int)<=max w 0/\max w 0*O 32<=M/\(∀f:G',f=dE [I 0,I 0,ΦT ⟨⟨[]⟩⟩] (N (max w 0))->W ZG d (λ g=>g (N (max w 0)) f 0 d) λ g h i j k l=>J (l<O n) (ΦX A l n (ΦE Xq i A (N l*3) (λ o p q=>ΦX B l m (ΦE ZF i B (N l*3) (λ r s t=>C ZO 258 [ΦG [I r,I s,ΦT t]] i λ u v=>ΦQ (!v) (a none 0 0 7 u) (let x:=ΦR (o-1)/\ΦX B l m (ΦE ZF u B (N l*3) (λ x y z=>ΦY (o-1) j (N (o-1)*3+3<=L k/\ΦR (l+1)/\(let a0:=av k (N (o-1)*3) [I x,I y,ΦT z];g j a0 (l+1) u/\h j a0 (l+1)<h j k l))));V (r=0) (V (r=q) (a none 0 0 7 u) x) x)))))) (U i k j (λ o p q=>a o j p 0 q)))))))) ?_;dsimp only[PL,aQ,aR,aW,eQ,C,ΦE,L,M,N,ΦQ,ΦR,W,ΦX,ΦY,O,V,J];have b1:=G.bn;have b2:=G.len;have c1:=T.bn;have c2:=T.len;unfold expand;refine⟨λ h=>?_,λ h=>⟨λ F=>?_,λ F=>?_⟩⟩
 .have h:¬(m:Int)=n:=by simpa using h
  rw[if_pos (.inl (by omega))];exact⟨Sl.nil,rfl⟩
 .rw[if_pos (.inr (aab F))];exact⟨Sl.nil,rfl⟩
 have h:(m:Int)=n:=by simpa using h
 have F:=aac F;rw[if_neg (by omega)];refine⟨λ i _=>0<=i/\i<=n/\e.any (mS w)=(e.drop i.toNat).any (mS w),λ i=>n-i.toNat,y' rfl,?_⟩;rintro H2 L2 i ⟨j,i1,q⟩;refine⟨λ g=>?_,λ p=>?_⟩
 .have g:=aab g;obtain⟨P,Y,_,E,rfl,q1,q2,q3⟩:=G.at L2 j g;rw[ak j P,aaS]at q;refine⟨Y,j,g,_,_,_,E,λ v=>?_,λ v=>⟨λ R=>?_,λ R=>u' ⟨y' ?_,by dsimp only;omega⟩⟩⟩
  .rw[if_pos (by rw[q,mS,v];rfl)];exact⟨Sl.nil,rfl⟩
  .rw[if_pos (by rw[q,mS,R];simp)];exact⟨Sl.nil,rfl⟩
  .rw[q,mS,v,R];rfl
 rw[ai (aac p) b2,abJ]at q;rw[if_neg (by simp[q])];have a0:∀c∈e,1<=c.id/\c.id<=w:=λ c E=>by
  have:=abj.1 q c E;simp[mS]at this;omega
 have ew:Int.toNat (max w 0)=w.toNat:=by omega
 refine⟨rfl,y' ?_⟩;rintro _ rfl;rw[ew];refine⟨λ s y i Q=>0<=i/\i<=n/\s=w.toNat/\∃o,Row Q y o/\o.length=w.toNat/\iB (List.replicate w.toNat gg) e f=iB o (e.drop i.toNat) (f.drop i.toNat),λ _ _ i=>n-i.toNat,
  ⟨by simp,by simp,rfl,_,Row.gS Ha _,by simp,rfl⟩,?_⟩
 rintro H3 l3 s y i ⟨j,i1,Z,o,hr,ho,k⟩;obtain rfl:w.toNat=s:=Z.symm;have L3:=aa L2 l3;have a2:y.length=w.toNat*3:=by rw[hr.length,ho];rfl
 refine⟨λ g=>?_,λ p=>?_⟩
 .have g:=aab g;obtain⟨P,Y,_,E,rfl,q1,q2,q3⟩:=G.at L3 j g;obtain⟨ki,kA,_,kc,rfl,p1,p2,p3⟩:=T.at L3 (i:=i) j (by omega);have a1:=a0 _ (aan P);rw[ak j P,ak j ki,iB]at k;refine⟨Y,j,g,_,_,_,E,kA,j,by omega,_,_,_,kc,_,wH,?_⟩;rintro H4 l4 _ rfl;have l:bG f[i.toNat]=true->(f[i.toNat].kind=0\/f[i.toNat].kind=e[i.toNat].kind)->ae .i64 (e[i.toNat].id-1)/\cD B/\0<=i/\i<(m)/\∃D u x,Cells H4 B (Int.toNat i*3) [Φi D,Φi u,ΦT x]/\0<=e[i.toNat].id-1/\e[i.toNat].id-1<(w.toNat)/\
    Int.toNat (e[i.toNat].id-1)*3+3<=y.length/\ae .i64 (i+1)/\(0<=i+1/\i+1<=n/\w.toNat=w.toNat/\∃o,Row H4 (av y (Int.toNat (e[i.toNat].id-1)*3) [Φi D,Φi u,ΦT x]) o/\o.length=w.toNat/\
     iB (List.replicate w.toNat gg) e f=iB o (e.drop (i+1).toNat) (f.drop (i+1).toNat))/\n-(i+1).toNat<n-i.toNat:=by
   intro z hk;rw[if_pos ⟨z,hk⟩]at k;exact u' ⟨kA,j,by omega,_,_,_,kc.mono l4,M' ⟨y' ⟨rfl,_,(hr.mono l4).dV (i:=(e[i.toNat].id-1).toNat) (by omega) (t:=f[i.toNat]) ⟨rfl,p1,p2,p3⟩,by grind,k⟩,by omega⟩⟩
  refine⟨λ hf=>?_,λ z=>?_⟩
  .rw[if_neg (λ hh=>by simp_all)]at k;rw[k];exact⟨Sl.nil,rfl⟩
  simp at z;refine⟨λ h0=>⟨λ v=>?_,λ v=>l z (.inr (by grind))⟩,λ h0=>l z (.inl (by grind))⟩;rw[if_neg (λ hh=>by grind)]at k;rw[k];exact⟨Sl.nil,rfl⟩
 .rw[ai (aac p) b2,iB]at k;rw[k];intro A' c' Q l' g' X;exact⟨hr.sl l' g' ho X (by show _*32<=_;omega) (by omega),rfl⟩
def Em {H:Heap}{a b w:Int}{A B:D'}{n c m d:Nat}{e:List cz}{f:List az}(T:Sl H A n c e)(ht:Sl H B m d f):
  ZB 99 [.agg ⟨[Φi a,Φi b,S A n c]⟩,S B m d,Φi w] H ⟨true,[(false,[.sl]),(false,[.int .i64])]⟩ (λ A' y c' r Z=>Sl Z A' y c' (expand e f w).1/\r=(expand e f w).2):=by
 refine ΦK 1 (aj [59] [(12,[2,4,6,8,11]++ab 12 23 [0]),(14,nf)] [(4,[ag 8]),(10,[.slot 9 false [.row 97 133],ag 10])]) (λ a=>V (O m=O n) (a none 0 0 1 H) (J (12<w) (a none 0 0 1 H) (W ZE H (λ b=>b 0 H) (λ b c d e=>J (e<O n) (ΦX A e n (ΦE ZE d A (N e*3+0) (λ f=>J (f<1) (a none 0 0 1 d) (ΦX A e n (ΦE ZE d A (N e*3+0) (λ g=>J (w<g) (a none 0 0 1 d) (ΦR (e+1)/\b (e+1) d/\c (e+1)<c e))))))) (max w 0=max w 0/\(0:Int)<=max w 0/\max w 0*O 32<=M/\(∀f:G',f=dE [I 0,I 0,ΦT ⟨⟨[]⟩⟩] (N (max w 0))->W ZG d (λ g=>g (N (max w 0)) f 0 d) λ g h i j k l=>J (l<O n) (ΦX B l m (ΦE ZF i B (N l*3) (λ o p q=>C ZO 152 [ΦG [I o,I p,ΦT q]] i λ r s=>ΦQ (!s) (a none 0 0 7 r) (ΦX B l m (ΦE ZE r B (N l*3+0) (λ t=>let u:=ΦX A l n (ΦE ZE r A (N l*3+0) (λ u=>ΦR (u-1)/\ΦX B l m (ΦE ZF r B (N l*3) (λ v x y=>ΦY (u-1) j (N (u-1)*3+3<=L k/\ΦR (l+1)/\(let z:=av k (N (u-1)*3) [I v,I x,ΦT y];g j z (l+1) r/\h j z (l+1)<h j k l))))));V (t=0) (ΦX B l m (ΦE ZE r B (N l*3+0) (λ v=>ΦX A l n (ΦE ZE r A (N l*3+2) (λ x=>V (v=x) (a none 0 0 7 r) u))))) u)))))) (U i k j (λ o p q=>a o j p 0 q)))))))) ?_;dsimp only[PL,aQ,aR,aW,eQ,C,ΦE,L,M,N,ΦQ,ΦR,W,ΦX,ΦY,O,V,J];have b1:=T.bn;have b2:=T.len;have c1:=ht.bn;have c2:=ht.len;unfold expand;refine⟨λ h=>?_,λ h=>⟨λ R=>?_,λ R=>?_⟩⟩
 .have h:¬(m:Int)=n:=by simpa using h
  rw[if_pos (.inl (by omega))];exact⟨Sl.nil,rfl⟩
 .rw[if_pos (.inr (aab R))];exact⟨Sl.nil,rfl⟩
 have h:(m:Int)=n:=by simpa using h
 have R:=aac R;rw[if_neg (by omega)];refine⟨λ i _=>0<=i/\i<=n/\e.any (mS w)=(e.drop i.toNat).any (mS w),λ i=>n-i.toNat,y' rfl,?_⟩;rintro H2 L2 i ⟨j,i1,s⟩;refine⟨λ g=>?_,λ x=>?_⟩
 .have g:=aab g;obtain⟨X,F,_,u,rfl,q1,q2,q3⟩:=T.at L2 j g;rw[ak j X,aaS]at s;refine⟨F,j,g,_,u.cy (k:=0) rfl,λ D=>?_,λ D=>⟨F,j,g,_,u.cy (k:=0) rfl,λ h2=>?_,λ h2=>u' ⟨y' ?_,by dsimp only;omega⟩⟩⟩
  .rw[if_pos (by rw[s,mS,D];rfl)];exact⟨Sl.nil,rfl⟩
  .rw[if_pos (by rw[s,mS,h2];simp)];exact⟨Sl.nil,rfl⟩
  .rw[s,mS,D,h2];rfl
 rw[ai (aac x) b2,abJ]at s;rw[if_neg (by simp[s])];have a2:∀c∈e,1<=c.id/\c.id<=w:=λ c u=>by
  have:=abj.1 s c u;simp[mS]at this;omega
 have ew:Int.toNat (max w 0)=w.toNat:=by omega
 refine⟨rfl,y' ?_⟩;rintro _ rfl;rw[ew];refine⟨λ y G i Z=>0<=i/\i<=n/\y=w.toNat/\∃o,Row Z G o/\o.length=w.toNat/\iB (List.replicate w.toNat gg) e f=iB o (e.drop i.toNat) (f.drop i.toNat),λ _ _ i=>n-i.toNat,
  (y' ⟨rfl,_,Row.gS Ha _,by simp,rfl⟩),?_⟩
 rintro H3 l3 y G i ⟨j,i1,a1,o,hr,ho,p⟩;obtain rfl:w.toNat=y:=a1.symm;have L3:=aa L2 l3;have a4:G.length=w.toNat*3:=by rw[hr.length,ho];rfl
 refine⟨λ g=>?_,λ x=>?_⟩
 .have g:=aab g;obtain⟨X,F,_,u,rfl,q1,q2,q3⟩:=T.at L3 (i:=i) j (by omega);obtain⟨ki,kA,_,Y,rfl,p1,p2,p3⟩:=ht.at L3 (i:=i) j (by omega);have a3:=a2 _ (aan X);rw[ak j X,ak j ki,iB]at p;refine⟨kA,j,by omega,_,_,_,Y,_,zC,?_⟩;rintro H4 v _ rfl;have q:bG f[i.toNat]=true->(f[i.toNat].kind=0\/f[i.toNat].kind=e[i.toNat].kind)->cD A/\0<=i/\i<(n)/\∃l,Cells H4 A (Int.toNat i*3+0) [Φi l]/\ae .i64 (l-1)/\cD B/\0<=i/\i<(m)/\∃Q z E,Cells H4 B (Int.toNat i*3) [Φi Q,Φi z,ΦT E]/\0<=l-1/\l-1<(w.toNat)/\
    Int.toNat (l-1)*3+3<=G.length/\ae .i64 (i+1)/\(0<=i+1/\i+1<=n/\w.toNat=w.toNat/\∃o,Row H4 (av G (Int.toNat (l-1)*3) [Φi Q,Φi z,ΦT E]) o/\o.length=w.toNat/\
     iB (List.replicate w.toNat gg) e f=iB o (e.drop (i+1).toNat) (f.drop (i+1).toNat))/\n-(i+1).toNat<n-i.toNat:=by
   intro P hk;rw[if_pos ⟨P,hk⟩]at p;exact⟨F,j,by omega,_,(u.mono v).cy (k:=0) rfl,by omega,kA,j,by omega,_,_,_,Y.mono v,M' ⟨y' ⟨rfl,_,(hr.mono v).dV (i:=(e[i.toNat].id-1).toNat) (by omega) (t:=f[i.toNat]) ⟨rfl,p1,p2,p3⟩,by grind,p⟩,by omega⟩⟩
  refine⟨λ hf=>?_,λ P=>⟨kA,j,by omega,_,(Y.mono v).cy (k:=0) rfl,?_⟩⟩
  .rw[if_neg (λ hh=>by simp_all)]at p;rw[p];exact⟨Sl.nil,rfl⟩
  simp at P;refine⟨λ h0=>⟨kA,j,by omega,_,(Y.mono v).cy (k:=0) rfl,F,j,by omega,_,(u.mono v).cy (k:=2) rfl,λ D=>?_,λ D=>q P (.inr (by grind))⟩,λ h0=>q P (.inl (by grind))⟩;rw[if_neg (λ hh=>by grind)]at p;rw[p];exact⟨Sl.nil,rfl⟩
 .rw[aaN (by grind),iB]at p;rw[p];intro A' c' Z l' g' a0;exact⟨hr.sl l' g' ho a0 (by show _*32<=_;omega) (by omega),rfl⟩
def JI:Go.Shelf.Ren:=⟨λ | 45=>273 | n=>n,λ | 22=>85 | 23=>46 | n=>n,λ n=>n⟩
def Qe:RZ Tryz.prog JI 3 (.agg #[Φi 0,.string ⟨#[]⟩,Φi 0]):=by
 constructor<;>first | kernel_rfl | exact λ _=>by kernel_rfl | exact ab3 (by kernel_rfl) (by kernel_rfl) | decide | exact⟨_,rfl,rfl⟩
section
def Row.drop {T:Type}[Rep T]{H:Heap}:∀{a:G'} {l:List T} (k:Nat),Row H a l->Row H (a.drop (k*Rep.sz T)) (l.drop k)
 | _,_,0,h=>by grind
 | _,[],k+1,h=>by
  have c:=h.length;simp_all
 | _,t::r,k+1,⟨vs,us,e,h1,h2⟩=>by
  have b:=Rep.len h1;subst e;have e:(vs++us).drop ((k+1)*Rep.sz T)=us.drop (k*Rep.sz T):=by
   rw[aeD,List.drop_of_length_le (by grind)];grind
  rw[e];exact Row.drop k h2
def JJ {H:Heap}{n i j r:Nat}{xs:G'}(a:i<=j)(b:j<=n):
  ZC 273 [.slice none 0 0,Φi i,Φi j] 0 46 n xs false H ⟨false,[(false,[.row r 46])]⟩ (λ _ m c _=>m=n-(j-i)/\c=xs.take (i*3)++xs.drop (j*3)):=
 Jf Qe (by kernel_rfl) a b
def used (s:bp)(x:Int):Bool:=(s.fks.any λ f=>f.cols.contains x||(decide (f.table=s.name)&&f.refs.contains x))||(s.csts.any λ c=>c.cols.contains x)||s.key.contains x
def fresh (s:bp)(x:Int):Bool:=s.vers.dropLast.all λ v=> !dq v.cols x
section
variable {H:Heap}{nm:ByteArray}{A:D'}{n c:Nat}{B:D'}{m d:Nat}{E:D'}{k e:Nat}{F:D'}{l f:Nat}{s:bp}
def Hi {x:Int}(hs:aV H nm A n c B m d E k e F l f s):
  ZB 271 [.agg ⟨[ΦT nm,S A n c,S B m d,S E k e,S F l f]⟩,Φi x] H fg (λ r _=>r=used s x):=by
 refine ΦK 0 (aj [19,30,44,49] [] [(2,[ag 12]),(8,[ag 37])]) (λ a=>W ZE H (λ b=>b 0 H) λ b c e f=>let g:=λ g (h i:Nat) j (n:Int) o p=>C ZO 209 [S g h i,I x] j λ q r=>ΦQ r (a true q) (ΦR (n+1)/\o (n+1) q/\p (n+1)<p n);J (f<O k) (ΦX E f k (ΦE Xu e E (N f*3) (λ h i j n o p q=>C ZO 209 [S h i j,I x] e λ r s=>ΦQ s (a true r) (J (n=nm) (g o p q r f b c) (ΦR (f+1)/\b (f+1) r/\c (f+1)<c f))))) (W ZE e (λ h=>h 0 e) (λ h i j n=>J (n<O l) (ΦX F n l (ΦE Xv j F (N n*2) (λ o p q r=>g p q r j n h i))) (C ZO 209 [S B m d,I x] j (λ o p=>a p o))))) ?_;dsimp only[PL,aQ,aR,aW,eQ,C,ΦE,N,ΦQ,ΦR,W,ΦX,O,J];obtain⟨rfl,P,hv,hk,v,L⟩:=hs;have f1:=v.bn;have f2:=v.len;have c1:=L.bn;have c2:=L.len;unfold used;generalize hp:(λ f:nz=>f.cols.contains x||(decide (f.table=s.name)&&f.refs.contains x))=p;generalize hq:(λ c:Rs=>c.cols.contains x)=q;refine⟨λ i _=>0<=i/\i<=k/\s.fks.any p=(s.fks.drop i.toNat).any p,λ i=>k-i.toNat,y' rfl,?_⟩;rintro H1 U i ⟨t,h1,o⟩;refine⟨λ a=>?_,λ g=>?_⟩
 .have a:=aab a;obtain⟨w,u,_,h,⟨A3,n3,c3,B3,m3,d3,rfl,M,T,X⟩⟩:=v.at U t a;rw[ak t w,aaS]at o;refine⟨u,t,a,_,_,_,_,_,_,_,h,_,hI M,?_⟩;rintro H2 z _ rfl;have Y:p s.fks[i.toNat]=(s.fks[i.toNat].cols.contains x||(decide (s.fks[i.toNat].table=s.name)&&s.fks[i.toNat].refs.contains x)):=by grind
  refine⟨λ y=>?_,λ y=>⟨λ a2=>⟨_,hI (X.mono z),?_⟩,λ a2=>u' ⟨y' ?_,by dsimp only;omega⟩⟩⟩
  .grind
  .rintro Q R _ rfl;refine⟨λ a3=>?_,λ a3=>u' ⟨y' ?_,by dsimp only;omega⟩⟩
   .grind
   simp_all
  grind
 rw[ai (aac g) f2,abJ]at o;rw[o,abh];refine⟨λ i _=>0<=i/\i<=l/\s.csts.any q=(s.csts.drop i.toNat).any q,λ i=>l-i.toNat,P' rfl,?_⟩;rintro H2 z j ⟨D,j1,G⟩;have V:=aa U z;refine⟨λ a=>?_,λ g=>?_⟩
 .have a:=aab a;obtain⟨w,u,_,h,⟨A3,n3,c3,rfl,M,T⟩⟩:=L.at V D a;rw[ak D w]at G;refine⟨u,D,a,_,_,_,_,h,_,hI T,?_⟩;rintro Q R _ rfl;refine⟨λ y=>?_,λ y=>u' ⟨y' ?_,by grind⟩⟩
  .grind
  grind
 rw[ai (aac g) c2]at G;rw[G];exact⟨_,hI (hk.mono V),λ Q R b Z=>Z⟩
def En {x:Int}(h:aV H nm A n c B m d E k e F l f s)(Q:s.vers≠[]):
  ZB 272 [.agg ⟨[ΦT nm,S A n c,S B m d,S E k e,S F l f]⟩,Φi x] H fg (λ r _=>r=fresh s x):=by
 refine ΦK 0 (aj [21] [] [(2,[ag 15])]) (λ a=>ΦR (O n-1)/\(0:Int)<=0/\0<=O n-1/\O n-1<=O c/\∀b:D',b=eM A c (N 0) 3->W ZE H (λ d=>d 0 H) λ d e f g=>J (g<O (N (O n-1)-N 0)) (ΦX b g (N (O n-1)-N 0) (ΦE Xs f b (N g*3) (λ h i j k l=>C ZP 270 [ΦG [I h,I i,S j k l],I x] f λ m o=>J (0<=o) (a false m) (ΦR (g+1)/\d (g+1) m/\e (g+1)<e g)))) (a true f)) ?_;dsimp only[PL,aQ,aR,aW,eQ,C,ΦE,N,ΦR,W,ΦX,O,J];have U:=h.vers.bn;have b2:=h.vers.len;have Y:=h.vers.cap;have t:=aaP.2 Q;refine u' (N' (y' ?_));rintro A0 rfl;have b:=h.vers.sub (j:=(0:Int).toNat) (k:=((n:Int)-1).toNat) (by simp) (by simp);have M:(s.vers.take ((n:Int)-1).toNat).drop (0:Int).toNat=s.vers.dropLast:=by
  rw[adn,show((n:Int)-1).toNat=s.vers.length-1 by omega];rfl
 rw[M]at b;have w:=b.len;unfold fresh;generalize L:(λ v:dh=> !dq _ x)=p;generalize s.vers.dropLast=g at b w;refine⟨λ i _=>0<=i/\i<=(n-1:Nat)/\g.all p=(g.drop i.toNat).all p,λ i=>n-1-i.toNat,P' rfl,?_⟩;rintro H1 T i ⟨o,Z,z⟩;refine⟨λ a=>?_,λ u=>?_⟩
 .have a:=aab a;obtain⟨P,G,_,q,⟨A3,X,c3,rfl,V,r2,y⟩⟩:=b.at T o a;rw[ak o P]at z;refine⟨G,o,a,_,_,_,_,_,q,_,qf y,?_⟩;rintro H2 l2 _ rfl;have D:p g[i.toNat]= !(g[i.toNat].cols.any λ c=>decide (c.id=x)):=by rw[<-L];rfl
  rw[aad,aaf,eU _ _ _ (by simp)];refine⟨λ R=>?_,λ R=>u' ⟨y' ?_,by grind⟩⟩
  .grind
  grind
 grind
def bN (s:bp)(i x:Int):bp×Int:=
 if cg s x=false then(kr,1)
 else match s.vers.getLast? with
  | none=>(kr,1)
  | some v=>
   if idxOf (λ c=>decide (c.id=i)) 0 v.cols<0 then(kr,11)
   else if v.cols.length=1\/used s i=true\/(x=v.rc.lo/\fresh s i=true)then(kr,18)
   else({s with vers:=bf s.vers (v.cols.eraseIdx (idxOf (λ c=>decide (c.id=i)) 0 v.cols).toNat) x},0)
def ue {i x:Int}(w:aV H nm A n c B m d E k e F l f s)(hx:ae .i64 x)(b6:s.vers.length<=3000000000000):
  ZB 208 [.agg ⟨[ΦT nm,S A n c,S B m d,S E k e,S F l f]⟩,Φi i,Φi x] H Ct
   (λ c0 A' n' c' B' m' d' E' k' e' F' l' f' r H'=>aV H' c0 A' n' c' B' m' d' E' k' e' F' l' f' (bN s i x).1/\r=(bN s i x).2):=by
 refine ΦK 2 {aj [12,25,38,49] [(9,[2,4,6,10,12,14,18,9,17,21,23,24,0])] []with res:=wj [(56,⟨false,[(false,[.row 63 46])]⟩),(60,⟨false,[(false,[.row 64 46])]⟩)],mt:=ir [] [273]} (λ a=>let b:=[ΦT nm,S A n c,S B m d,S E k e,S F l f];C ZO 265 [ΦG b,I x] H λ g h=>ΦQ (!h) (a ⟨⟨[]⟩⟩ none 0 0 none 0 0 none 0 0 none 0 0 1 g) (ΦR (O n-1)/\ΦX A (O n-1) n (ΦE Xs g A (N (O n-1)*3) (λ j o p q r=>C ZP 270 [ΦG [I j,I o,S p q r],I i] g λ s t=>J (t<0) (a ⟨⟨[]⟩⟩ none 0 0 none 0 0 none 0 0 none 0 0 11 s) (let u:=λ u=>a ⟨⟨[]⟩⟩ none 0 0 none 0 0 none 0 0 none 0 0 18 u;J (O q=1) (u s) (C ZO 271 [ΦG b,I i] s (λ v w=>ΦQ w (u v) (let y:=λ y=>ΦR (t+1)/\C YI 140 [S p q r] y λ z a0 a1=>ZZ YJ 273 [S none 0 0,I t,I (t+1)] 0 46 a0 a1 false z λ a2 a3 a4 a5=>U a2 a5 a4 λ a6 a7 a8=>C YC 269 [ΦG b,S a6 a4 a7,I x] a8 λ a9 b0 b1 b2 b3 b4 b5 b6 b7 b8 b9 c0 c1 c2=>a b0 b1 b2 b3 b4 b5 b6 b7 b8 b9 c0 c1 c2 0 a9;J (x=j) (C ZO 272 [ΦG b,I i] v (λ z a0=>ΦQ a0 (u z) (y z))) (y v))))))))) ?_;dsimp only[aQ,aR,eQ,C,ZZ,ΦE,N,ΦQ,ΦR,ΦX,O,J];have b1:=w.vers.bn;have b2:=w.vers.len;unfold bN;refine⟨_,lS w,?_⟩;rintro H1 l1 _ rfl;refine⟨λ hf=>?_,λ ht=>?_⟩
 .simp only[aay]at hf;rw[if_pos hf];exact⟨ba,rfl⟩
 simp only[aaF]at ht;rw[if_neg (by simp[ht])];have b:aw s=true:=by simp only[cg,aah]at ht;exact ht.1.1
 have c8:0<s.vers.length:=aaP.2 (bF b);obtain⟨hi,hA,_,b0,⟨A1,n1,c1,rfl,r1,r2,r3⟩⟩:=w.vers.at l1 (i:=(n:Int)-1) (by omega) (by omega);have h:=gF s.vers hi (by omega);have z:=cZ b (aan hi);rw[h];dsimp only;generalize s.vers[((n:Int)-1).toNat]=v at b0 r1 r2 r3 z h;have d1:=r3.len;refine u' ⟨hA,y' ⟨_,_,_,_,_,b0,_,qf r3,?_⟩⟩;rintro H2 l2 _ rfl;have c2:=za (λ c:cz=>decide (c.id=i)) v.cols 0 (by simp);generalize idxOf _ 0 _=y at c2;refine⟨λ Y=>?_,λ Y=>?_⟩
 .rw[if_pos (aab Y)];exact⟨ba,rfl⟩
 have Y:=aac Y;rw[if_neg Y];refine⟨λ a2=>?_,λ a2=>⟨_,Hi (w.mono (aa l1 l2)),?_⟩⟩
 .have a2:=aab a2;rw[if_pos (.inl (by omega))];exact⟨ba,rfl⟩
 rintro H3 l3 _ rfl;have L3:=aa l1 (aa l2 l3);refine⟨λ a3=>?_,λ a3=>?_⟩
 .rw[if_pos (.inr (.inl a3))];exact⟨ba,rfl⟩
 have c6:∀{P:Heap},Heap.le H3 P->ae .i64 (y+1)/\∃u:Nat->G'->Heap->Prop,ZB 140 [S A1 n1 c1] P ⟨false,[(false,[.row 63 46])]⟩ u/\∀(o:Heap),Heap.le P o->∀(a8:Nat) (t:G'),u a8 t o->
   ∃(g:G'->Nat->G'->Heap->Prop),ZC 273 [.slice none 0 0,Φi y,Φi (y+1)] 0 46 a8 t false o ⟨false,[(false,[.row 64 46])]⟩ g/\
   ∀(L:Heap),Heap.le o L->∀(T:G') (G:Nat) (q:G'),g T G q L->∀(Q:D') (Z:Nat) (p:Heap),Heap.le L p->Cells p Q 0 q->G<=Z->
    ∃(a:ByteArray->D'->Nat->Nat->D'->Nat->Nat->D'->Nat->Nat->D'->Nat->Nat->Heap->Prop),ZB 269 [.agg ⟨[ΦT nm,S A n c,S B m d,S E k e,S F l f]⟩,S Q G Z,Φi x] p Jv a/\
     ∀(D:Heap),Heap.le p D->∀(b7:ByteArray) (b8:D') (a9 b5:Nat) (R:D') (W b4:Nat) (a0:D') (V a6:Nat) (M:D') (X b3:Nat),a b7 b8 a9 b5 R W b4 a0 V a6 M X b3 D->
      aV D b7 b8 a9 b5 R W b4 a0 V a6 M X b3 {s with vers:=bf s.vers (v.cols.eraseIdx y.toNat) x}/\(0:Int)=0:=by
  intro P l4;have L4:=aa (aa l2 l3) l4;refine u' ⟨_,rU (r3.mono L4),?_⟩;rintro H5 l5 n5 xs ⟨c4,hr⟩;obtain rfl:n1=n5:=c4.symm;have hd:=JJ (H:=H5) (n:=n1) (i:=y.toNat) (j:=y.toNat+1) (r:=64) (xs:=xs) (by simp) (by omega);rw[show((y.toNat))=y by omega,show((y.toNat+1:Nat))=y+1 by omega]at hd;refine⟨_,hd,?_⟩;rintro H6 l6 ys _ zs ⟨rfl,rfl⟩;intro A7 c7 H7 l7 g7 b9;have L7:=aa L3 (aa l4 (aa l5 (aa l6 l7)));have a7:Row H5 (xs.take (y.toNat*3)++xs.drop ((y.toNat+1)*3)) (v.cols.eraseIdx y.toNat):=by
   rw[adV];exact(hr.take _).append (hr.drop _)
  have c5:(v.cols.eraseIdx y.toNat).length=n1-(y.toNat+1-y.toNat):=by
   grind
  have c3:=a7.sl (aa l6 l7) g7 c5 b9 (by show _*32<=_;omega) (by omega);refine⟨_,rV (w.mono L7) c3 hx (bF b) b6,?_⟩;simp
 refine⟨λ a4=>⟨_,En (w.mono L3) (bF b),?_⟩,λ a4=>?_⟩
 .have a4:=aab a4;rintro P l4 _ rfl;refine⟨λ a5=>?_,λ a5=>?_⟩
  .rw[if_pos (.inr (.inr ⟨a4,a5⟩))];exact⟨ba,rfl⟩
  grind
 .rw[if_neg (by
   grind)]
  exact c6 (ah _)
end
end
section
variable {a:Heap}{b:D'}{g h:Nat}{i p:Int}{j:List cz}{o:I'}
def iP {s:ByteArray}:ZB 92 [ΦT s] a fg (λ b _=>b=dH s):=by
 refine ΦK 0 (aj [4] [] []) (λ b=>C ZO 150 [ΦT s] a λ c d=>ΦQ d (V (s={data:=⟨[(118:UInt8),(102:UInt8),(114:UInt8),(111:UInt8),(109:UInt8)]⟩}) (V (s={data:=⟨[(118:UInt8),(116:UInt8),(111:UInt8)]⟩}) (V (s={data:=⟨[(114:UInt8),(102:UInt8),(114:UInt8),(111:UInt8),(109:UInt8)]⟩}) (b (!decide (s={data:=⟨[(114:UInt8),(116:UInt8),(111:UInt8)]⟩})) c) (b false c)) (b false c)) (b false c)) (b false c)) ?_;dsimp only[aQ,aR,C,ΦQ,V];refine⟨_,jQ,?_⟩;unfold dH;grind
def dQ (m:Sl a b g h o):
  ZB 42 [S b g h,Φi i] a fg (λ r _=>r=o.contains i):=by
 refine ΦK 0 (aj [] [] [(2,[ag 5])]) (λ c=>W ZE a (λ d=>d 0 a) λ d e f h=>J (h<O g) (ΦX b h g (ΦE ZE f b (N h*1) (λ j=>J (j=i) (c true f) (ΦR (h+1)/\d (h+1) f/\e (h+1)<e h)))) (c false f)) ?_;dsimp only[PL,aW,eQ,ΦE,N,ΦR,W,ΦX,O,J];have y:=m.bn;have s:=m.len;refine⟨λ d _=>0<=d/\d<=g/\o.contains i=(o.drop d.toNat).contains i,λ d=>g-d.toNat,P' rfl,?_⟩;rintro w j d ⟨k,z,p⟩;refine⟨λ e=>?_,λ f=>?_⟩
 .have e:=aab e;obtain⟨v,u,_,t,rfl,-⟩:=m.at j k e;rw[ak k v]at p;refine⟨u,k,e,_,t,λ q=>?_,λ q=>u' ⟨y' ?_,by grind⟩⟩
  .grind
  grind
 .rw[ai (aac f) s]at p;grind
def gj:I'->I'->Bool
 | _,[]=>true
 | pre,x::r=> !pre.contains x&&gj (pre++[x]) r
def distinct (l:I'):Bool:=gj [] l
def ie (f:Sl a b g h o):
  ZB 221 [S b g h] a fg (λ r _=>r=distinct o):=by
 refine ΦK 0 (aj [17] [(4,ab 2 7 [17,0])] [(2,[ag 3])]) (λ c=>W ZE a (λ d=>d 0 a) λ d e f i=>J (i<O g) ((0:Int)<=0/\0<=i/\i<=O h/\(∀j:D',j=eM b h (N 0) 1->ΦX b i g (ΦE ZE f b (N i*1) (λ k=>C ZO 42 [S j (N i-N 0) (h-N 0),I k] f λ l m=>ΦQ m (c false l) (ΦR (i+1)/\d (i+1) l/\e (i+1)<e i))))) (c true f)) ?_;dsimp only[PL,aQ,aR,aW,eQ,C,ΦE,N,ΦQ,ΦR,W,ΦX,O,J];have x:=f.bn;have u:=f.len;have y:=f.cap;unfold distinct;refine⟨λ i _=>0<=i/\i<=g/\gj [] o=gj (o.take i.toNat) (o.drop i.toNat),λ i=>g-i.toNat,y' rfl,?_⟩;rintro F m i ⟨e,B,p⟩;refine⟨λ d=>?_,λ q=>?_⟩
 .have d:=aab d;obtain⟨v,t,_,w,rfl,-⟩:=f.at m e d;rw[ak e v,gj]at p;refine N' ⟨e,u' ?_⟩;rintro D rfl;refine⟨t,e,d,_,w,_,dQ ((f.sub (j:=0) (k:=i.toNat) (by simp) (by omega)).mono m),?_⟩;rintro z E _ rfl;rw[abN];refine⟨λ s=>?_,λ s=>u' ⟨y' ?_,by grind⟩⟩
  .grind
  .rw[p,s,take_at e _];rfl
 .rw[ai (aac q) u]at p;rw[p];rfl
def ig {x:Int}(q:Sl a b g h j):
  ZB 95 [.agg ⟨[Φi i,Φi p,S b g h]⟩,Φi x] a gL (λ r _=>r=idxOf (λ h=>decide (h.id=x)) 0 j):=by
 refine ΦK 0 (aj [] [] [(2,[ag 5])]) (λ c=>W ZE a (λ d=>d 0 a) λ d e f h=>J (h<O g) (ΦX b h g (ΦE ZE f b (N h*3+0) (λ i=>J (i=x) (c h f) (ΦR (h+1)/\d (h+1) f/\e (h+1)<e h)))) (c (-1) f)) ?_;dsimp only[PL,aW,eQ,ΦE,N,ΦR,W,ΦX,O,J];have z:=q.bn;refine⟨λ g _=>0<=g/\g<=j.length/\idxOf (λ h=>decide (h.id=x)) 0 j=idxOf _ g (j.drop g.toNat),λ g=>j.length-g.toNat,P' rfl,?_⟩;rintro y m d ⟨o,B,s⟩;refine⟨λ e=>?_,λ f=>?_⟩
 .have e:=aab e;obtain⟨v,w,_,u,rfl,-⟩:=q.at m o e;rw[ak o v,idxOf]at s;refine⟨w,o,e,_,u.cy (k:=0) rfl,λ t=>?_,λ t=>u' ⟨y' ?_,by grind⟩⟩
  .grind
  grind
 .rw[ai (aac f) q.len,idxOf]at s;grind
def ql {x:ByteArray}(q:Sl a b g h j):
  ZB 93 [.agg ⟨[Φi i,Φi p,S b g h]⟩,ΦT x] a gL (λ r _=>r=idxOf (λ h=>decide (h.name=x)) 0 j):=by
 refine ΦK 0 (aj [] [] [(2,[ag 5])]) (λ c=>W ZE a (λ d=>d 0 a) λ d e f h=>J (h<O g) (ΦX b h g (ΦE Xr f b (N h*3+1) (λ i=>J (i=x) (c h f) (ΦR (h+1)/\d (h+1) f/\e (h+1)<e h)))) (c (-1) f)) ?_;dsimp only[PL,aW,eQ,ΦE,N,ΦR,W,ΦX,O,J];have z:=q.bn;refine⟨λ g _=>0<=g/\g<=j.length/\idxOf (λ h=>decide (h.name=x)) 0 j=idxOf _ g (j.drop g.toNat),λ g=>j.length-g.toNat,P' rfl,?_⟩;rintro y m d ⟨o,B,s⟩;refine⟨λ e=>?_,λ f=>?_⟩
 .have e:=aab e;obtain⟨v,w,_,u,rfl,-⟩:=q.at m o e;rw[ak o v,idxOf]at s;refine⟨w,o,e,_,u.cy (k:=1) rfl,λ t=>?_,λ t=>u' ⟨y' ?_,by grind⟩⟩
  .grind
  grind
 .rw[ai (aac f) q.len,idxOf]at s;grind
section
variable {H:Heap}{nm:ByteArray}{A:D'}{n c:Nat}{B:D'}{m d:Nat}{E:D'}{k e:Nat}{F:D'}{l f:Nat}{s:bp}
def iQ (Z:aV H nm A n c B m d E k e F l f s)(w:Sl H b g h o):
  ZB 222 [.agg ⟨[ΦT nm,S A n c,S B m d,S E k e,S F l f]⟩,S b g h] H fg (λ r _=>r=permanent s.vers o):=by
 refine ΦK 0 (aj [29] [(7,ab 2 9 [21,22,0])] [(2,[ag 5]),(5,[ag 6])]) (λ a=>W ZE H (λ c=>c 0 H) λ c d e f=>J (f<O n) (W ZE e (λ h=>h 0 e) (λ h i j k=>J (k<O g) (ΦX A f n (ΦE Xs j A (N f*3) (λ l m o p q=>ΦX b k g (ΦE ZE j b (N k*1) (λ r=>C ZP 95 [ΦG [I l,I m,S o p q],I r] j λ s t=>J (t<0) (a false s) (ΦR (k+1)/\h (k+1) s/\i (k+1)<i k)))))) (ΦR (f+1)/\c (f+1) j/\d (f+1)<d f))) (a true e)) ?_;dsimp only[PL,aQ,aR,aW,eQ,C,ΦE,N,ΦR,W,ΦX,O,J];have M:=Z.vers;have b1:=M.bn;have X:=M.len;have b3:=w.bn;have Y:=w.len;unfold permanent;refine⟨λ i _=>0<=i/\i<=n/\(s.vers.all λ v=>o.all λ x=>dq v.cols x)=((s.vers.drop i.toNat).all λ v=>o.all λ x=>dq v.cols x),λ i=>n-i.toNat,y' rfl,?_⟩;rintro H2 u i ⟨z,h1,P⟩;refine⟨λ a=>?_,λ y=>?_⟩
 .have a:=aab a;have hi:i.toNat<s.vers.length:=by omega
  rw[ak z hi,abr]at P;refine⟨λ k _=>0<=k/\k<=g/\(o.all λ x=>dq s.vers[i.toNat].cols x)=((o.drop k.toNat).all λ x=>dq s.vers[i.toNat].cols x),λ k=>g-k.toNat,y' rfl,?_⟩;rintro H3 t k ⟨L,k1,R⟩;refine⟨λ j=>?_,λ G=>?_⟩
  .have j:=aab j;obtain⟨T,V,_,hc,⟨A',n',c',rfl,r1,r2,D⟩⟩:=M.at (aa u t) z a;obtain⟨U,kA,_,kc,rfl,r⟩:=w.at (aa u t) L j;rw[ak L U]at R;refine⟨V,z,a,_,_,_,_,_,hc,kA,L,j,_,kc,_,ig D,?_⟩;rintro H4 Q r rfl;have:=zA (λ c=>decide (c.id=o[k.toNat])) s.vers[i.toNat].cols;rw[aad,aaf,this,<-dq];refine⟨λ hf=>?_,λ w=>u' ⟨y' ?_,by grind⟩⟩
   .grind
   grind
  .rw[ai (aac G) Y]at R;refine u' ⟨y' ?_,by grind⟩;grind
 .rw[ai (aac y) X]at P;grind
def gG (U:aV H nm A n c B m d E k e F l f s):
  ZB 54 [.agg ⟨[ΦT nm,S A n c,S B m d,S E k e,S F l f]⟩] H gL (λ r _=>r=width s/\ae .i64 r):=by
 refine ΦK 0 (aj [] [] [(3,[ag 3,ag 4]),(6,[ag 3,ag 5])]) (λ a=>W ZK H (λ b=>b 0 0 H) λ b c d e f=>J (f<O n) (W ZK d (λ g=>g e 0 d) (λ g h i j k=>ΦX A f n (ΦE ZM i A (N f*3+2) (λ l m o=>J (k<O m) (ΦX A f n (ΦE ZM i A (N f*3+2) (λ p q r=>ΦX p k q (ΦE ZE i p (N k*3+0) (λ s=>ΦR (k+1)/\g (max j s) (k+1) i/\h (max j s) (k+1)<h j k))))) (ΦR (f+1)/\b j (f+1) i/\c j (f+1)<c e f))))) (a e d)) ?_;dsimp only[PL,aW,eQ,ΦE,N,ΦR,W,ΦX,O,J];have t:=U.vers;have v1:=t.bn;have R:=t.len;unfold width;refine⟨λ w i _=>0<=i/\i<=n/\ae .i64 w/\aS 0 s.vers=aS w (s.vers.drop i.toNat),λ _ i=>n-i.toNat,y' ⟨by simp[ae],rfl⟩,?_⟩;rintro H2 q w i ⟨h,h1,Q,C⟩;refine⟨λ a=>?_,λ u=>?_⟩
 .have a:=aab a;have V:i.toNat<s.vers.length:=by omega
  rw[ak h V,aS]at C;have Y:s.vers[i.toNat].cols.length<=140737488355328:=by
   obtain⟨_,_,_,_,⟨_,G,_,_,_,_,b⟩⟩:=t.at q h a;have:=b.bn;have:=b.len;omega
  refine⟨λ v j _=>0<=j/\j<=s.vers[i.toNat].cols.length/\ae .i64 v/\aF w s.vers[i.toNat].cols=aF v (s.vers[i.toNat].cols.drop j.toNat),λ _ j=>s.vers[i.toNat].cols.length-j.toNat,P' ⟨Q,rfl⟩,?_⟩;rintro H3 p v j ⟨y,Z,P,z⟩;obtain⟨M,D,_,o,⟨A',G,c',rfl,r1,r2,b⟩⟩:=t.at (aa q p) h a;have I:=b.len;refine⟨D,h,a,_,_,_,o.cy (k:=2) rfl,λ g=>?_,λ x=>?_⟩
  .have g:=aab g;obtain⟨L,T,_,X,rfl,q1,q2,q3⟩:=b.at (ah _) y g;rw[ak y L]at z;exact⟨D,h,a,_,_,_,o.cy (k:=2) rfl,T,y,g,_,X.cy (k:=0) rfl,by omega,y' (T' z),by grind⟩
  .rw[ai (aac x) I,aF]at z;exact u' ⟨y' ⟨P,by grind⟩,by grind⟩
 .rw[ai (aac u) R,aS]at C;grind
def qm (P:aV H nm A n c B m d E k e F l f s):
  ZB 98 [.agg ⟨[ΦT nm,S A n c,S B m d,S E k e,S F l f]⟩,Φi i] H ⟨true,[(true,[.int .i64,.int .i64,.sl]),(false,[.bool])]⟩
   (λ a b G z C L T=>L=(cY i s.vers).isSome/\ae .i64 a/\ae .i64 b/\∃l,Sl T G z C l/\(⟨⟨a,b⟩,l⟩:dh)=(cY i s.vers).getD og):=by
 refine ΦK 0 (aj [] [] [(2,[ag 6,.box 4 87 [.int .i64,.int .i64,.sl]])]) (λ a=>W Xw H (λ b=>b 0 0 0 none 0 0 H) λ b c d e f g h j k=>J (e<O n) (ΦX A e n (ΦE ZK d A (N e*3+0) (λ l m=>let o:=ΦR (e+1)/\b (e+1) f g h j k d/\c (e+1) f g h j k<c e f g h j k;J (l<=i) (J (i<m) (ΦX A e n (ΦE Xs d A (N e*3) (λ p q r s t=>a p q r s t true d))) o) o))) (a 0 0 none 0 0 false d)) ?_;dsimp only[PL,aW,eQ,ΦE,N,ΦR,W,ΦX,O,J];have w:=P.vers;have V:=w.bn;have M:=w.len;refine⟨λ g _ _ _ _ _ _=>0<=g/\g<=n/\cY i s.vers=cY i (s.vers.drop g.toNat),λ g _ _ _ _ _=>n-g.toNat,P' rfl,?_⟩;rintro X y g _ _ _ _ _ ⟨q,U,o⟩;refine⟨λ j=>?_,λ r=>?_⟩
 .have j:=aab j;obtain⟨Q,D,_,p,⟨G,z,C,rfl,I,R,u⟩⟩:=w.at y q j;rw[ak q Q,cY]at o;refine⟨D,q,j,_,_,p.TH (k:=0) rfl rfl,λ t=>⟨λ v=>?_,λ v=>?_⟩,λ t=>?_⟩
  .rw[if_pos ⟨aab t,aab v⟩]at o;refine⟨D,q,j,_,_,_,_,_,p,?_⟩;rw[o];exact⟨rfl,I,R,_,u,rfl⟩
  .rw[if_neg (λ h=>aac v h.2)]at o;exact u' ⟨y' o,by grind⟩
  .rw[if_neg (λ h=>aac t h.1)]at o;exact u' ⟨y' o,by grind⟩
 .rw[ai (aac r) M]at o;rw[o];exact⟨rfl,by simp[ae],by simp[ae],[],Sl.nil,rfl⟩
end
def ug {B:D'}{m d:Nat}{p:List cz}(t:Sl a b g h j)(s:Sl a B m d p):
  ZB 34 [S b g h,S B m d] a fg (λ r _=>r=decide (j=p)):=by
 refine ΦK 0 (aj [] [(6,gb)] [(4,[ag 5])]) (λ c=>V (O g=O m) (c false a) (W ZE a (λ d=>d 0 a) (λ d e f h=>J (h<O g) (ΦX b h g (ΦE Xq f b (N h*3) (λ i j k=>ΦX B h m (ΦE Xq f B (N h*3) (λ l n o=>ΦQ (!(decide (i=l)&&(decide (j=n)&&decide (k=o)))) (c false f) (ΦR (h+1)/\d (h+1) f/\e (h+1)<e h)))))) (c true f)))) ?_;dsimp only[PL,aW,eQ,ΦE,N,ΦQ,ΦR,W,ΦX,O,V,J];have I:=t.bn;have z:=t.len;have M:=s.bn;have y:=s.len;refine⟨λ e=>?_,λ e=>?_⟩
 .grind
 have e:g=m:=by grind
 subst e;refine⟨λ i _=>0<=i/\i<=g/\decide (j=p)=decide (j.drop i.toNat=p.drop i.toNat),λ i=>g-i.toNat,P' rfl,?_⟩;rintro Q q i ⟨k,L,v⟩;refine⟨λ f=>?_,λ o=>?_⟩
 .have f:=aab f;obtain⟨C,x,_,G,rfl,-⟩:=t.at q k f;obtain⟨w,F,_,E,rfl,-⟩:=s.at q k f;rw[ak k C,ak k w]at v;refine⟨x,k,f,_,_,_,G,F,k,f,_,_,_,E,λ P=>?_,λ D=>u' ⟨y' ?_,by grind⟩⟩
  .grind
  .have:j[i.toNat]=p[i.toNat]:=by
    generalize j[i.toNat]=u at D;cases u;simp_all
   grind
 .rw[ai (aac o) z,ai (aac o) y]at v;grind
def mT {f o:Int}{B:D'}{m d:Nat}{k:List cz}(s:Sl a b g h j)(q:Sl a B m d k):
  ZB 137 [.agg ⟨[Φi i,Φi p,S b g h]⟩,.agg ⟨[Φi f,Φi o,S B m d]⟩] a fg (λ r _=>r=decide ((⟨⟨i,p⟩,j⟩:dh)=⟨⟨f,o⟩,k⟩)):=by
 refine ΦK 0 (aj [14] [] []) (λ c=>ΦQ (!(decide (i=f)&&decide (p=o))) (c false a) (C ZO 34 [S b g h,S B m d] a (λ e j=>c j e))) ?_;dsimp only[aQ,aR,C,ΦQ];refine⟨λ e=>?_,λ e=>⟨_,ug s q,?_⟩⟩
 .grind
 simp_all
end
def sM (a:List cz):Int->Option Int->List cz->Bool
 | _,_,[]=>true
 | i,p,c::r=>decide (1<=c.id)&&decide (c.id<=12)&&(match p with | none=>true | some x=>decide (x<c.id))&&dH c.name&&decide (1<=c.kind)&&decide (c.kind<=3)&&
  decide (idxOf (λ o=>decide (o.name=c.name)) 0 a=i)&&sM a (i+1) (some c.id) r
def wO (a:List cz)(i:Int)(p:Option Int)(c:cz)(r:List cz):sM a i p (c::r)=(decide (1<=c.id)&&decide (c.id<=12)&&(match p with | none=>true | some x=>decide (x<c.id))&&dH c.name&&decide (1<=c.kind)&&decide (c.kind<=3)&&
 decide (idxOf (λ o=>decide (o.name=c.name)) 0 a=i)&&sM a (i+1) (some c.id) r):=by rfl
def Bn (v:dh):Bool:=dm v.rc&&decide (1<=v.cols.length)&&decide (v.cols.length<=12)&&sM v.cols 0 none v.cols
def sN {H:Heap}{a b:Int}{A:D'}{n c:Nat}{l:List cz}(f:Sl H A n c l):
  ZB 219 [.agg ⟨[Φi a,Φi b,S A n c]⟩] H fg (λ r _=>r=Bn ⟨⟨a,b⟩,l⟩):=by
 refine ΦK 0 (aj [7,60,77] [(7,ab 2 27 [57,58,60,62,64,66,68,70,72,74,76,78,80,82,84,86,88,92,91,94,96,0])] [(4,[ag 3])]) (λ d=>C ZO 151 [ΦG [I a,I b]] H λ e f=>ΦQ (!f) (d false e) (J (O n=0) (d false e) (J (12<O n) (d false e) (W ZE e (λ g=>g 0 e) (λ g h i j=>J (j<O n) (ΦX A j n (ΦE Xq i A (N j*3) (λ k l m=>J (k<1) (d false i) (J (12<k) (d false i) (let o:=C ZO 92 [ΦT l] i λ o p=>ΦQ (!p) (d false o) (J (m<1) (d false o) (J (3<m) (d false o) (C ZP 93 [ΦG [I a,I b,S A n c],ΦT l] o (λ q r=>V (r=j) (d false q) (ΦR (j+1)/\g (j+1) q/\h (j+1)<h j)))));J (0<j) (ΦR (j-1)/\ΦX A (j-1) n (ΦE ZE i A (N (j-1)*3+0) (λ p=>J (k<=p) (d false i) o))) o))))) (d true i)))))) ?_;dsimp only[PL,aQ,aR,aW,eQ,C,ΦE,N,ΦQ,ΦR,W,ΦX,O,V,J];have X:=f.bn;have E:=f.len;unfold Bn;refine⟨_,dX,?_⟩;rintro H1 P _ rfl;refine⟨λ h=>by simp only[aay]at h;simp[h],λ x=>⟨λ h=>?_,λ v=>⟨λ h=>?_,λ t=>?_⟩⟩⟩
 .have:=aab h;rw[aao (p:=1<=l.length) (by omega)];simp
 .have:=aab h;rw[aao (p:=l.length<=12) (by omega)];simp
 simp only[aaF]at x;have v:=aac v;have t:=aac t;rw[x,aau (p:=1<=l.length) (by omega),aau (p:=l.length<=12) (by omega)];simp only[aaY];refine⟨λ i _=>0<=i/\i<=n/\sM l 0 none l=sM l i (if i<=0 then none else l[(i-1).toNat]?.map (·.id)) (l.drop i.toNat),λ i=>n-i.toNat,y' rfl,?_⟩;rintro H2 M i ⟨q,i1,d⟩;have g:=aa P M;refine⟨λ e=>?_,λ j=>?_⟩
 .have e:=aab e;obtain⟨w,D,_,R,rfl,Z,q2,q3⟩:=f.at g q e;rw[ak q w,wO]at d;have L:(if i+1<=0 then none else l[(i+1-1).toNat]?.map (·.id))=some l[i.toNat].id:=by
   rw[if_neg (by omega),show(i+1-1).toNat=i.toNat by omega,aai w];rfl
  have d:=d.symm;refine⟨D,q,e,_,_,_,R,λ h=>?_,λ t1=>⟨λ h=>?_,λ T=>⟨λ s=>?_,λ s=>?_⟩⟩⟩
  .rw[<-d,aao (p:=1<=l[i.toNat].id) (by have:=aab h;omega)];simp
  .rw[<-d,aao (p:=l[i.toNat].id<=12) (by have:=aab h;omega)];simp
  .have s:=aab s;obtain⟨y,F,_,G,rfl,-⟩:=f.at g (i:=i-1) (by omega) (by omega);rw[if_neg (by omega),aai y]at d;refine u' ⟨F,y' ⟨_,G.cy (k:=0) rfl,λ h=>?_,λ U=>⟨_,iP,?_⟩⟩⟩
   .rw[<-d];simp only[acC];rw[aao (p:=l[(i-1).toNat].id<l[i.toNat].id) (by have:=aab h;omega)];simp
   rintro B o _ rfl;simp only[acC]at d;rw[aau (p:=1<=l[i.toNat].id) (by grind),aau (p:=l[i.toNat].id<=12) (by grind),aau (p:=l[(i-1).toNat].id<l[i.toNat].id) (by grind)]at d;refine⟨λ h=>?_,λ m=>⟨λ h=>?_,λ Q=>⟨λ h=>?_,λ z=>⟨_,ql (f.mono (aa g o)),?_⟩⟩⟩⟩
   .grind
   .grind
   .grind
   rintro Y l4 _ rfl;refine⟨λ h=>?_,λ u=>u' ⟨y' ?_,by grind⟩⟩
   .grind
   .simp only[aaF]at m u;rw[<-d,m,u,aau (p:=1<=l[i.toNat].kind) (by grind),aau (p:=l[i.toNat].kind<=3) (by grind),L];rfl
  .refine⟨_,iP,?_⟩;rintro B o _ rfl;refine⟨λ h=>?_,λ m=>⟨λ h=>?_,λ Q=>⟨λ h=>?_,λ z=>⟨_,ql (f.mono (aa g o)),?_⟩⟩⟩⟩
   .grind
   .grind
   .grind
   grind
 .rw[ai (aac j) E]at d;rw[d];rfl
def sO {T:Type}(p:T->Bool):∀(l:List T) (i:Int),0<=i->(0<=idxOf p i l->∃h:(idxOf p i l-i).toNat<l.length,i<=idxOf p i l/\l.find? p=some (l[(idxOf p i l-i).toNat]))/\(idxOf p i l<0->l.find? p=none)
 |[],i,h=>⟨λ h=>by simp[idxOf]at h,λ _=>rfl⟩
 | x::r,i,h=>by
  have c:=sO p r (i+1) (by omega);unfold idxOf;by_cases b:p x=true
  .simp only[b,aeC];refine⟨λ _=>⟨by simp,u' (by simp[abG,b])⟩,λ a=>by omega⟩
  .simp only[b,acF,adA];refine⟨λ a=>?_,λ a=>?_⟩
   .obtain⟨e,d,f⟩:=c.1 a;refine⟨by simp;omega,u' ?_⟩;have:(idxOf p (i+1) r-i).toNat=(idxOf p (i+1) r-(i+1)).toNat+1:=by omega
    simp_all
   simp_all
def bI (a:List cz)(g:Int)(c:cz):Bool:=match a.find? (λ d=>decide (d.id=c.id))with
 | none=>decide (g<c.id)
 | some d=>decide (d=c)
def follows (a b:dh)(g:Int):Bool:=decide (a.rc.hi=b.rc.lo)&&b.cols.all (bI a.cols g)
def Bo {H:Heap}{a b Q P g:Int}{A B:D'}{n c m d:Nat}{l q:List cz}(z:Sl H A n c l)(E:Sl H B m d q):
  ZB 220 [.agg ⟨[Φi a,Φi b,S A n c]⟩,.agg ⟨[Φi Q,Φi P,S B m d]⟩,Φi g] H fg (λ r _=>r=follows ⟨⟨a,b⟩,l⟩ ⟨⟨Q,P⟩,q⟩ g):=by
 refine ΦK 0 (aj [30] [(6,ab 2 7 [17,18,0]),(7,ab 2 29 [0])] [(4,[ag 7])]) (λ d=>V (b=Q) (d false H) (W ZE H (λ e=>e 0 H) (λ e f h i=>J (i<O m) (ΦX B i m (ΦE ZE h B (N i*3+0) (λ j=>C ZP 95 [ΦG [I a,I b,S A n c],I j] h λ k l=>let o:=let o:=ΦR (i+1)/\e (i+1) k/\f (i+1)<f i;J (0<=l) (ΦX A l n (ΦE Xq k A (N l*3) (λ p q r=>ΦX B i m (ΦE Xq k B (N i*3) (λ s t u=>ΦQ (!(decide (p=s)&&(decide (q=t)&&decide (r=u)))) (d false k) o))))) o;J (l<0) (ΦX B i m (ΦE ZE k B (N i*3+0) (λ p=>J (p<=g) (d false k) o))) o))) (d true h)))) ?_;dsimp only[PL,aQ,aR,aW,eQ,C,ΦE,N,ΦQ,ΦR,W,ΦX,O,V,J];have b1:=z.bn;have b2:=z.len;have c1:=E.bn;have X:=E.len;unfold follows;refine⟨λ h=>?_,λ h=>?_⟩
 .simp only[aay]at h;simp only[h];rfl
 simp only[aaF]at h;simp only[h,aaY];refine⟨λ i _=>0<=i/\i<=m/\q.all (bI l g)=(q.drop i.toNat).all (bI l g),λ i=>m-i.toNat,y' rfl,?_⟩;rintro H2 L i ⟨w,i1,x⟩;refine⟨λ f=>?_,λ D=>?_⟩
 .have f:=aab f;obtain⟨Z,F,_,M,rfl,q1,q2,q3⟩:=E.at L w f;rw[ak w Z,abr]at x;have j:=sO (λ c=>decide (c.id=q[i.toNat].id)) l 0 (by omega);generalize U:q[i.toNat]=y at*;refine⟨F,w,f,_,M.cy (k:=0) rfl,_,ig (z.mono L),?_⟩;rintro H3 G r rfl;generalize hk:idxOf (λ c=>decide (c.id=y.id)) 0 l=k at j;have T:=aa L G;have o:bI l g y=true->ae .i64 (i+1)/\(0<=i+1/\i+1<=m/\q.all (bI l g)=(q.drop (i+1).toNat).all (bI l g))/\m-(i+1).toNat<m-i.toNat:=λ Y=>
   (u' ⟨y' (by rw[x,Y];rfl),by omega⟩)
  refine⟨λ h=>?_,λ h=>⟨λ p=>?_,λ p=>?_⟩⟩
  .have h:=aab h;have hn:=j.2 h;have e:bI l g y=decide (g<y.id):=by unfold bI;rw[hn]
   refine⟨F,w,f,_,(M.mono G).cy (k:=0) rfl,λ t=>?_,λ t=>⟨λ p=>?_,λ _=>?_⟩⟩
   .rw[x,e,aao (by have:=aab t;omega)];rfl
   .have:=aab p;omega
   .exact o (by rw[e,aau (by have:=aac t;omega)])
  .have p:=aab p;obtain⟨v,R,s⟩:=j.1 p;simp only[Int.sub_zero]at v s;obtain⟨ki,kA,_,kc,rfl,-⟩:=z.at T (i:=k) p (by omega);have e:bI l g y=decide (l[k.toNat]=y):=by unfold bI;grind
   refine⟨kA,p,by omega,_,_,_,kc,F,w,f,_,_,_,M.mono G,λ t=>?_,λ t=>o ?_⟩
   .grind
   .rw[e];generalize l[k.toNat]=u at t;cases u;simp_all
  grind
 .rw[ai (aac D) X]at x;grind
section
def fG:Option dh->Int->List dh->Bool
 | _,_,[]=>true
 | p,g,v::r=>Bn v&&(match p with | none=>true | some a=>follows a v g)&&fG (some v) (aF g v.cols) r
def eY (p:Option dh)(g:Int)(v:dh)(r:List dh):fG p g (v::r)=(Bn v&&(match p with | none=>true | some a=>follows a v g)&&fG (some v) (aF g v.cols) r):=by rfl
def mU (l:I'):Bool:=l.all λ x=>decide (1<=x)&&decide (x<=12)
def Ot (l:List dh)(f:nz):Bool:=decide (f.cols.length≠0)&&distinct f.cols&&permanent l f.cols&&bq f.table&&decide (f.refs.length=f.cols.length)&&distinct f.refs&&mU f.refs
def vB (l:List dh)(f:Rs):Bool:=(decide (f.kind=1)||decide (f.kind=2))&&decide (f.cols.length≠0)&&distinct f.cols&&permanent l f.cols
def mV (s:bp):Bool:=bq s.name&&eV s.vers&&fG none 0 s.vers&&distinct s.key&&permanent s.vers s.key&&decide (s.fks.length<=4)&&decide (s.csts.length<=4)&&(s.fks.all (Ot s.vers))&&(s.csts.all (vB s.vers))
section
variable {H:Heap}{nm:ByteArray}{A:D'}{n c:Nat}{B:D'}{m d:Nat}{E:D'}{k e:Nat}{F:D'}{l f:Nat}{s:bp}
def qn (hs:aV H nm A n c B m d E k e F l f s):
  ZB 149 [.agg ⟨[ΦT nm,S A n c,S B m d,S E k e,S F l f]⟩] H fg (λ r _=>r=mV s):=by
 refine ΦK 0 (aj [13,46,64,93,99,133,140,146,161,214,221] [(7,[2,4,6,8,10,13]++ab 14 17 [49,50,52,54,0])] [(5,[ag 3,ag 4]),(10,[ag 3,ag 5]),(16,[ag 6]),(22,[ag 8]),(27,[ag 9])]) (λ a=>C ZO 150 [ΦT nm] H λ b g=>ΦQ (!g) (a false b) (J (O n=0) (a false b) (ΦR (O n-1)/\ΦX A (O n-1) n (ΦE ZE b A (N (O n-1)*3+0+1) (λ h=>V (h=1099511627776) (a false b) (W ZK b (λ i=>i 0 0 b) (λ i j o p q=>J (q<O n) (ΦX A q n (ΦE Xs o A (N q*3) (λ r s t u v=>C ZO 219 [ΦG [I r,I s,S t u v]] o λ w x=>ΦQ (!x) (a false w) (let y:=λ y=>W ZK y (λ z=>z p 0 y) λ z a0 a1 a2 a3=>ΦX A q n (ΦE ZM a1 A (N q*3+2) (λ a4 a5 a6=>J (a3<O a5) (ΦX A q n (ΦE ZM a1 A (N q*3+2) (λ a7 a8 a9=>ΦX a7 a3 a8 (ΦE ZE a1 a7 (N a3*3+0) (λ b0=>ΦR (a3+1)/\z (max a2 b0) (a3+1) a1/\a0 (max a2 b0) (a3+1)<a0 a2 a3))))) (ΦR (q+1)/\i a2 (q+1) a1/\j a2 (q+1)<j p q)));J (0<q) (ΦR (q-1)/\ΦX A (q-1) n (ΦE Xs w A (N (q-1)*3) (λ z a0 a1 a2 a3=>ΦX A q n (ΦE Xs w A (N q*3) (λ a4 a5 a6 a7 a8=>C ZO 220 [ΦG [I z,I a0,S a1 a2 a3],ΦG [I a4,I a5,S a6 a7 a8],I p] w λ a9 b0=>ΦQ (!b0) (a false a9) (y a9)))))) (y w))))) (C ZO 221 [S B m d] o (λ r s=>ΦQ (!s) (a false r) (let t:=[ΦT nm,S A n c,S B m d,S E k e,S F l f];C ZO 222 [ΦG t,S B m d] r λ u v=>ΦQ (!v) (a false u) (J (4<O k) (a false u) (J (4<O l) (a false u) (W ZE u (λ w=>w 0 u) (λ w x y z=>let a0:=λ(a0:Int) a1 a2 a3=>ΦR (a0+1)/\a1 (a0+1) a2/\a3 (a0+1)<a3 a0;J (z<O k) (ΦX E z k (ΦE Xu y E (N z*3) (λ a1 a2 a3 a4 a5 a6 a7=>J (O a2=0) (a false y) (C ZO 221 [S a1 a2 a3] y (λ a8 a9=>ΦQ (!a9) (a false a8) (C ZO 222 [ΦG t,S a1 a2 a3] a8 (λ b0 b1=>ΦQ (!b1) (a false b0) (C ZO 150 [ΦT a4] b0 (λ b2 b3=>ΦQ (!b3) (a false b2) (V (O a6=O a2) (a false b2) (C ZO 221 [S a5 a6 a7] b2 (λ b4 b5=>ΦQ (!b5) (a false b4) (W ZE b4 (λ b6=>b6 0 b4) (λ b6 b7 b8 b9=>J (b9<O a6) (ΦX a5 b9 a6 (ΦE ZE b8 a5 (N b9*1) (λ c0=>J (c0<1) (a false b8) (ΦX a5 b9 a6 (ΦE ZE b8 a5 (N b9*1) (λ c1=>J (12<c1) (a false b8) (a0 b9 b6 b8 b7))))))) (a0 z w b8 x))))))))))))))) (W ZE y (λ a1=>a1 0 y) (λ a1 a2 a3 a4=>J (a4<O l) (ΦX F a4 l (ΦE Xv a3 F (N a4*2) (λ a5 a6 a7 a8=>let a9:=J (O a7=0) (a false a3) (C ZO 221 [S a6 a7 a8] a3 (λ a9 b0=>ΦQ (!b0) (a false a9) (C ZO 222 [ΦG t,S a6 a7 a8] a9 (λ b1 b2=>ΦQ (!b2) (a false b1) (a0 a4 a1 b1 a2)))));V (a5=1) (V (a5=2) (a false a3) a9) a9))) (a true a3))))))))))))))))) ?_;dsimp only[PL,aQ,aR,aW,eQ,C,ΦE,N,ΦQ,ΦR,W,ΦX,O,V,J];obtain⟨rfl,b0,U,hk,hf,hc⟩:=id hs;have v1:=U.bn;have v2:=U.len;have f1:=hf.bn;have f2:=hf.len;have c1:=hc.bn;have c2:=hc.len;unfold mV;refine⟨_,jQ,?_⟩;rintro H1 L1 _ rfl;refine⟨λ h=>by simp only[aay]at h;simp[h],λ t1=>⟨λ h=>?_,λ t2=>?_⟩⟩
 .have h:=aab h;rw[aal (by omega:s.vers.length=0)];simp[eV]
 simp only[aaF]at t1;have t2:=aac t2;obtain⟨X,R,_,T,⟨_,_,_,rfl,_,_,_⟩⟩:=U.at L1 (i:=(n:Int)-1) (by omega) (by omega);have a0:=gF s.vers X (by omega);have a2:eV s.vers=decide (s.vers[((n:Int)-1).toNat].rc.hi=1099511627776):=by rw[eV,a0]
 refine u' ⟨R,y' ⟨_,T.cy (k:=1) rfl,λ h=>?_,λ t3=>?_⟩⟩
 .simp only[aay]at h;rw[a2,h];simp
 simp only[aaF]at t3;rw[t1,a2,t3];simp only[aaY];refine⟨λ g i _=>0<=i/\i<=n/\ae .i64 g/\fG none 0 s.vers=fG (if i<=0 then none else s.vers[(i-1).toNat]?) g (s.vers.drop i.toNat),λ _ i=>n-i.toNat,y' ⟨by simp[ae],rfl⟩,?_⟩;rintro H2 l2 g i ⟨u,i1,hg,t⟩;have L2:=aa L1 l2;refine⟨λ a=>?_,λ G=>?_⟩
 .have a:=aab a;obtain⟨hi,hA,_,M,⟨A',n',c',rfl,r1,r2,Y⟩⟩:=U.at L2 u a;rw[ak u hi,eY]at t;have e1:(if i+1<=0 then none else s.vers[(i+1-1).toNat]?)=some s.vers[i.toNat]:=by
   rw[if_neg (by omega),show(i+1-1).toNat=i.toNat by omega,aai hi]
  have b4:s.vers[i.toNat].cols.length<=140737488355328:=by have:=Y.bn;have:=Y.len;omega
  refine⟨hA,u,a,_,_,_,_,_,M,_,sN Y,?_⟩;rintro H3 l3 _ rfl;have P:=aa L2 l3;refine⟨λ h=>?_,λ Q=>⟨λ hp=>?_,λ hp=>?_⟩⟩
  .simp only[aay]at h;rw[t,show Bn s.vers[i.toNat]=false from h];simp
  .have hp:=aab hp;simp only[aaF]at Q;obtain⟨pi,pA,_,pc,⟨b6,b5,b2,rfl,p1,p2,a6⟩⟩:=U.at P (i:=i-1) (by omega) (by omega);obtain⟨b1,a9,_,a3,⟨A3,n3,c3,rfl,b3,b8,a1⟩⟩:=U.at P u a;refine u' ⟨pA,y' ⟨_,_,_,_,_,pc,a9,u,a,_,_,_,_,_,a3,_,Bo a6 a1,?_⟩⟩;rintro H4 l4 _ rfl;rw[if_neg (by omega),aai pi,show Bn s.vers[i.toNat]=true from Q]at t;refine⟨λ h=>?_,λ u2=>?_⟩
   .simp only[aay]at h;rw[t];simp only[show follows s.vers[(i-1).toNat] s.vers[i.toNat] g=false from h];simp
   .simp only[aaF]at u2;simp only[show follows s.vers[(i-1).toNat] s.vers[i.toNat] g=true from u2,aaY]at t;have L4:=aa P l4;refine⟨λ Z j _=>0<=j/\j<=s.vers[i.toNat].cols.length/\ae .i64 Z/\aF g s.vers[i.toNat].cols=aF Z (s.vers[i.toNat].cols.drop j.toNat),λ _ j=>s.vers[i.toNat].cols.length-j.toNat,y' ⟨hg,rfl⟩,?_⟩;rintro H5 l5 Z j ⟨x,j1,jw,w⟩;obtain⟨a8,L,_,v,⟨A5,n5,c5,rfl,a7,a5,o⟩⟩:=U.at (aa L4 l5) u a;have d1:=o.bn;have d2:=o.len;refine⟨L,u,a,_,_,_,v.cy (k:=2) rfl,λ b=>?_,λ D=>?_⟩
    .have b:=aab b;obtain⟨X,R,_,T,rfl,q1,q2,q3⟩:=o.at (ah _) x b;rw[ak x X,aF]at w;exact⟨L,u,a,_,_,_,v.cy (k:=2) rfl,R,x,b,_,T.cy (k:=0) rfl,by omega,y' ⟨by simp only[ae]at*;omega,w⟩,by dsimp only;omega⟩
    .rw[ai (aac D) d2,aF]at w;exact u' ⟨y' ⟨jw,by rw[t,w,e1]⟩,by dsimp only;omega⟩
  .have hp:=aac hp;simp only[aaF]at Q;rw[if_pos (by omega),show Bn s.vers[i.toNat]=true from Q]at t;simp only[aaY]at t;refine⟨λ Z j _=>0<=j/\j<=s.vers[i.toNat].cols.length/\ae .i64 Z/\aF g s.vers[i.toNat].cols=aF Z (s.vers[i.toNat].cols.drop j.toNat),λ _ j=>s.vers[i.toNat].cols.length-j.toNat,y' ⟨hg,rfl⟩,?_⟩;rintro H5 l5 Z j ⟨x,j1,jw,w⟩;obtain⟨a8,L,_,v,⟨A5,n5,c5,rfl,a7,a5,o⟩⟩:=U.at (aa P l5) u a;have d1:=o.bn;have d2:=o.len;refine⟨L,u,a,_,_,_,v.cy (k:=2) rfl,λ b=>?_,λ D=>?_⟩
   .have b:=aab b;obtain⟨X,R,_,T,rfl,q1,q2,q3⟩:=o.at (ah _) x b;rw[ak x X,aF]at w;exact⟨L,u,a,_,_,_,v.cy (k:=2) rfl,R,x,b,_,T.cy (k:=0) rfl,by omega,y' ⟨by simp only[ae]at*;omega,w⟩,by dsimp only;omega⟩
   .rw[ai (aac D) d2,aF]at w;exact u' ⟨y' ⟨jw,by rw[t,w,e1]⟩,by dsimp only;omega⟩
 rw[ai (aac G) v2]at t;rw[t,show∀p q,fG p q []=true from λ _ _=>rfl,aaY];refine⟨_,ie (hk.mono L2),?_⟩;rintro H3 l3 _ rfl;have P:=aa L2 l3;refine⟨λ h=>by simp only[aay]at h;simp[h],λ t4=>⟨_,iQ (hs.mono P) (hk.mono P),?_⟩⟩;simp only[aaF]at t4;rintro H4 l4 _ rfl;have L4:=aa P l4;refine⟨λ h=>by simp only[aay]at h;simp[h],λ t5=>⟨λ h=>?_,λ t6=>⟨λ h=>?_,λ t7=>?_⟩⟩⟩
 .have h:=aab h;rw[aao (p:=s.fks.length<=4) (by omega)];simp
 .have h:=aab h;rw[aao (p:=s.csts.length<=4) (by omega)];simp
 simp only[aaF]at t5;have t6:=aac t6;have t7:=aac t7;rw[t4,t5,aau (p:=s.fks.length<=4) (by omega),aau (p:=s.csts.length<=4) (by omega)];simp only[aaY];refine⟨λ i _=>0<=i/\i<=k/\(s.fks.all (Ot s.vers))=((s.fks.drop i.toNat).all (Ot s.vers)),λ i=>k-i.toNat,y' rfl,?_⟩;rintro H5 l5 i ⟨u,i1,t⟩;have L5:=aa L4 l5;refine⟨λ a=>?_,λ G=>?_⟩
 .have a:=aab a;obtain⟨hi,hA,_,M,⟨A',n',c',B',m',d',rfl,r1,r2,r3⟩⟩:=hf.at L5 u a;rw[ak u hi,abr]at t;have e1:=r1.len;have e2:=r3.len;have e3:=r3.bn;generalize s.fks[i.toNat]=y at*;refine⟨hA,u,a,_,_,_,_,_,_,_,M,λ h=>?_,λ Q=>⟨_,ie r1,?_⟩⟩
  .have h:=aab h;have:Ot s.vers y=false:=by unfold Ot;rw[aao (p:=y.cols.length≠0) (by omega)];simp
   rw[t,this];rfl
  have Q:=aac Q;have z:Ot s.vers y=(distinct y.cols&&permanent s.vers y.cols&&bq y.table&&decide (y.refs.length=y.cols.length)&&distinct y.refs&&mU y.refs):=by
   unfold Ot;rw[aau (p:=y.cols.length≠0) (by omega)];simp
  rintro H6 l6 _ rfl;refine⟨λ h=>?_,λ u2=>⟨_,iQ (hs.mono (aa L5 l6)) (r1.mono l6),?_⟩⟩
  .simp only[aay]at h;rw[t,z,h];simp
  simp only[aaF]at u2;rintro H7 l7 _ rfl;refine⟨λ h=>?_,λ u3=>⟨_,jQ,?_⟩⟩
  .simp only[aay]at h;rw[t,z,h];simp
  simp only[aaF]at u3;rintro H8 l8 _ rfl;refine⟨λ h=>?_,λ u4=>⟨λ h=>?_,λ u5=>⟨_,ie (r3.mono (aa l6 (aa l7 l8))),?_⟩⟩⟩
  .simp only[aay]at h;rw[t,z,h];simp
  .have h:¬(m':Int)=n':=by simpa using h
   rw[t,z,aao (p:=y.refs.length=y.cols.length) (by omega)];simp
  simp only[aaF]at u4;have u5:(m':Int)=n':=by simpa using u5
  rintro H9 l9 _ rfl;refine⟨λ h=>?_,λ u6=>?_⟩
  .simp only[aay]at h;rw[t,z,h];simp
  simp only[aaF]at u6;rw[u2,u3,u4,u6,aau (p:=y.refs.length=y.cols.length) (by omega)]at z;simp only[aaY]at z;have L9:=aa l6 (aa l7 (aa l8 l9));refine⟨λ j _=>0<=j/\j<=m'/\mU y.refs=mU (y.refs.drop j.toNat),λ j=>m'-j.toNat,y' rfl,?_⟩;rintro b7 a4 j ⟨x,j1,w⟩;refine⟨λ b=>?_,λ D=>?_⟩
  .have b:=aab b;obtain⟨X,R,_,T,rfl,-⟩:=r3.at (aa L9 a4) x b;rw[ak x X,mU,mU,abr,<-mU,<-mU]at w;refine⟨R,x,b,_,T,λ h=>?_,λ w1=>⟨R,x,b,_,T,λ h=>?_,λ w2=>u' ⟨y' ?_,by dsimp only;omega⟩⟩⟩
   .rw[t,z,w,aao (p:=1<=y.refs[j.toNat]) (by have:=aab h;omega)];simp
   .rw[t,z,w,aao (p:=y.refs[j.toNat]<=12) (by have:=aab h;omega)];simp
   .rw[w,aau (p:=1<=y.refs[j.toNat]) (by have:=aac w1;omega),aau (p:=y.refs[j.toNat]<=12) (by have:=aac w2;omega)];rfl
  .rw[ai (aac D) e2]at w;refine u' ⟨y' ?_,by dsimp only;omega⟩;rw[t,z,w];rfl
 rw[ai (aac G) f2,ado]at t;refine⟨λ i _=>0<=i/\i<=l/\(s.csts.all (vB s.vers))=((s.csts.drop i.toNat).all _),λ i=>l-i.toNat,P' rfl,?_⟩;rintro H6 l6 i ⟨u,i1,g3⟩;have L6:=aa L5 l6;refine⟨λ a=>?_,λ G=>?_⟩
 .have a:=aab a;obtain⟨hi,hA,_,M,⟨A',n',c',rfl,r1,r2⟩⟩:=hc.at L6 u a;rw[ak u hi,abr]at g3;have e1:=r2.len;generalize s.csts[i.toNat]=y at*;refine⟨hA,u,a,_,_,_,_,M,λ k1=>⟨λ k2=>?_,λ k2=>?_⟩,λ k1=>?_⟩
  .have:vB s.vers y=false:=by
    unfold vB;grind
   grind
  all_goals
   refine⟨λ h=>?_,λ Q=>⟨_,ie r2,?_⟩⟩
   .have:vB s.vers y=false:=by unfold vB;grind
    grind
   have z:vB s.vers y=(distinct y.cols&&permanent s.vers y.cols):=by
    unfold vB;simp_all
   rintro H7 l7 _ rfl;refine⟨λ h=>?_,λ u2=>⟨_,iQ (hs.mono (aa L6 l7)) (r2.mono l7),?_⟩⟩
   .grind
   rintro H8 l8 _ rfl;refine⟨λ h=>?_,λ u3=>u' ⟨y' ?_,by dsimp only;omega⟩⟩
   .grind
   simp_all
 rw[ai (aac G) c2]at g3;grind
end
end
end Go.Vc
namespace Go.Vc
open Go Go.Shelf Go.Proofs
section
variable {a:I'}{b:Int}{c g i:Nat}{d:Heap}{e:Xp}{f h:D'}
structure Ck where
 kd:Int
 er:Int
deriving DecidableEq
def Sp:Ck:=⟨0,0⟩
instance:Rep Ck where
 sz:=2
 byt:=16
 rel _ vs v:=vs=[.int .i64 v.kd,.int .i64 v.er]/\ae .i64 v.kd/\ae .i64 v.er
 mono _ h:=h
 len h:=by simp[h.1]
 pos:=by decide
 bpos:=by decide
 one h:=by rw[h.1];simp[Value.oneCell']
structure Ua where
 done:Bool
 c:Ck
instance:Rep Ua where
 sz:=3
 byt:=24
 rel _ vs v:=vs=[.bool v.done,.int .i64 v.c.kd,.int .i64 v.c.er]/\ae .i64 v.c.kd/\ae .i64 v.c.er
 mono _ h:=h
 len h:=by simp[h.1]
 pos:=by decide
 bpos:=by decide
 one h:=by rw[h.1];simp[Value.oneCell']
def acc (k r:Int):Bool:=decide (k=0)||decide (k=r)
def rq (x:Xp):Int:=if x.op=3 then 1 else 3
def xT (a:I')(x:Xp)(b:I'):Ck:=
 if x.op=1 then⟨x.k.kind,0⟩else if x.op=2 then⟨a.getD x.col.toNat 0,0⟩else if x.op=11 then⟨3,0⟩
 else if x.op=6\/x.op=7 then(if acc (b.getD 0 0) (b.getD 1 0)||acc (b.getD 1 0) (b.getD 0 0)then⟨3,0⟩else⟨0,7⟩)
 else if b.all (acc · (rq x))then⟨rq x,0⟩else⟨0,7⟩
def cJ (d:List Ck)(o:Int):Ck:=d.getD o.toNat Sp
def Cv (d:List Ck):I'->Int
 |[]=>0
 | o::r=>if(cJ d o).er≠0 then(cJ d o).er else Cv d r
def Ry (d:List Ck)(a:I'):I':=a.map λ o=>(cJ d o).kd
def te (a:I')(x:Xp)(d:List Ck):Ck:=
 if x.op=2/\¬(0<=x.col/\x.col<a.length)then⟨0,10⟩else if Cv d (opsL x)≠0 then⟨0,Cv d (opsL x)⟩else xT a x (Ry d (opsL x))
def Oo (a:I'):List Xp->List Ck->List Ck
 |[],d=>d
 | x::es,d=>Oo a es (d++[te a x d])
def xy (b:List Xp)(a:I'):List Ck:=Oo a b []
def Cw {d b:List Ck}:∀{a:I'},(∀o∈a,cJ d o=cJ b o)->Cv d a=Cv b a
 |[],_=>rfl
 | o::r,h=>by rw[Cv,Cv,h o (by simp),Cw λ q c=>h q (by grind)]
def Cx {d c:List Ck}(h:∀o∈opsL e,cJ d o=cJ c o):te a e d=te a e c:=by
 have b:Ry d _=Ry c (opsL e):=acV λ o f=>by grind
 rw[te,te,Cw h,b]
def xU {cols:I'}:∀{es:List Xp} {d:List Ck},∃e,Oo cols es d=d++e/\e.length=es.length
 |[],d=>⟨[],by simp[Oo]⟩
 | x::es,d=>by
  obtain⟨e,h,a⟩:=xU (cols:=cols) (es:=es) (d:=d++[te _ x d]);exact⟨te cols x d::e,by rw[Oo,h];simp,by grind⟩
def Lk {a:I'}{c:List Xp}:∀{b:List Xp} {d:List Ck},Oo a (b++c) d=Oo a c (Oo a b d)
 |[],d=>rfl
 | x::b,d=>by rw[aby,Oo,Oo,Lk]
def Ef {es:List Xp}{cols:I'}:(xy es cols).length=es.length:=by
 obtain⟨e,h,a⟩:=xU (cols:=cols) (es:=es) (d:=[]);rw[xy];grind
def Ti {es:List Xp}{cols:I'}(b:AP es)(m:c<es.length):cJ (xy es cols) c=te cols es[c] (xy es cols):=by
 obtain⟨t,h,l⟩:=xU (cols:=cols) (es:=es.take c) (d:=[]);have j:t.length=c:=by grind
 obtain⟨e,k,-⟩:=xU (cols:=cols) (es:=es.drop _) (d:=t++[te _ _ t]);have a:xy es cols=t++te cols es[c] t::e:=by
  have:es=es.take c++es[c]::es.drop (c+1):=by simp
  rw[xy]
  conv=>lhs;rw[this]
  rw[Lk,Oo,h,abO,k,aat];rfl
 have g:cJ (xy es cols) c=te cols es[c] t:=by
  rw[a,cJ,aaq,abk (by omega),j];simp
 rw[g,a];refine Cx λ o f=>?_;have:=(b c _).mem o f;rw[cJ,cJ,aaq,aaq,abA (by omega)]
def zD (c:Ck):Prop:=ae .i64 c.kd/\ae .i64 c.er
def Sl.WK (e:Sl d f c g a):∀v∈a,ae .i64 v:=by
 intro v b;obtain⟨i,k,rfl⟩:=aaM b;obtain⟨j,_,h⟩:=e.get i _;exact h.2
def kV {e:Int}(a:ae .i64 b)(c:ae .i64 e):zD ⟨b,e⟩:=⟨a,c⟩
def xV {d:List Ck}(a:∀c∈d,zD c)(o:Int):zD (cJ d o):=by
 rw[cJ,aaq];cases h:d[o.toNat]? with
 | none=>exact kV (by decide) (by decide)
 | some c=>grind
def PK {d:List Ck}(a:∀c∈d,zD c):∀b:I',ae .i64 (Cv d b)
 |[]=>by rw[Cv];decide
 | o::r=>by
  rw[Cv];split
  .exact(xV a o).2
  .exact PK a r
def Ub {b:I'}(f:dp e.k)(d:∀c∈a,ae .i64 c):zD (xT a e b):=by
 unfold xT;repeat' split
 all_goals first | exact kV (by decide) (by decide) | exact kV (by unfold rq;split<;>decide) (by decide) | skip
 .exact kV f.1 (by decide)
 .refine kV ?_ (by decide);rw[aaq];cases h:a[e.col.toNat]? with
  | none=>decide
  | some c=>exact d c (aaJ h)
def Uc {d:List Ck}(g:dp e.k)(f:∀c∈a,ae .i64 c)(b:∀c∈d,zD c):zD (te a e d):=by
 unfold te;split
 .exact kV (by decide) (by decide)
 .split
  .exact kV (by decide) (PK b _)
  .exact Ub g f
def PM {a:I'}(b:∀c∈a,ae .i64 c):∀{es:List Xp} {d:List Ck},(∀x∈es,dp x.k)->(∀c∈d,zD c)->∀c∈Oo a es d,zD c
 |[],d,_,hd=>hd
 | x::es,d,hx,hd=>PM b (es:=es) (d:=d++[te a x d]) (λ y e=>hx y (by grind)) λ c h=>by
  rcases aam.1 h with h | h
  .grind
  .rw[aaD.1 h];exact Uc (hx x (by simp)) b hd
def Jw {es:List Xp}(d:∀c∈a,ae .i64 c)(b:∀x∈es,dp x.k):∀c∈xy es a,zD c:=PM d b (by simp)
abbrev MY:cj:=⟨true,[(false,[.int .i64]),(false,[.int .i64])]⟩
def om {r:Int}:ZB 534 [Φi b,Φi r] d fg (λ a _=>a=acc b r):=by
 refine ΦK 0 bE (λ a=>J (b=0) (a true d) (a (decide (b=r)) d)) ?_;dsimp only[J];refine⟨λ h=>?_,λ h=>?_⟩<;>simp_all[acc]
abbrev Zn (A:D')(n c:Nat)(B:D')(m d q:Nat)(a:G'):List BC:=[.v (.slice A n c),.v (.slice B m d),.row 575 q a]
def oL {b:Bool}(h:(!b)=true):b=false:=by grind
def np {b:Bool}(h:(!b)=false):b=true:=by grind
def PN {p:Int->Bool}(c:0<=b)(d:b.toNat<a.length):((a.drop b.toNat).all p)=(p a[b.toNat]&&(a.drop (b+1).toNat).all p):=by
 rw[ak c _,abr]
def Jx {E:D'}{m l k j q a4:Nat}{xs:G'}{s:I'}(hx:Be e.op)(hc:Sl d h m l a)(G:Sl d E k j s)(hl:s.length=aZ e.op)
  (h2:e.op=2->0<=e.col/\e.col<a.length):
  ZD 517 [.me,.v (Ru e),.v (S E k j)] 516 (Zn f c g h m l q xs) d ux [.sl,.sl,.row a4 575] MY
   (λ A' n' c' B' m' d' q' Y U T _ O'=>(⟨U,T⟩:Ck)=xT a e s/\f=A'/\c=n'/\g=c'/\h=B'/\m=m'/\l=d'/\q=q'/\xs=Y/\ux=O'):=by
 refine uL 0 0 (aj [39,48,63] [(6,ab 2 10 [0]),(11,[2,4,6,8,10,12,15]++ab 16 8 [33,34,36,0])] [(19,[ag 57])]) (λ a=>∀b:Nat,J (e.op=1) (b=b/\a f c g h m l q xs e.k.kind 0 d ux) (J (e.op=2) (ΦX h e.col m (ΦE ZE d h (N e.col*1) (λ i=>b=b/\a f c g h m l q xs i 0 d ux))) (J (e.op=11) (b=b/\a f c g h m l q xs 3 0 d ux) (let i:=let i:=λ i j (n:Int) o p=>ΦQ (!i) (b=b/\a f c g h m l q xs 0 7 j ux) (ΦR (n+1)/\o (n+1) j/\p (n+1)<p n);let j:=W ZE d (λ j=>j 0 d) λ j n o p=>J (p<O k) (ΦX E p k (ΦE ZE o E (N p*1) (λ r=>C ZO 534 [I r,I 1] o λ s t=>i t s p j n))) (b=b/\a f c g h m l q xs 1 0 o ux);let n:=W ZE d (λ n=>n 0 d) λ n o p r=>J (r<O k) (ΦX E r k (ΦE ZE p E (N r*1) (λ s=>C ZO 534 [I s,I 3] p λ t u=>i u t r n o))) (b=b/\a f c g h m l q xs 3 0 p ux);J (e.op=3) (J (e.op=3) j n) (J (e.op=4) (J (e.op=4) j n) (J (e.op=5) j n));let j:=ΦX E 0 k (ΦE ZE d E (N 0*1) (λ j=>ΦX E 1 k (ΦE ZE d E (N 1*1) (λ n=>C ZO 534 [I j,I n] d λ o p=>let r:=λ r=>b=b/\a f c g h m l q xs 3 0 r ux;ΦQ (!p) (ΦX E 1 k (ΦE ZE o E (N 1*1) (λ s=>ΦX E 0 k (ΦE ZE o E (N 0*1) (λ t=>C ZO 534 [I s,I t] o λ u v=>ΦQ (!v) (b=b/\a f c g h m l q xs 0 7 u ux) (r u)))))) (r o)))));J (e.op=6) (J (e.op=6) j i) (J (e.op=7) j i))))) trivial ?_;dsimp only[PL,aQ,aR,aW,eQ,C,ΦE,N,ΦQ,ΦR,W,ΦX,O,J];intro a0;have s1:=G.len;have s2:=G.bn;have t1:=hc.len;simp only[aad,aaf];have p:∀{U T:Int},(⟨U,T⟩)=xT _ e s->True/\(⟨U,T⟩)=xT a e _/\True/\True/\True/\True/\True/\True/\True/\True/\True:=λ o=>⟨trivial,o,trivial,trivial,trivial,trivial,trivial,trivial,trivial,trivial,trivial⟩;refine⟨λ y=>p (by rw[xT,if_pos y]),λ y=>⟨λ o=>?_,λ w=>⟨λ o=>p (by rw[xT,if_neg y,if_neg w,if_pos o]),λ M=>?_⟩⟩⟩
 .obtain⟨c0,c1⟩:=h2 o;obtain⟨hi,hA,_,t,rfl,P⟩:=hc.at (ah d) c0 (by omega);refine⟨hA,c0,by omega,_,t,p ?_⟩;rw[xT,if_neg y,if_pos o,aaq,aai _];rfl
 have a1:¬(e.op=6\/e.op=7)->xT a e _=if s.all _ then⟨rq e,0⟩else⟨0,7⟩:=λ o=>by rw[xT,if_neg y,if_neg w,if_neg M,if_neg o]
 have a6:e.op=6\/e.op=7->∃u v,s=[u,v]/\xT a e s=if acc u v||acc v u then⟨3,0⟩else⟨0,7⟩:=λ o=>by
  have:s.length=2:=by rw[hl,aZ,if_neg (by omega),if_neg (by omega)]
  match s,this with
  |[u,v],_=>exact⟨u,v,rfl,by rw[xT,if_neg y,if_neg w,if_neg M,if_pos o];rfl⟩
 refine⟨λ h6=>⟨λ _=>?_,λ o=>absurd h6 o⟩,λ h6=>⟨λ h7=>?_,λ h7=>⟨λ V=>⟨λ _=>?_,λ o=>absurd V o⟩,λ V=>⟨λ o=>?_,λ o=>⟨λ o=>?_,λ o=>?_⟩⟩⟩⟩⟩;all_goals try (exfalso;unfold Be at hx;omega)
 rotate_left 2
 all_goals try
  have hq:∃r,rq e=r/\r=(if e.op=3 then(1)else 3):=⟨_,rfl,rfl⟩;obtain⟨r,hq,P⟩:=hq;first | rw[if_pos V]at P | rw[if_neg V]at P
  subst P;have a2:=a1 (by omega);refine⟨λ i _=>0<=i/\i<=k/\s.all (acc · (rq e))=(s.drop i.toNat).all _,λ i=>k-i.toNat,⟨by simp,by simp,rfl⟩,?_⟩;rintro H2 a5 i ⟨i0,i1,hi⟩;dsimp only;refine⟨λ z=>?_,λ X=>p ?_⟩
  .obtain⟨h5,hA,_,t,rfl,P⟩:=G.at a5 i0 z;refine⟨hA,i0,z,_,t,_,om,?_⟩;rintro H3 _ b rfl;have a3:=hi;simp[PN i0 h5]at a3;refine⟨λ o=>p ?_,λ o=>u' ⟨y' ?_,by omega⟩⟩
   .grind
   grind
  .rw[a2,hi,ai X s1,hq];rfl
 all_goals
  have Z:k=2:=by grind
  subst Z;obtain⟨g0,L,_,D,rfl,r0⟩:=G.at (i:=0) (ah d) (by simp) (by simp);obtain⟨g1,F,_,R,rfl,r1⟩:=G.at (i:=1) (ah d) (by simp) (by simp);refine⟨L,by simp,by simp,_,D,F,by simp,by simp,_,R,_,om,?_⟩;rintro H3 Q b rfl;refine⟨λ o=>⟨F,by simp,by simp,_,R.mono Q,L,by simp,by simp,_,D.mono Q,_,om,?_⟩,λ o=>p ?_⟩
  .grind
  grind
structure zE (K:List Ck)(rs:List Ua):Prop where
 len:rs.length=K.length
 ok:∀j (hj:j<rs.length),rs[j].done=true->rs[j].c=cJ K j
def zE.set {K:List Ck}{b:List Ua}{i:Int}(h:zE K b)(c:0<=i):zE K (b.set i.toNat ⟨true,cJ K i⟩):=by
 refine⟨by rw[abd];exact h.len,λ j d a=>?_⟩;rw[abF]at a⊢;split
 .grind
 .rename_i e;rw[if_neg e]at a;exact h.ok j _ a
def PO (H:Heap)(A:D')(n c:Nat)(B:D')(m d:Nat)(K:List Ck)(f:FuncId)(i:Int):Prop:=
 ∀{g:Heap} {j:G'} {h:List Ua} {b:Nat},Heap.le H g->Row g j h->zE K h->
  ph Tryz.prog f [.me,.v (.int .i64 i)] 516 (Zn A n c B m d n j) g ux [.sl,.sl,.row b 575] MY
   (λ s k o l u t x e q p w r=>(⟨q,p⟩:Ck)=cJ K i/\A=s/\n=k/\c=o/\B=l/\m=u/\d=t/\n=x/\ux=r/\∃a,Row w e a/\zE K a)
def PQ {d:List Ck}(c:0<=b)(e:b.toNat<a.length):Cv d (a.drop b.toNat)=if(cJ d a[b.toNat]).er≠0 then(cJ d a[b.toNat]).er else Cv d (a.drop (b+1).toNat):=by
 rw[ak c _,Cv]
def MZ {H:Heap}{d:Nat}{es:List Xp}{cols:I'}(hs:Sl H f c g es)(hc:Sl H h i d cols)(hw:AP es)(hv:∀x∈es,x.op=1->bG x.k=true)
  (i0:0<=b) (i1:b<c) (ih:∀o,0<=o->o<b->PO H f c g h i d (xy es cols) 434 o):PO H f c g h i d (xy es cols) 486 b:=by
 intro H' xs rs e T y Y;refine uL 0 4 {aj [23,32,45] [(10,ab 2 18 [0])] [(5,[ag 39]),(14,[.slot 9 false [.row 95 3],ag 69,.box 97 516 [.sl,.sl,.row 96 575]])]with bx:=λ | some 76,434=>some [.sl,.sl,.row 93 575] | some 90,517=>some [.sl,.sl,.row 94 575] | _,_=>none} (λ a=>∀e:Nat,ΦX f b c (ΦE ZJ H' f (N b*7) (λ j k l m n o p=>C ZP 437 [I j] H' λ q r=>let s:=λ s=>e=e/\a f c g h i d c xs 0 5 s ux;J (r<0) (s q) (let t:=[I j,I k,I l,I m,I n,I o,ΦT p];let u:=λ u=>C ZT 341 [ΦG t] u λ v w x y=>W XA v (λ z=>z 0 [] 0 f c g h i d c xs v) λ z a0 a1 a2 a3 a4 a5 a6 a7 a8 a9 b0 b1 b2=>let b3:=[BC.v (S a5 a6 a7),BC.v (S a8 a9 b0),BC.row 575 b1 b2];J (a4<O x) (ΦX w a4 x (ΦE ZE a1 w (N a4*1) (λ b4=>tS XB YF 434 [BA.me,BA.v (I b4)] 516 b3 a1 ux λ b5 b6 b7 b8 b9 c0 c1 c2 c3 c4 c5 c6=>V (c6=0) (e=e/\a b7 b8 b9 c0 c1 c2 c3 c4 0 c6 b5 b6) ((a2+1)*8<=M/\ΦR (a4+1)/\z (a2+1) (a3++[Value.int .i64 c5]) (a4+1) b7 b8 b9 c0 c1 c2 c3 c4 b5/\a0 (a2+1) (a3++[Value.int .i64 c5]) (a4+1) b7 b8 b9 c0 c1 c2 c3 c4<a0 a2 a3 a4 a5 a6 a7 a8 a9 b0 b1 b2)))) (U a1 a3 a2 (λ b4 b5 b6=>tS XC YF 517 [BA.me,BA.v (ΦG t),BA.v (S b4 a2 b5)] 516 b3 b6 ux λ b7 b8 b9 c0 c1 c2 c3 c4 c5 c6 c7 c8=>e=e/\a b9 c0 c1 c2 c3 c4 c5 c6 c7 c8 b7 b8));let v:=λ v=>C ZT 341 [ΦG t] v λ w x y z=>W ZE w (λ a0=>a0 0 w) λ a0 a1 a2 a3=>let a4:=λ a4=>e=e/\a f c g h i d c xs 0 10 a4 ux;J (a3<O y) (ΦX x a3 y (ΦE ZE a2 x (N a3*1) (λ a5=>C ZO 342 [I b,I a5] a2 λ a6 a7=>ΦQ (!a7) (a4 a6) (ΦR (a3+1)/\a0 (a3+1) a6/\a1 (a3+1)<a1 a3)))) (J (j=2) (J (m<0) (a4 a2) (J (O i<=m) (a4 a2) (u a2))) (u a2));J (j=1) (C ZO 258 [ΦG [I n,I o,ΦT p]] q (λ w x=>ΦQ (!x) (s w) (v w))) (v q))))) trivial ?_;dsimp only[PL,aQ,aR,aW,eQ,C,tS,ΦE,M,N,ΦQ,ΦR,W,ΦX,O,V,J];intro a0;have s1:=hs.len;have s2:=hs.bn;have t1:=hc.len;obtain⟨hi,hA,_,c4,rfl,x1,x2,x3,x4,x5⟩:=hs.at T i0 i1;have a4:=hw b.toNat hi;have hK:=Ti (cols:=cols) hw hi;rw[show((b.toNat:Nat):Int)=b by omega]at hK;have b9:=hv _ (aan hi);have a9:=a4.mem;have z:=a4.op;generalize es[b.toNat]=x at*;have d5:cJ (xy es cols) b=if x.op=2/\¬(0<=x.col/\x.col<cols.length)then⟨0,10⟩else if Cv (xy es cols) (opsL x)≠0 then⟨0,Cv (xy es cols) (opsL x)⟩else xT cols x (Ry (xy es cols) (opsL x)):=hK;generalize cJ (xy es cols) b=R at*;have c2:=Jw (es:=es) hc.WK hs.Vz;generalize xy es cols=l at*;have d6:(opsL x).length<=2:=by rw[mL];exact lM _
 refine⟨hA,i0,i1,_,_,_,_,_,_,_,c4,_,sE z,?_⟩;rintro H1 Q r rfl;simp only[aad,aaf];have a6:∀{F:Heap} {G:G'} {p:List Ua} {X L:Int},Row F G p->zE l p->(⟨X,L⟩:Ck)=R->
   True/\(⟨X,L⟩:Ck)=R/\True/\True/\True/\True/\True/\True/\True/\True/\∃s,Row F G s/\zE l s:=λ h1 h2 h3=>⟨trivial,h3,trivial,trivial,trivial,trivial,trivial,trivial,trivial,trivial,_,h1,h2⟩
 have E:∀{F:Heap} {G:G'} {p:List Ua} {X L:Int},Row F G p->zE l p->(⟨X,L⟩:Ck)=R->
   True/\(⟨X,L⟩:Ck)=R/\f=f/\c=c/\g=g/\h=h/\i=i/\d=d/\c=c/\ux=ux/\∃s,Row F G s/\zE l s:=λ h1 h2 h3=>⟨trivial,h3,rfl,rfl,rfl,rfl,rfl,rfl,rfl,rfl,_,h1,h2⟩
 refine⟨λ j=>(by omega),λ _=>⟨λ h1=>⟨_,wH,?_⟩,λ h1=>?_⟩⟩
 focus
  rintro H1 c3 v rfl;refine⟨λ j=>(by rw[b9 h1]at j;cases j),λ _=>?_⟩;replace Q:=aa Q c3
 all_goals
  refine⟨_,jb z x2 x3,?_⟩;rintro H3 c1 A4 n5 c6 b0;refine⟨λ t _=>0<=t/\t<=n5,λ t=>n5-t.toNat,N' (by simp),?_⟩;rintro H4 b1 t ⟨P,t1⟩;dsimp only;have D:=aa Q (aa c1 b1);refine⟨λ u=>?_,λ b4=>⟨λ h2=>⟨λ c7=>?_,λ c7=>⟨λ a3=>?_,λ a3=>?_⟩⟩,λ h2=>?_⟩⟩
  .obtain⟨a,gA,_,gc,rfl,gr⟩:=b0.at b1 P u;refine⟨gA,P,u,_,gc,_,sF,?_⟩;rintro H5 e4 _ rfl;refine⟨λ j=>?_,λ _=>u' ⟨u' (by omega),by omega⟩⟩;grind
  .exact a6 (y.mono D) Y (by grind)
  .exact a6 (y.mono D) Y (by grind)
  all_goals
   refine⟨_,jb z x2 x3,?_⟩;rintro H6 b2 A7 n8 c9 w;have o2:=w.len;refine⟨λ q ks t A' n' c' B' m' d' q' G F=>(0<=t/\t<=n8/\q=t.toNat/\Row F ks (Ry l ((opsL x).take t.toNat))/\Cv l (opsL x)=Cv l ((opsL x).drop t.toNat))/\f=A'/\c=n'/\g=c'/\h=B'/\i=m'/\d=d'/\c=q'/\∃p,Row F G p/\zE l p,
    λ _ _ t _ _ _ _ _ _ _ _=>n8-t.toNat,⟨(P' ⟨rfl,rfl,rfl⟩),rfl,rfl,rfl,rfl,rfl,rfl,rfl,rs,y.mono (aa D b2),Y⟩,?_⟩
   rintro H7 b3 q ks t A' n' c' B' m' d' q' G ⟨⟨P,t1,rfl,hk,hf⟩,rfl,rfl,rfl,rfl,rfl,rfl,rfl,d2,a5,a8⟩;dsimp only;have b6:=aa D (aa b2 b3);refine⟨λ u=>?_,λ b4=>?_⟩
   .obtain⟨a,gA,_,gc,rfl,gr⟩:=w.at b3 P u;have hm:=a9 _ (aan a);refine⟨gA,P,u,_,gc,_,ih _ hm.1 (by omega) (aa T b6) a5 a8,?_⟩;rintro H8 b8 O8 A8 n9 c8 B8 m8 d8 q8 e0 X L ⟨he,rfl,rfl,rfl,rfl,rfl,rfl,rfl,rfl,c5,a7,a1⟩;rw[PQ P a]at hf;refine⟨λ j=>E a7 a1 ?_,λ j=>y' ⟨⟨(J' ⟨?_,?_⟩),rfl,rfl,rfl,rfl,rfl,rfl,rfl,c5,a7,a1⟩,by omega⟩⟩
    .grind
    .have b7:=xV (d:=l) c2 (opsL x)[t.toNat];rw[<-he]at b7;rw[bu P a,Ry,aaR,List.map_singleton,<-he];exact(hk.mono b8).append (Row.one ⟨rfl,b7.1⟩)
    grind
   .have e8:(opsL x).take t.toNat=opsL x:=aag (by omega);rw[ai b4 o2,Cv]at hf;rw[e8]at hk;intro A9 d3 H9 Z c0 d0;have b5:(Ry l (opsL x)).length=aZ x.op:=by rw[Ry,aaQ,mL]
    refine⟨_,Jx z (hc.mono (aa T (aa b6 Z))) (hk.sl Z c0 (by rw[b5,<-mL];omega) d0 (by show _*8<=_;omega) (by omega)) b5 (λ j=>by omega),?_⟩;rintro e3 a2 d4 d9 e1 e5 d7 e6 e7 e2 d1 X L ⟨he,rfl,rfl,rfl,rfl,rfl,rfl,rfl,rfl,rfl⟩;exact E (a5.mono (aa Z a2)) a8 (by grind)
def Na {j:Nat}{a:List Ck}{l:Int}(w:∀g∈a,zD g)(E:a.length=c)(y:0<=l)(i1:l<c)
  (v:PO d f c g h i j a 486 l):PO d f c g h i j a 434 l:=by
 intro H' xs F b D p q;have v:=λ b=>v D p q (b:=b);have hl:=q.len;have T:l.toNat<F.length:=by omega
 obtain⟨J,w2,W⟩:=p.dO T;have t:∀{z:Heap} {C:List _} {o:List _},Row z _ _->zE a o->l.toNat*3+3<=C.length:=λ {z C o} R O=>by
  have e:C.length=o.length*3:=R.length;have:=O.len;omega
 refine uL 0 1 {aj [] [(3,ab 2 6 [0])] []with bx:=λ | some 25,486=>some [.sl,.sl,.row 39 575] | _,_=>none} (λ a=>∀b:Nat,ΦY l c (ΦF XD xs (N l*3) 3 (λ d e k=>ΦQ d (b=b/\a f c g h i j c xs e k H' ux) (tS XE YF 486 [BA.me,BA.v (I l)] 516 [BC.v (S f c g),BC.v (S h i j),BC.row 575 c xs] H' ux (λ m n o p q r s t u v w x=>ΦY l u (N l*3+3<=L v/\b=b/\a o p q r s t u (av v (N l*3) [ΦB true,I w,I x]) w x m n)))))) trivial ?_;dsimp only[aQ,aR,eQ,tS,ΦF,L,N,ΦQ,ΦY];intro a0;refine⟨y,by omega,_,_,_,J,λ k=>?_,λ k=>⟨_,v _,?_⟩⟩
 .have P:=q.ok _ _ k;exact⟨rfl,P,rfl,rfl,rfl,rfl,rfl,rfl,rfl,rfl,F,p,q⟩
 .rintro z Q O2 A2 n2 Z B2 V U q2 M Y X ⟨G,rfl,rfl,rfl,rfl,rfl,rfl,rfl,rfl,o,u,s⟩;have x:l.toNat<o.length:=by have:=s.len;omega
  refine⟨y,by omega,t u s,rfl,G,rfl,rfl,rfl,rfl,rfl,rfl,rfl,rfl,_,u.dV x ?_,s.set y⟩;have r:=xV w l;rw[<-G]at r⊢;exact⟨rfl,r.1,r.2⟩
def Hb {H:Heap}{A B:D'}{n c m d:Nat}{b:List Xp}{a:I'}(e:Sl H A n c b)(f:Sl H B m d a)(g:AP b)(h:∀x∈b,x.op=1->bG x.k=true):
  ∀(k:Nat) (i:Int),0<=i->i<n->i<k->PO H A n c B m d (xy b a) 434 i
 | 0,i,i0,i1,ik=>by omega
 | k+1,i,i0,i1,ik=>Na (Jw f.WK e.Vz) (by rw[Ef];exact e.len) i0 i1 (MZ e f g h i0 i1 λ o j l=>Hb e f g h k o j (by omega) (by omega))
end
section
variable {a:I'}{b:Heap}{c:List Ck}{d i m:D'}{e f j k n o:Nat}{g:Int}{h:Xp}{l:List Xp}
def Jy (s:Sl b d e f l)(y:Sl b i j k a)(t:AP l)(u:∀x∈l,x.op=1->bG x.k=true)
  (w:0<=g) (D:g<l.length) (G:l.length<=200):ZB 337 [S d e f,Φi g,S i j k] b MY (λ p o _=>(⟨p,o⟩:Ck)=cJ (xy l a) g):=by
 refine ΦK 1 {bE with bx:=λ | some 29,434=>some [.sl,.sl,.row 32 575] | _,_=>none} (λ a=>J (200<O e) (a 0 4 b) (J (g<0) (a 0 10 b) (J (O e<=g) (a 0 10 b) (O e=O e/\0<=O e/\O e*O 24<=M/\(∀c:G',c=dE [ΦB false,I 0,I 0] (N (O e))->tS XF YF 434 [BA.me,BA.v (I g)] 516 [BC.v (S d e f),BC.v (S i j k),BC.row 575 (N (O e)) c] b ux λ h l m n o p q r s t u v=>a u v h))))) ?_;dsimp only[aQ,aR,tS,M,N,O,J];have F:=s.len;simp only[aad];refine⟨λ h=>(by omega),λ _=>⟨λ h=>(by omega),λ _=>⟨λ h=>(by omega),λ _=>⟨trivial,N' (u' ?_)⟩⟩⟩⟩;rintro E rfl;have z:=by
  have v:Rep.rel b _ (⟨false,Sp⟩:Ua):=⟨rfl,by decide,by decide⟩;exact Row.gS v e
 refine⟨_,Hb s y t u _ g w (by omega) (by omega) (ah b) z ⟨by rw[Ef];grind,λ q C h=>(by grind)⟩,?_⟩;grind
def vq {r:Int}:ZB 383 [Φi g,Φi r] b fg (λ a _=>a=acc g r):=by
 refine ΦK 0 bE (λ a=>J (g=r) (a true b) (a (decide (g=0)) b)) ?_;dsimp only[J];refine⟨λ h=>?_,λ h=>?_⟩<;>simp_all[acc]
abbrev Tj:cj:=⟨false,[(true,[.int .i64,.int .i64])]⟩
def Hc (a:Sl b d e f c)(i:0<=g)(n:g.toNat<c.length):
  cD d/\g<e/\Cells b d (g.toNat*2+1) [Φi (cJ c g).er]/\Cells b d (g.toNat*2+0) [Φi (cJ c g).kd]:=by
 have m:=a.len;obtain⟨_,l,_,h,rfl,o⟩:=a.at (ah _) i (by omega);have f:cJ c g=c[g.toNat]:=by rw[cJ,aaq,aai _];rfl
 rw[f];exact⟨l,by omega,h.cy (k:=1) rfl,h.cy (k:=0) rfl⟩
def PR (i:h.op≠2)(g:aZ h.op=2):
  te a h c=if(cJ c h.a).er≠0 then⟨0,(cJ c h.a).er⟩else if(cJ c h.b).er≠0 then⟨0,(cJ c h.b).er⟩else xT a h [(cJ c h.a).kd,(cJ c h.b).kd]:=by
 have e:opsL h=[h.a,h.b]:=by rw[opsL,g];rfl
 rw[te,if_neg (λ d=>i d.1),e];by_cases f:(cJ c h.a).er=0<;>by_cases j:(cJ c h.b).er=0<;>simp[Cv,Ry,f,j]
def Tk (g:h.op≠2)(f:aZ h.op=1):
  te a h c=if(cJ c h.a).er≠0 then⟨0,(cJ c h.a).er⟩else xT a h [(cJ c h.a).kd]:=by
 have e:opsL h=[h.a]:=by rw[opsL,f];rfl
 rw[te,if_neg (λ b=>g b.1),e];by_cases d:(cJ c h.a).er=0<;>simp[Cv,Ry,d]
def Tl (b:aZ h.op=0):
  te a h c=if h.op=2/\¬(0<=h.col/\h.col<a.length)then⟨0,10⟩else xT a h []:=by
 have e:opsL h=[]:=by rw[opsL,b];rfl
 rw[te,e];rfl
def PS (v:Sl b d e f l)(t:0<=g)(R:g.toNat<l.length)(w:h=l[g.toNat])(u:rQ g.toNat h)(Q:Sl b i j k a)(M:Sl b m n o c)(O:g.toNat<=c.length)(s:h.op=1)(U:bG h.k=true):
  ZB 294 [S d e f,Φi g,S i j k,S m n o] b Tj (λ p o _=>(⟨p,o⟩:Ck)=te a h c):=by
 obtain⟨E,z,L⟩:=pU v t _ w;refine ΦK 0 {aj aN [] []with kb:=ir [25,26,102,103] [21,22,41,42,57,79,108,109,117,118,119,131,132,146,147,157,158]} (λ a=>ΦX d g e (ΦE ZJ b d (N g*7) (λ c h i j k l m=>C ZP 295 [I c] b λ n o=>decide (o<0)=false/\decide (c=1)=true/\C ZO 152 [ΦG [I k,I l,ΦT m]] n λ p q=>ΦQ (!q) (a 0 5 p) (C ZO 382 [S d e f,I g] p (λ r s=>ΦQ (!s) (a 0 10 r) (decide (c=2)=false/\decide (0<o)=false/\decide (1<o)=false/\decide (c=1)=true/\a k 0 r)))))) ?_;dsimp only[aQ,aR,eQ,C,ΦE,N,ΦQ,ΦX];refine⟨E,t,z,_,_,_,_,_,_,_,L,_,aX u.op,?_⟩;rintro P F _ rfl;refine⟨by rfl,by grind,_,zC,?_⟩;rintro T G _ rfl;refine⟨λ r=>(by simp_all),λ _=>⟨_,bY (v.mono (aa F G)) t _ w u,?_⟩⟩;rintro J y _ rfl;refine⟨λ r=>(by grind),λ _=>T' ⟨by simp[s,aZ],by simp[s,aZ],T' ?_⟩⟩;rw[Tl (by simp[s,aZ]),if_neg (by omega),xT,if_pos s]
def PT {i:Int}(E:Sl b d e f l)(t:0<=i)(Z:i.toNat<l.length)(F:h=l[i.toNat])(y:rQ i.toNat h){B:D'}(z:Sl b B j k a)(T:Sl b m n o c)(V:i.toNat<=c.length)(r:h.op=2):
  ZB 294 [S d e f,Φi i,S B j k,S m n o] b Tj (λ g o _=>(⟨g,o⟩:Ck)=te a h c):=by
 obtain⟨P,M,R⟩:=pU E t _ F;refine ΦK 0 {aj aN [] []with kb:=ir [41,42,108,109] [21,22,25,26,57,79,102,103,117,118,119,131,132,146,147,157,158]} (λ a=>ΦX d i e (ΦE ZJ b d (N i*7) (λ c g h k l m n=>C ZP 295 [I c] b λ o p=>decide (p<0)=false/\decide (c=1)=false/\C ZO 382 [S d e f,I i] o λ q r=>ΦQ (!r) (a 0 10 q) (decide (c=2)=true/\J (k<0) (a 0 10 q) (J (O j<=k) (a 0 10 q) (decide (0<p)=false/\decide (1<p)=false/\decide (c=1)=false/\decide (c=2)=true/\ΦX B k j (ΦE ZE q B (N k*1) (λ s=>a s 0 q)))))))) ?_;dsimp only[aQ,aR,eQ,C,ΦE,N,ΦQ,ΦX,O,J];refine⟨P,t,M,_,_,_,_,_,_,_,R,_,aX y.op,?_⟩;rintro W w _ rfl;refine⟨by rfl,by grind,_,bY (E.mono w) t _ F y,?_⟩;rintro Q s _ rfl;have s:=aa w s;simp only[aad,aaf];have X:=z.len;rw[Tl (by simp[r,aZ])];refine⟨λ p=>(by grind),λ _=>⟨r,λ p=>(by grind),λ Y=>⟨λ p=>(by grind),λ U=>⟨by simp[r,aZ],by simp[r,aZ],by omega,r,?_⟩⟩⟩⟩;obtain⟨L,v,_,u,rfl,G⟩:=z.at (i:=h.col) s (by omega) (by omega);refine⟨v,y' ⟨_,u,?_⟩⟩;rw[if_neg (by omega),xT,if_neg (by omega),if_pos r,aaq,aai _];rfl
def PU (P:Sl b d e f l)(F:0<=g)(hi:g.toNat<l.length)(Q:h=l[g.toNat])(y:rQ g.toNat h)(hr:Sl b i j k a)(M:Sl b m n o c)(hq:g.toNat<=c.length)(t:h.op=3):
  ZB 294 [S d e f,Φi g,S i j k,S m n o] b Tj (λ p o _=>(⟨p,o⟩:Ck)=te a h c):=by
 obtain⟨U,T,Y⟩:=pU P F _ Q;rw[PR (by omega) (by simp[t,aZ])];obtain⟨z,a2⟩:=y.a (by simp[t,aZ]);obtain⟨u,b2⟩:=y.b (by simp[t,aZ]);obtain⟨J,a4,w,L⟩:=Hc M z (by omega);obtain⟨G,b4,v,E⟩:=Hc M u (by omega);refine ΦK 0 {aj aN [] []with kb:=ir [57,79,117] [21,22,25,26,41,42,102,103,108,109,118,119,131,132,146,147,157,158]} (λ a=>ΦX d g e (ΦE ZJ b d (N g*7) (λ c h i j k l o=>C ZP 295 [I c] b λ p q=>decide (q<0)=false/\decide (c=1)=false/\C ZO 382 [S d e f,I g] p λ r s=>ΦQ (!s) (a 0 10 r) (decide (c=2)=false/\decide (0<q)=true/\ΦX m h n (ΦE ZE r m (N h*2+1) (λ t=>let u:=λ(u:Int)=>ΦX m u n (ΦE ZE r m (N u*2+1) (λ v=>a 0 v r));V (t=0) (u h) (ΦX m h n (ΦE ZE r m (N h*2+0) (λ v=>decide (1<q)=true/\ΦX m i n (ΦE ZE r m (N i*2+1) (λ w=>V (w=0) (u i) (ΦX m i n (ΦE ZE r m (N i*2+0) (λ x=>decide (c=1)=false/\decide (c=2)=false/\decide (c=3)=true/\C ZO 383 [I v,I 1] r λ y z=>ΦQ (!z) (a 0 7 y) (C ZO 383 [I x,I 1] y (λ a0 a1=>ΦQ (!a1) (a 0 7 a0) (a 1 0 a0))))))))))))))))) ?_;dsimp only[aQ,aR,eQ,C,ΦE,N,ΦQ,ΦX,V];refine⟨U,F,T,_,_,_,_,_,_,_,Y,_,aX y.op,?_⟩;rintro H8 O _ rfl;refine⟨by rfl,by grind,_,bY (P.mono O) F _ Q y,?_⟩;rintro X s _ rfl;have s:=aa O s;have w:=w.mono s;have L:=L.mono s;have v:=v.mono s;have E:=E.mono s;refine⟨λ r=>(by grind),λ _=>T' ⟨by simp[t,aZ],J,z,by omega,_,w,λ r=>⟨J,z,by omega,_,w,?_⟩,λ ha=>⟨J,z,by omega,_,L,?_⟩⟩⟩
 .grind
 refine⟨by simp[t,aZ],G,u,by omega,_,v,λ r=>⟨G,u,by omega,_,v,?_⟩,λ Z=>⟨G,u,by omega,_,E,?_⟩⟩
 .grind
 rw[xT,rq];refine T' (U' ⟨_,vq,?_⟩);rintro W R _ rfl;refine⟨λ r=>?_,λ r=>⟨_,vq,?_⟩⟩
 .grind
 grind
def PV (R:Sl b d e f l)(J:0<=g)(hi:g.toNat<l.length)(T:h=l[g.toNat])(E:rQ g.toNat h)(hr:Sl b i j k a)(P:Sl b m n o c)(hq:g.toNat<=c.length)(v:h.op=6):
  ZB 294 [S d e f,Φi g,S i j k,S m n o] b Tj (λ s o _=>(⟨s,o⟩:Ck)=te a h c):=by
 obtain⟨X,W,Z⟩:=pU R J _ T;rw[PR (by omega) (by simp[v,aZ])];obtain⟨F,a2⟩:=E.a (by simp[v,aZ]);obtain⟨w,b2⟩:=E.b (by simp[v,aZ]);obtain⟨M,a4,z,O⟩:=Hc P F (by omega);obtain⟨L,b4,y,G⟩:=Hc P w (by omega);refine ΦK 0 {aj aN [] []with kb:=ir [57,79,131] [21,22,25,26,41,42,102,103,108,109,117,118,119,132,146,147,157,158]} (λ a=>ΦX d g e (ΦE ZJ b d (N g*7) (λ c h i j k l o=>C ZP 295 [I c] b λ p q=>decide (q<0)=false/\decide (c=1)=false/\C ZO 382 [S d e f,I g] p λ r s=>ΦQ (!s) (a 0 10 r) (decide (c=2)=false/\decide (0<q)=true/\ΦX m h n (ΦE ZE r m (N h*2+1) (λ t=>let u:=λ(u:Int)=>ΦX m u n (ΦE ZE r m (N u*2+1) (λ v=>a 0 v r));V (t=0) (u h) (ΦX m h n (ΦE ZE r m (N h*2+0) (λ v=>decide (1<q)=true/\ΦX m i n (ΦE ZE r m (N i*2+1) (λ w=>V (w=0) (u i) (ΦX m i n (ΦE ZE r m (N i*2+0) (λ x=>decide (c=1)=false/\decide (c=2)=false/\decide (c=3)=false/\decide (c=4)=false/\decide (c=5)=false/\decide (c=6)=true/\V (v=x) (V (v=0) (V (x=0) (a 0 7 r) (a 3 0 r)) (a 3 0 r)) (a 3 0 r))))))))))))))) ?_;dsimp only[aQ,aR,eQ,C,ΦE,N,ΦQ,ΦX,V];refine⟨X,J,W,_,_,_,_,_,_,_,Z,_,aX E.op,?_⟩;rintro H8 Q _ rfl;refine⟨by rfl,by grind,_,bY (R.mono Q) J _ T E,?_⟩;rintro Y u _ rfl;have u:=aa Q u;have z:=z.mono u;have O:=O.mono u;have y:=y.mono u;have G:=G.mono u;refine⟨λ t=>(by grind),λ _=>T' ⟨by simp[v,aZ],M,F,by omega,_,z,λ t=>⟨M,F,by omega,_,z,?_⟩,λ ha=>⟨M,F,by omega,_,O,?_⟩⟩⟩
 .grind
 rw[if_neg (by grind)];refine⟨by simp[v,aZ],L,w,by omega,_,y,λ t=>⟨L,w,by omega,_,y,?_⟩,λ hb=>⟨L,w,by omega,_,G,?_⟩⟩
 .grind
 rw[if_neg (by grind)];rw[xT,if_neg (by omega)];have U:∀p r:Int,(acc p r||acc r p)=(decide (p=r)||decide (p=0)||decide (r=0)):=λ p r=>by
  rw[aaH];simp[acc,abW];omega
 grind
def PY (R:Sl b d e f l)(J:0<=g)(hi:g.toNat<l.length)(T:h=l[g.toNat])(E:rQ g.toNat h)(hr:Sl b i j k a)(P:Sl b m n o c)(hq:g.toNat<=c.length)(v:h.op=7):
  ZB 294 [S d e f,Φi g,S i j k,S m n o] b Tj (λ s o _=>(⟨s,o⟩:Ck)=te a h c):=by
 obtain⟨X,W,Z⟩:=pU R J _ T;rw[PR (by omega) (by simp[v,aZ])];obtain⟨F,a2⟩:=E.a (by simp[v,aZ]);obtain⟨w,b2⟩:=E.b (by simp[v,aZ]);obtain⟨M,a4,z,O⟩:=Hc P F (by omega);obtain⟨L,b4,y,G⟩:=Hc P w (by omega);refine ΦK 0 {aj aN [] []with kb:=ir [57,79,132] [21,22,25,26,41,42,102,103,108,109,117,118,119,131,146,147,157,158]} (λ a=>ΦX d g e (ΦE ZJ b d (N g*7) (λ c h i j k l o=>C ZP 295 [I c] b λ p q=>decide (q<0)=false/\decide (c=1)=false/\C ZO 382 [S d e f,I g] p λ r s=>ΦQ (!s) (a 0 10 r) (decide (c=2)=false/\decide (0<q)=true/\ΦX m h n (ΦE ZE r m (N h*2+1) (λ t=>let u:=λ(u:Int)=>ΦX m u n (ΦE ZE r m (N u*2+1) (λ v=>a 0 v r));V (t=0) (u h) (ΦX m h n (ΦE ZE r m (N h*2+0) (λ v=>decide (1<q)=true/\ΦX m i n (ΦE ZE r m (N i*2+1) (λ w=>V (w=0) (u i) (ΦX m i n (ΦE ZE r m (N i*2+0) (λ x=>decide (c=1)=false/\decide (c=2)=false/\decide (c=3)=false/\decide (c=4)=false/\decide (c=5)=false/\decide (c=6)=false/\decide (c=7)=true/\V (v=x) (V (v=0) (V (x=0) (a 0 7 r) (a 3 0 r)) (a 3 0 r)) (a 3 0 r))))))))))))))) ?_;dsimp only[aQ,aR,eQ,C,ΦE,N,ΦQ,ΦX,V];refine⟨X,J,W,_,_,_,_,_,_,_,Z,_,aX E.op,?_⟩;rintro H8 Q _ rfl;refine⟨by rfl,by grind,_,bY (R.mono Q) J _ T E,?_⟩;rintro Y u _ rfl;have u:=aa Q u;have z:=z.mono u;have O:=O.mono u;have y:=y.mono u;have G:=G.mono u;refine⟨λ t=>(by grind),λ _=>T' ⟨by simp[v,aZ],M,F,by omega,_,z,λ t=>⟨M,F,by omega,_,z,?_⟩,λ ha=>⟨M,F,by omega,_,O,?_⟩⟩⟩
 .grind
 rw[if_neg (by grind)];refine⟨by simp[v,aZ],L,w,by omega,_,y,λ t=>⟨L,w,by omega,_,y,?_⟩,λ hb=>⟨L,w,by omega,_,G,?_⟩⟩
 .grind
 rw[if_neg (by grind)];rw[xT,if_neg (by omega)];have U:∀p r:Int,(acc p r||acc r p)=(decide (p=r)||decide (p=0)||decide (r=0)):=λ p r=>by
  rw[aaH];simp[acc,abW];omega
 grind
def Nb (G:Sl b d e f l)(w:0<=g)(X:g.toNat<l.length)(J:h=l[g.toNat])(z:rQ g.toNat h)(W:Sl b i j k a)(L:Sl b m n o c)(R:g.toNat<=c.length)(t:h.op=10):
  ZB 294 [S d e f,Φi g,S i j k,S m n o] b Tj (λ p o _=>(⟨p,o⟩:Ck)=te a h c):=by
 obtain⟨O,M,Q⟩:=pU G w _ J;rw[Tk (by omega) (by simp[t,aZ])];obtain⟨v,Y⟩:=z.a (by simp[t,aZ]);obtain⟨y,U,u,E⟩:=Hc L v (by omega);refine ΦK 0 {aj aN [] []with kb:=ir [57,157,158] [21,22,25,26,41,42,79,102,103,108,109,117,118,119,131,132,146,147]} (λ a=>ΦX d g e (ΦE ZJ b d (N g*7) (λ c h i j k l o=>C ZP 295 [I c] b λ p q=>decide (q<0)=false/\decide (c=1)=false/\C ZO 382 [S d e f,I g] p λ r s=>ΦQ (!s) (a 0 10 r) (decide (c=2)=false/\decide (0<q)=true/\ΦX m h n (ΦE ZE r m (N h*2+1) (λ t=>V (t=0) (ΦX m h n (ΦE ZE r m (N h*2+1) (λ u=>a 0 u r))) (ΦX m h n (ΦE ZE r m (N h*2+0) (λ u=>decide (1<q)=false/\decide (c=1)=false/\decide (c=2)=false/\decide (c=3)=false/\decide (c=4)=false/\decide (c=5)=false/\decide (c=6)=false/\decide (c=7)=false/\decide (c=8)=false/\decide (c=9)=false/\decide (c=10)=true/\C ZO 383 [I u,I 3] r λ v w=>ΦQ (!w) (a 0 7 v) (a 3 0 v)))))))))) ?_;dsimp only[aQ,aR,eQ,C,ΦE,N,ΦQ,ΦX,V];refine⟨O,w,M,_,_,_,_,_,_,_,Q,_,aX z.op,?_⟩;rintro T F _ rfl;refine⟨by rfl,by grind,_,bY (G.mono F) w _ J z,?_⟩;rintro P s _ rfl;have s:=aa F s;have u:=u.mono s;have E:=E.mono s;refine⟨λ r=>(by grind),λ _=>T' ⟨by simp[t,aZ],y,v,by omega,_,u,λ r=>⟨y,v,by omega,_,u,?_⟩,λ Z=>⟨y,v,by omega,_,E,?_⟩⟩⟩
 .grind
 rw[xT,show rq h=3 from if_neg (by omega)];refine⟨by simp[t,aZ],U' (U' (U' (U' (U' ⟨_,vq,?_⟩))))⟩;grind
def Nc (G:Sl b d e f l)(w:0<=g)(X:g.toNat<l.length)(J:h=l[g.toNat])(z:rQ g.toNat h)(W:Sl b i j k a)(L:Sl b m n o c)(R:g.toNat<=c.length)(s:h.op=11):
  ZB 294 [S d e f,Φi g,S i j k,S m n o] b Tj (λ p o _=>(⟨p,o⟩:Ck)=te a h c):=by
 obtain⟨O,M,Q⟩:=pU G w _ J;rw[Tk (by omega) (by simp[s,aZ])];obtain⟨v,Y⟩:=z.a (by simp[s,aZ]);obtain⟨y,U,u,E⟩:=Hc L v (by omega);refine ΦK 0 {aj aN [] []with kb:=ir [57] [21,22,25,26,41,42,79,102,103,108,109,117,118,119,131,132,146,147,157,158]} (λ a=>ΦX d g e (ΦE ZJ b d (N g*7) (λ c h i j k l o=>C ZP 295 [I c] b λ p q=>decide (q<0)=false/\decide (c=1)=false/\C ZO 382 [S d e f,I g] p λ r s=>ΦQ (!s) (a 0 10 r) (decide (c=2)=false/\decide (0<q)=true/\ΦX m h n (ΦE ZE r m (N h*2+1) (λ t=>V (t=0) (ΦX m h n (ΦE ZE r m (N h*2+1) (λ u=>a 0 u r))) (ΦX m h n (ΦE ZE r m (N h*2+0) (λ u=>decide (1<q)=false/\decide (c=1)=false/\decide (c=2)=false/\decide (c=3)=false/\decide (c=4)=false/\decide (c=5)=false/\decide (c=6)=false/\decide (c=7)=false/\decide (c=8)=false/\decide (c=9)=false/\decide (c=10)=false/\a 3 0 r))))))))) ?_;dsimp only[aQ,aR,eQ,C,ΦE,N,ΦQ,ΦX,V];refine⟨O,w,M,_,_,_,_,_,_,_,Q,_,aX z.op,?_⟩;rintro T F _ rfl;refine⟨by rfl,by grind,_,bY (G.mono F) w _ J z,?_⟩;rintro P t _ rfl;have t:=aa F t;have u:=u.mono t;have E:=E.mono t;refine⟨λ r=>(by grind),λ _=>T' ⟨by simp[s,aZ],y,v,by omega,_,u,λ r=>⟨y,v,by omega,_,u,?_⟩,λ Z=>⟨y,v,by omega,_,E,?_⟩⟩⟩
 .grind
 rw[if_neg (by grind)];refine⟨by simp[s,aZ],U' (U' (U' (U' (U' ?_))))⟩;rw[xT,if_neg (by omega),if_neg (by omega),if_pos s]
def Jz (y:Sl b d e f l)(w:0<=g)(F:g.toNat<l.length)(z:h=l[g.toNat])(s:rQ g.toNat h)(v:Sl b i j k a)(t:Sl b m n o c)(u:g.toNat<=c.length)(E:h.op=1->bG h.k=true):
  ZB 294 [S d e f,Φi g,S i j k,S m n o] b Tj (λ r o _=>(⟨r,o⟩:Ck)=te a h c):=by
 rcases s.op with p | p | p | p | p | p | p
 .exact PS y w _ z s v t u p (E p)
 .exact PT y w _ z s v t u p
 .exact PU y w _ z s v t u p
 .exact PV y w _ z s v t u p
 .exact PY y w _ z s v t u p
 .exact Nb y w _ z s v t u p
 .exact Nc y w _ z s v t u p
def JA {B:D'}{n:Nat}{es:List Xp}(Z:Sl b d n e es)(hc:Sl b B f j a)(hw:AP es)(hv:∀x∈es,x.op=1->bG x.k=true)
  (X:0<=g) (r1:g<es.length) (hb:es.length<=200):ZB 223 [S d n e,Φi g,S B f j] b MY (λ k s _=>s=(cJ (xy es a) g).er/\(s=0->k=(cJ (xy es a) g).kd)):=by
 refine ΦK 1 (aj [35] [(11,[2,4,12,7,8,11,14,0])] [(7,[.slot 8 false [.row 53 386],ag 9])]) (λ a=>J (200<O n) (a 0 4 b) (J (g<0) (a 0 10 b) (J (O n<=g) (a 0 10 b) (ΦR (g+1)/\g+1=g+1/\0<=g+1/\(g+1)*O 16<=M/\(∀c:G',c=dE [I 0,I 0] (N (g+1))->W ZG b (λ h=>h (N (g+1)) c 0 b) λ h i k l m o=>J (o<=g) (∃p:Int->Int->Heap->Prop,U k m l (λ q r s=>af Tryz.prog 294 [S d n e,I o,S B f j,S q l r] s ⟨false,[(true,[.int .i64,.int .i64])]⟩ p)/\∀(q:Heap)(r s:Int),p r s q->ΦY o l (N o*2+2<=L m/\ΦR (o+1)/\(let t:=av m (N o*2) [I r,I s];h l t (o+1) k/\i l t (o+1)<i l m o))) (ΦY g l (ΦF ZE m (N g*2+1) 1 (λ p=>V (p=0) (ΦY g l (ΦF ZE m (N g*2+1) 1 (λ q=>a 0 q k))) (ΦY g l (ΦF ZE m (N g*2+0) 1 (λ q=>a q 0 k))))))))))) ?_;dsimp only[PL,aW,eQ,ΦF,L,M,N,ΦR,W,ΦY,O,V,J];have s1:=Z.len;have R:=Jw (es:=es) hc.WK Z.Vz;have b0:(xy es a).length=n:=by rw[Ef];grind
 have hK:∀{p:Nat} (hj:p<es.length),cJ _ p=te a _ _:=λ hj=>Ti hw hj;generalize xy _ _=l at*;simp only[aad,aaf];refine⟨λ h=>(by omega),λ _=>⟨λ h=>(by omega),λ _=>⟨λ h=>(by omega),λ _=>u' ⟨trivial,y' ?_⟩⟩⟩⟩;rintro a7 rfl;obtain⟨k,hk⟩:∃k:Nat,k=g.toNat+1:=⟨_,rfl⟩;rw[show(g+1).toNat=k by omega];refine⟨λ q Y i H'=>0<=i/\i<=k/\k=q/\Row H' Y (l.take i.toNat++List.replicate (k-i.toNat) Sp),λ _ _ i=>k-i.toNat,P' ⟨rfl,?_⟩,?_⟩
 .have hr:Rep.rel b _ Sp:=⟨rfl,by decide,by decide⟩;exact Row.gS hr k
 rintro a9 w q Y i ⟨T,h1,rfl,v⟩;dsimp only;have E:(l.take i.toNat++List.replicate (k-i.toNat) Sp).length=k:=by grind
 refine⟨λ a3=>?_,λ a1=>?_⟩
 .have P:i.toNat<es.length:=by omega
  have F:=hw _ P;refine⟨λ kd er _=>(⟨kd,er⟩)=cJ l i,λ a6 a4 a5 u C D=>?_,?_⟩
  .have hd:=v.sl u (n:=k) C E D (by show k*16<=_;omega) (by omega);have:=Jz (Z.mono (aa w u)) T _ rfl F (hc.mono (aa w u)) hd (by omega) (hv _ (aan _));have s:cJ l i=te a es[i.toNat] (l.take i.toNat++List.replicate (k-i.toNat) Sp):=by
    have:=hK P;rw[show((i.toNat))=i by omega]at this;rw[this];refine Cx λ o ho=>?_;have:=F.mem o ho;rw[cJ,cJ,aaq,aaq,abA (by grind),acU (by omega)]
   grind
  .rintro a8 kd er he;have G:=xV R i;have a2:Y.length=k*2:=by rw[v.length,E];rfl
   have a0:=v.dV (i:=i.toNat) (by grind) (us:=[.int _ _,.int _ _]) (t:=cJ l i) (by rw[<-he]at G⊢;exact⟨rfl,G⟩);refine⟨T,J' ⟨y' ⟨rfl,?_⟩,by omega⟩⟩;have e2:l.take (i+1).toNat++List.replicate (k-(i+1).toNat) Sp=(l.take i.toNat++List.replicate (k-i.toNat) Sp).set i.toNat (cJ l i):=by
    rw[bu T (by omega),show k-i.toNat=(k-(i+1).toNat)+1 by omega,acW,xS _ _ _ _ (by grind),aat];rw[cJ,aaq,aai _];rfl
   rw[e2];omega
 .have Q:=v.mg (i:=g.toNat) (by grind);obtain⟨vs,y,z,-⟩:=Q;have s:(l.take i.toNat++List.replicate (k-i.toNat) Sp)[g.toNat]'(by grind)=cJ l g:=by
   rw[aaI (by grind),acv,cJ,aaq,aai _];rfl
  rw[s]at y;obtain⟨rfl,-⟩:=y;have w1:=z 1 1 (by decide);have w0:=z 0 1 (by decide);refine⟨X,by omega,_,w1,λ h=>⟨X,by omega,_,w1,rfl,λ h2=>?_⟩,λ h=>⟨X,by omega,_,w0,?_,λ _=>rfl⟩⟩
  .grind
  grind
end
section
variable {a:List Xp}{b:Int}
def WM:Xp:=⟨0,0,0,0,v0⟩
def Qd (b:List Bool)(a:I'):List Bool:=a.foldl (λ f o=>f.set o.toNat true) b
def Nn (x:Xp)(a:List Bool):List Bool:=Qd a (opsL x)
def uc (a:List Xp):Nat->List Bool->I'
 | 0,_=>[]
 | i+1,fl=>if fl.getD i false=true then(if(a.getD i WM).op=2 then[(a.getD i WM).col]else[])++uc a i (Nn (a.getD i WM) fl)else uc a i fl
def CB (a:List Xp)(r:Int):I':=uc a (r.toNat+1) ((List.replicate (r.toNat+1) false).set r.toNat true)
def ud {a:I'}:∀{b:List Bool},(Qd b a).length=b.length:=by
 induction a with
 | nil=>intro b;rfl
 | cons o a c=>exact c.trans (by simp)
def Lp {c:List Bool}(d:0<=b)(e:b.toNat<c.length)(h:c[b.toNat]=false):uc a (b+1).toNat c=uc a b.toNat c:=by
 rw[show(b+1).toNat=b.toNat+1 by omega,uc,if_neg (by grind)]
def Hh {c:List Bool}(d:0<=b)(f:b.toNat<c.length)(e:b.toNat<a.length)(h:c[b.toNat]=true):
  uc a (b+1).toNat c=(if a[b.toNat].op=2 then[a[b.toNat].col]else[])++uc a b.toNat (Nn a[b.toNat] c):=by
 rw[show(b+1).toNat=b.toNat+1 by omega,uc,if_pos (by grind),aaq,aai _];rfl
def Ej {H:Heap}{A:D'}{n c:Nat}(hs:Sl H A n c a)(hw:AP a)(r0:0<=b)(r1:b<a.length)(hb:a.length<=200):
  ZB 338 [S A n c,Φi b] H fi (λ A' n' c' F=>∃l:I',Sl F A' n' c' l/\∀y,y∈l↔y∈CB a b):=by
 refine ΦK 4 {aj [46] [] [(7,[.slot 5 false [.row 70 4],.slot 6 false [.row 71 3],ag 7]),(11,[.slot 5 false [.row 72 4],ag 40])]with res:=wj [(68,⟨false,[(false,[.row 69 3])]⟩)],mt:=ir [234] [235]} (λ a=>J (b<0) (a none 0 0 H) (J (O n<=b) (a none 0 0 H) (ΦR (b+1)/\b+1=b+1/\0<=b+1/\(b+1)*O 1<=M/\(∀c:G',c=dE [ΦB false] (N (b+1))->ΦY b (N (b+1)) (N b*1+1<=L c/\W XK H (λ d=>d (N (b+1)) (av c (N b*1) [ΦB true]) 0 [] b H) (λ d e f g h i j k=>J (0<=k) (ΦY k g (ΦF Xt h (N k*1) 1 (λ l=>ΦQ (!l) (ΦR (k-1)/\d g h i j (k-1) f/\e g h i j (k-1)<e g h i j k) (ΦX A k n (ΦE ZJ f A (N k*7) (λ m o p q r s t=>C ZT 341 [ΦG [I m,I o,I p,I q,I r,I s,ΦT t]] f λ u v w x=>W ZG u (λ y=>y g h 0 u) λ y z a0 a1 a2 a3=>J (a3<O w) (ΦX v a3 w (ΦE ZE a0 v (N a3*1) (λ a4=>C ZO 342 [I k,I a4] a0 λ a5 a6=>ΦQ a6 (ΦY a4 a1 (N a4*1+1<=L a2/\ΦR (a3+1)/\(let a7:=av a2 (N a4*1) [ΦB true];y a1 a7 (a3+1) a5/\z a1 a7 (a3+1)<z a1 a2 a3))) (ΦR (a3+1)/\y a1 a2 (a3+1) a5/\z a1 a2 (a3+1)<z a1 a2 a3)))) (ΦX A k n (ΦE ZE a0 A (N k*7+0) (λ a4=>J (a4=2) (ΦX A k n (ΦE ZE a0 A (N k*7+3) (λ a5=>(i+1)*8<=M/\ΦR (k-1)/\d a1 a2 (i+1) (j++[Value.int .i64 a5]) (k-1) a0/\e a1 a2 (i+1) (j++[Value.int .i64 a5]) (k-1)<e g h i j k))) (ΦR (k-1)/\d a1 a2 i j (k-1) a0/\e a1 a2 i j (k-1)<e g h i j k)))))))))) (ZZ ZV 234 [S none 0 0] 0 3 i j true f (λ l m=>ZZ YH 235 [S none 0 0] 0 3 i m false l λ o p q r=>U o r q λ s t u=>a s q t u)))))))) ?_;dsimp only[PL,aQ,aR,aW,eQ,ΦB,C,ZZ,ΦE,ΦF,ΦG,I,L,M,N,ΦQ,ΦR,S,ΦT,U,W,ΦX,ΦY,O,J];have s1:=hs.len;obtain⟨e,hK⟩:∃e:Nat,e=b.toNat+1:=⟨_,rfl⟩;simp only[aad,aaf];rw[show(b+1).toNat=e by omega];refine⟨λ h=>(by omega),λ _=>⟨λ h=>(by omega),λ _=>u' ⟨trivial,y' ?_⟩⟩⟩;rintro xs rfl;have hz:Row H (dE [Value.bool false] e) (List.replicate e false):=by
  have hr:Rep.rel H [Value.bool false] false:=rfl;exact Row.gS hr e
 have a2:=hz.dV (i:=b.toNat) (by simp;omega) (us:=[.bool true]) (t:=true) rfl;have a5:(dE [Value.bool false] e).length=e:=by rw[hz.length];simp[Rep.sz]
 refine⟨r0,y' ?_⟩;refine⟨λ q V g h i F=> -1<=i/\i<=b/\e=q/\∃(E:List Bool) (d:I'),E.length=e/\Row F V E/\g=d.length/\g+(i+1).toNat<=e/\Row F h d/\CB a b=d++uc a (i+1).toNat E,λ _ _ _ _ i=>(i+1).toNat,
  (y' ⟨rfl,_,[],by simp,a2,rfl,by omega,rfl,by rw[show(b+1).toNat=b.toNat+1 by omega,hK];rfl⟩),?_⟩
 rintro H1 a0 q V g h i ⟨i0,i1,rfl,E,d,p,w,rfl,a9,X,f⟩;dsimp only;refine⟨λ m=>?_,λ v=>?_⟩
 .have u:i.toNat<E.length:=by omega
  have P:i.toNat<a.length:=by omega
  refine⟨m,by omega,_,w.dO u,λ hn=>?_,λ hy=>?_⟩
  .refine u' ⟨y' ⟨rfl,E,d,p,w,rfl,by omega,X,?_⟩,by omega⟩;rw[f,Lp m u (oL hn),show i-1+1=i by omega]
  .rw[Hh m u P (np hy)]at f;obtain⟨_,hA,_,hc,rfl,x1,x2,x3,x4,x5⟩:=hs.at (i:=i) a0 m (by omega);have G:=hw _ P;generalize a[i.toNat]=x at*;refine⟨hA,m,by omega,_,_,_,_,_,_,_,hc,_,jb G.op x2 x3,?_⟩;rintro H2 B A3 n3 c3 s;have o1:=s.len;have o2:(opsL x).length<=2:=by rw[mL];exact lM _
   refine⟨λ q V t F=>0<=t/\t<=n3/\e=q/\Row F V (Qd _ ((opsL x).take t.toNat)),λ _ _ t=>n3-t.toNat,P' ⟨rfl,w.mono B⟩,?_⟩;rintro H4 T q Y t ⟨Z,t1,rfl,j⟩;dsimp only;have Q:(Qd _ ((opsL x).take t.toNat)).length=e:=ud.trans p;refine⟨λ v=>?_,λ a4=>?_⟩
   .obtain⟨g5,gA,_,gc,rfl,gr⟩:=s.at T Z v;have hm:=G.mem _ (aan g5);refine⟨gA,Z,v,_,gc,_,sF,?_⟩;rintro H5 D _ rfl;refine⟨λ _=>?_,λ h=>?_⟩
    .have R:=(j.mono D).dV (i:=(opsL x)[t.toNat].toNat) (by omega) (us:=[.bool _]) (t:=true) rfl;have a6:Y.length=e*1:=by rw[j.length,Q];rfl
     refine⟨hm.1,J' ⟨y' ⟨rfl,?_⟩,by omega⟩⟩;rw[bu Z _,Qd,List.foldl_append];exact R
    grind
   .rw[aag (by omega)]at j;have o:=aa B T;refine⟨hA,m,by omega,_,(hc.mono o).cy (k:=0) rfl,λ z=>⟨hA,m,by omega,_,(hc.mono o).cy (k:=3) rfl,y' ⟨y' ⟨rfl,_,d++[x.col],ud.trans p,j,by simp,by omega,(X.mono o).append (Row.one ⟨rfl,x4⟩),?_⟩,by omega⟩⟩,λ z=>u' ⟨y' ⟨rfl,_,d,ud.trans p,j,rfl,by omega,X.mono o,?_⟩,by omega⟩⟩
    .rw[f,if_pos z,aat,show i-1+1=i by simp];rfl
    .rw[f,if_neg z,show i-1+1=i by simp];rfl
 .rw[show(i+1).toNat=0 by omega,uc,aar]at f;refine⟨_,tP X rfl (by omega),?_⟩;intro H2 B ys z;have z:Row _ _ (fT d):=z;refine⟨_,lJ z (dw _) (by omega),?_⟩;rintro H3 a7 zs n4 a8 ⟨rfl,h4⟩ A5 c5 H5 D a3 a1;have b1:=dU (fT d);rw[dw]at b1;refine⟨_,h4.sl D a3 rfl a1 (by show(Lib.compact _).length*8<=_;omega) (by omega),λ y=>?_⟩;rw[lU,fT,adF,f]
def Ek (a b:I'):(cx a b).length<=a.length+b.length:=by
 refine aax (dU _) ?_;rw[dw];simp
def El {H:Heap}{A:D'}{n c:Nat}(hs:Sl H A n c a)(hw:AP a)(r0:0<=b)(r1:b<a.length)(hb:a.length<=200):
  ZB 224 [S A n c,Φi b] H fi (λ A' n' c' H'=>∃l:I',Sl H' A' n' c' l/\∀y,y∈l↔y∈CB a b):=by
 refine ΦK 1 (aj [38] [] [(7,[.slot 5 false [.row 106 4],.slot 6 false [.sl],ag 7])]) (λ a=>J (b<0) (a none 0 0 H) (J (O n<=b) (a none 0 0 H) (ΦR (b+1)/\b+1=b+1/\0<=b+1/\(b+1)*O 1<=M/\(∀c:G',c=dE [ΦB false] (N (b+1))->ΦY b (N (b+1)) (N b*1+1<=L c/\W XL H (λ d=>d (N (b+1)) (av c (N b*1) [ΦB true]) none 0 0 b H) (λ d e f g h i j k l=>J (0<=l) (ΦY l g (ΦF Xt h (N l*1) 1 (λ m=>let o:=λ o=>ΦR (l-1)/\d g h i j k (l-1) o/\e g h i j k (l-1)<e g h i j k l;ΦQ (!m) (o f) (ΦX A l n (ΦE ZE f A (N l*7+0) (λ p=>C ZP 295 [I p] f λ q r=>let s:=λ(s:Int)=>av h (N s*1) [ΦB true];let t:=λ t (u:Nat)=>[S i j k,S t 1 u];let u:=λ(u:Int)=>ΦX A l n (ΦE ZE q A (N l*7+0) (λ v=>J (v=2) (ΦX A l n (ΦE ZE q A (N l*7+3) (λ w=>U q [I w] 1 λ x y z=>C ZT 161 (t x y) z λ a0 a1 a2 a3=>ΦR (l-1)/\d g (s u) a1 a2 a3 (l-1) a0/\e g (s u) a1 a2 a3 (l-1)<e g h i j k l))) (ΦR (l-1)/\d g (s u) i j k (l-1) q/\e g (s u) i j k (l-1)<e g h i j k l)));let v:=let v:=ΦX A l n (ΦE ZE q A (N l*7+0) (λ v=>J (v=2) (ΦX A l n (ΦE ZE q A (N l*7+3) (λ w=>U q [I w] 1 λ x y z=>C ZT 161 (t x y) z λ a0 a1 a2 a3=>ΦR (l-1)/\d g h a1 a2 a3 (l-1) a0/\e g h a1 a2 a3 (l-1)<e g h i j k l))) (o q)));J (1<r) (ΦX A l n (ΦE ZE q A (N l*7+2) (λ w=>J (0<=w) (ΦX A l n (ΦE ZE q A (N l*7+2) (λ x=>J (x<l) (ΦX A l n (ΦE ZE q A (N l*7+2) (λ y=>ΦY y g (N y*1+1<=L h/\u y)))) v))) v))) v;J (0<r) (ΦX A l n (ΦE ZE q A (N l*7+1) (λ w=>J (0<=w) (ΦX A l n (ΦE ZE q A (N l*7+1) (λ x=>J (x<l) (ΦX A l n (ΦE ZE q A (N l*7+1) (λ y=>ΦY y g (N y*1+1<=L h/\J (1<r) (ΦX A l n (ΦE ZE q A (N l*7+2) (λ z=>J (0<=z) (ΦX A l n (ΦE ZE q A (N l*7+2) (λ a0=>J (a0<l) (ΦX A l n (ΦE ZE q A (N l*7+2) (λ a1=>ΦY a1 g (N a1*1+1<=L (s y)/\ΦX A l n (ΦE ZE q A (N l*7+0) (λ a2=>let a3:=av (s y) (N a1*1) [ΦB true];J (a2=2) (ΦX A l n (ΦE ZE q A (N l*7+3) (λ a4=>U q [I a4] 1 λ a5 a6 a7=>C ZT 161 (t a5 a6) a7 λ a8 a9 b0 b1=>ΦR (l-1)/\d g a3 a9 b0 b1 (l-1) a8/\e g a3 a9 b0 b1 (l-1)<e g h i j k l))) (ΦR (l-1)/\d g a3 i j k (l-1) q/\e g a3 i j k (l-1)<e g h i j k l))))))) (u y)))) (u y)))) (u y))))) v))) v))) v)))))) (a i j k f))))))) ?_;dsimp only[PL,aQ,aR,aW,eQ,ΦB,C,ΦE,ΦF,I,L,M,N,ΦQ,ΦR,S,U,W,ΦX,ΦY,O,J];have s1:=hs.len;obtain⟨g,hK⟩:∃g:Nat,g=b.toNat+1:=⟨_,rfl⟩;simp only[aad,aaf];rw[show(b+1).toNat=g by omega];refine⟨λ h=>(by omega),λ _=>⟨λ h=>(by omega),λ _=>u' ⟨trivial,y' ?_⟩⟩⟩;rintro xs rfl;have hz:Row H (dE [Value.bool false] g) (List.replicate g false):=by
  have hr:Rep.rel H [Value.bool false] false:=rfl;exact Row.gS hr g
 have a6:=hz.dV (i:=b.toNat) (by simp;omega) (us:=[.bool true]) (t:=true) rfl;have b0:(dE [Value.bool false] g).length=g:=by rw[hz.length];simp[Rep.sz]
 refine⟨r0,y' ?_⟩;refine⟨λ q P B m d i H'=> -1<=i/\i<=b/\g=q/\∃(s:List Bool) (f:I'),s.length=g/\Row H' P s/\Sl H' B m d f/\f.length+(i+1).toNat<=g/\∀y,y∈CB a b↔y∈f\/y∈uc a (i+1).toNat s,λ _ _ _ _ _ i=>(i+1).toNat,
  (y' ⟨rfl,_,[],by simp,a6,Sl.nil,by simp;omega,λ y=>by rw[show(b+1).toNat=b.toNat+1 by omega,hK];exact⟨λ h=> .inr h,λ h=>h.resolve_left (by simp)⟩⟩),?_⟩
 rintro H1 a3 q P B m d i ⟨i0,i1,rfl,s,f,F,u,hL,b4,p⟩;dsimp only;refine⟨λ j=>?_,λ b3=>?_⟩
 rotate_left
 .rw[show(i+1).toNat=0 by omega,uc]at p;exact⟨f,hL,λ y=>by rw[p];simp⟩
 have E:i.toNat<s.length:=by omega
 have T:i.toNat<a.length:=by omega
 refine⟨j,by omega,_,u.dO E,λ hn=>?_,λ hy=>?_⟩
 .refine u' ⟨y' ⟨rfl,s,f,F,u,hL,u' ?_⟩,by omega⟩;rw[Lp j E (oL hn)]at p;rw[show i-1+1=i by omega];exact p
 rw[Hh j E T (np hy)]at p;obtain⟨_,z,_,V,rfl,x1,x2,x3,x4,x5⟩:=hs.at (i:=i) a3 j (by omega);have D:=hw i.toNat T;generalize a[i.toNat]=x at*;refine⟨z,j,by omega,_,V.cy (k:=0) rfl,_,aX D.op,?_⟩;rintro H2 v _ rfl;have hl:=hL.len;have c0:=(V.mono v).cy (k:=0) rfl;have c1:=(V.mono v).cy (k:=1) rfl;have c2:=(V.mono v).cy (k:=2) rfl;have c3:=(V.mono v).cy (k:=3) rfl;have o:i<(n:Int):=by omega
 have u:=u.mono v;have b2:P.length=g*1:=by rw[u.length,F];rfl
 have b1:=lM x.op;have Z:=D.a;have R:=D.b;have a9:aZ x.op=0->Nn x s=s:=λ h=>by rw[Nn,opsL,h];rfl
 have a2:aZ x.op=1->Nn x s=s.set x.a.toNat true:=λ h=>by rw[Nn,opsL,h];rfl
 have Y:aZ x.op=2->Nn x s=(s.set x.a.toNat true).set x.b.toNat true:=λ h=>by rw[Nn,opsL,h];rfl
 have X:∀{H3:Heap} {G:G'} {B3:D'} {m3 d3:Nat} {Q:I'},Row H3 G (Nn x s)->Sl H3 B3 m3 d3 Q->Q.length<=f.length+1->(∀y,y∈Q↔y∈f\/y∈(if x.op=2 then[x.col]else[]))->
   ae .i64 (i-1)/\(-1<=i-1/\i-1<=b/\g=g/\∃(s:List Bool) (f:I'),s.length=g/\Row H3 G s/\Sl H3 B3 m3 d3 f/\f.length+(i-1+1).toNat<=g/\∀y,y∈CB a b↔y∈f\/y∈uc a (i-1+1).toNat s)/\(i-1+1).toNat<(i+1).toNat:=λ {H3 G B3 m3 d3 Q} h1 h2 w h4=>
  (u' ⟨y' ⟨rfl,Nn x s,Q,ud.trans F,h1,h2,u' λ y=>by grind⟩,by omega⟩)
 refine⟨λ hp=>⟨z,j,o,_,c1,λ _=>⟨z,j,o,_,c1,λ _=>⟨z,j,o,_,c1,(Z (by omega)).1,by grind,by grind,
   λ a0=>⟨z,j,o,_,c2,λ _=>⟨z,j,o,_,c2,λ _=>⟨z,j,o,_,c2,(R (by omega)).1,by grind,?_,?_⟩,λ h=>absurd (by grind) h⟩,λ h=>absurd (R (by omega)).1 h⟩,
   λ a0=>?_⟩,λ h=>absurd (by grind) h⟩,λ h=>absurd (Z (by omega)).1 h⟩,λ hp=>⟨λ h=>absurd h (by omega),λ a0=>?_⟩⟩
 .have e:(av _ (x.a.toNat*1) _).length=(s.set _ _).length*1:=(u.dV (i:=x.a.toNat) (by grind) (us:=[.bool _]) (t:=true) rfl).length;grind
 focus
  have w:Row H2 (av (av P (x.a.toNat*1) [.bool true]) (x.b.toNat*1) [.bool true]) (Nn x s):=by
   rw[Y (by omega)];exact(u.dV (by grind) (us:=[.bool _]) (t:=true) rfl).dV (by grind) rfl
  revert w
 rotate_left
 focus
  have w:Row H2 (av P (x.a.toNat*1) [.bool true]) (Nn x s):=by
   rw[a2 (by omega)];exact u.dV (by grind) (us:=[.bool _]) (t:=true) rfl
  revert w
 rotate_left
 focus
  have w:Row H2 P (Nn x s):=by grind
  revert w
 all_goals
  intro w;refine⟨z,j,o,_,c0,λ h2=>⟨z,j,o,_,c3,λ A4 d4 H4 a1 a4 a7=>?_⟩,λ h2=>X w (hL.mono v) (by simp) λ y=>by grind⟩;have a5:Sl H4 A4 1 d4 [x.col]:=(Row.one (show Rep.rel H4 [Φi x.col] x.col from⟨rfl,x4⟩)).sl (ah H4) a4 rfl a7 (by decide) (by simp);refine⟨_,dC (hL.mono (aa v a1)) a5 (by omega),λ H5 a8 A5 n5 c5 h5=>X (w.mono (aa a1 a8)) h5 (Ek f _) λ y=>?_⟩;rw[oo,if_pos h2]
end
section
structure eC where
 sch:bp
 vs:List bR
deriving DecidableEq
structure rX (H:Heap)(nm:ByteArray)(A:D')(n c:Nat)(B:D')(m d:Nat)(E:D')(k e:Nat)(F:D')(l f:Nat)(G:D')(q g:Nat)(t:eC):Prop where
 sch:aV H nm A n c B m d E k e F l f t.sch
 vs:Sl H G q g t.vs
def rX.mono {H b:Heap}{nm:ByteArray}{A:D'}{n c:Nat}{B:D'}{m d:Nat}{E:D'}{k e:Nat}{F:D'}{l f:Nat}{G:D'}{q g:Nat}{t:eC}
 (h:rX H nm A n c B m d E k e F l f G q g t) (a:Heap.le H b):rX b nm A n c B m d E k e F l f G q g t:=⟨h.sch.mono a,h.vs.mono a⟩
abbrev JK (nm:ByteArray)(A:D')(n c:Nat)(B:D')(m d:Nat)(E:D')(k e:Nat)(F:D')(l f:Nat)(G:D')(q g:Nat):G':=
 [.string nm,.slice A n c,.slice B m d,.slice E k e,.slice F l f,.slice G q g]
instance:Rep eC where
 sz:=6
 byt:=136
 rel H vs t:=∃nm A n c B m d E k e F l f G q g,vs=JK nm A n c B m d E k e F l f G q g/\rX H nm A n c B m d E k e F l f G q g t
 mono:=λ hle ⟨nm,A,n,c,B,m,d,E,k,e,F,l,f,G,q,g,h1,h2⟩=>⟨nm,A,n,c,B,m,d,E,k,e,F,l,f,G,q,g,h1,h2.mono hle⟩
 len:=λ ⟨nm,A,n,c,B,m,d,E,k,e,F,l,f,G,q,g,h1,_⟩=>by simp[h1]
 pos:=by decide
 bpos:=by decide
 one:=λ ⟨nm,A,n,c,B,m,d,E,k,e,F,l,f,G,q,g,h1,_⟩=>by rw[h1];simp[Value.oneCell']
def wd (s:bp):Int:=min (width s) 12
def xB (a:List az)(w:Int):List az:=a++List.replicate (w.toNat-a.length) v0
def Qf {vals:List az}{w:Int}(a:0<=w):((xB vals w).length:Int)=max w vals.length:=by simp[xB];omega
def Qg {H:Heap}{A:D'}{n c:Nat}{vals:List az}{w:Int}(b:Sl H A n c vals)(l:0<=w)(y:w<=12):
  ZB 49 [S A n c,Φi w] H fi (λ g j f h=>Sl h g j f (xB vals w)):=by
 refine ΦK 0 bE (λ a=>max w (O n)=max w (O n)/\(0:Int)<=max w (O n)/\max w (O n)*O 32<=M/\∀b:G',b=dE [I 0,I 0,ΦT ⟨⟨[]⟩⟩] (N (max w (O n)))->∃c:G',Cells H A 0 c/\L c=n*3/\n<=N (max w (O n))/\U H (av b 0 c) (N (max w (O n))) λ d e f=>a d (N (max w (O n))) e f) ?_;dsimp only[L,M,N,O];have t:=b.len;have p:=b.bnd;have x:n*32<=140737488355328:=p;obtain⟨k,o⟩:∃k:Nat,(k)=max w n:=⟨(max w n).toNat,by simp⟩;rw[<-o];refine⟨rfl,N' (u' ?_)⟩;rintro z rfl;obtain⟨d,m,i⟩:=b.row;have a:d.length=n*3:=by rw[i.length,t];rfl
 refine⟨d,m,a,u' λ g f h e v u=>?_⟩;have s:Rep.rel H _ v0:=⟨rfl,kS⟩;have q:=(Row.gS s k).drop n;have r:Row H (av (dE [Φi 0,Φi 0,.string ⟨⟨[]⟩⟩] k) 0 d) (xB vals w):=by
  rw[xB,show w.toNat-vals.length=k-n by omega,<-List.drop_replicate];simp only[av,aaT,a];exact i.append q
 exact r.sl e v (by have:=Qf (vals:=vals) l;omega) u (by show k*32<=_;omega) (by omega)
section
variable {H:Heap}{nm:ByteArray}{A:D'}{n c:Nat}{B:D'}{m d:Nat}{E:D'}{k e:Nat}{F:D'}{l f:Nat}{G:D'}{q g:Nat}{t:eC}
def wM:∀(l:List cz) (w:Int),w<=aF w l
 |[],w=>abt _
 | x::r,w=>by rw[aF];have:=wM r (max w x.id);omega
def vz:∀(l:List dh) (w:Int),w<=aS w l
 |[],w=>abt _
 | x::r,w=>by rw[aS];have:=vz r (aF w x.cols);have:=wM x.cols w;omega
def Lq (s:bp):0<=width s:=vz _ _
def Qh (s:bp):0<=wd s:=by have:=Lq s;unfold wd;omega
def CC (s:bp):wd s<=12:=by unfold wd;omega
def zM (a:rX H nm A n c B m d E k e F l f G q g t):ZB 47 [.agg ⟨JK nm A n c B m d E k e F l f G q g⟩] H gL (λ r _=>r=wd t.sch):=by
 refine ΦK 0 (aj [5] [] []) (λ a=>C ZP 106 [ΦG [ΦT nm,S A n c,S B m d,S E k e,S F l f]] H λ b g=>a (min g 12) b) ?_;dsimp only[aQ,aR,C];refine⟨_,oh a.sch,?_⟩;rintro b _ r ⟨rfl,-⟩;rfl
def zN {c e d b a:Int}{X:D'}{y z:Nat}:ZB 48 [.agg ⟨[Φi c,S X y z,Φi e,Φi d,Φi b,Φi a]⟩] H fg (λ r _=>r=decide (a=1099511627776)):=by
 refine ΦK 0 bE (λ b=>b (decide (a=1099511627776)) H) ?_;dsimp only[]
def kX (w:Nat)(a:List cz):I':=a.foldl (λ l c=>if 1<=c.id/\c.id<=(w:Int)then l.set (c.id-1).toNat c.kind else l) (List.replicate w (0:Int))
def sL {w:Nat}(a:List cz):(kX w a).length=w:=by
 have b:∀(a:List cz) (l:I'),(a.foldl (λ l c=>if 1<=c.id/\c.id<=(w:Int)then l.set (c.id-1).toNat c.kind else l) l).length=l.length:=by
  intro a;induction a with
  | nil=>simp
  | cons c r d=>grind
 rw[kX,b,List.length_replicate]
def br (s:bp)(x:Int):I':=kX (wd s).toNat ((cY x s.vers).getD og).cols
def wN {w:Nat}{a:List cz}{i:Int}(b:0<=i)(c:i.toNat<a.length):kX w (a.take (i+1).toNat)=if 1<=a[i.toNat].id/\a[i.toNat].id<=w then(kX w (a.take i.toNat)).set (a[i.toNat].id-1).toNat a[i.toNat].kind else kX w (a.take i.toNat):=by
 rw[bu b _,kX,List.foldl_append];rfl
def Hj {x:Int}(hs:rX H nm A n c B m d E k e F l f G q g t):ZB 201 [.agg ⟨JK nm A n c B m d E k e F l f G q g⟩,Φi x] H fi (λ A' n' c' X=>Sl X A' n' c' (br t.sch x)):=by
 refine ΦK 1 (aj [11] [] [(4,[.slot 5 false [.row 46 3],ag 23])]) (λ a=>C ZP 47 [ΦG [ΦT nm,S A n c,S B m d,S E k e,S F l f,S G q g]] H λ b h=>h=h/\0<=h/\h*O 8<=M/\∀i:G',i=dE [I 0] (N h)->C YK 33 [ΦG [ΦT nm,S A n c,S B m d,S E k e,S F l f],I x] b λ j o p r s t u=>W ZG j (λ v=>v (N h) i 0 j) λ v w y z a0 a1=>J (a1<O s) (ΦX r a1 s (ΦE Xq y r (N a1*3) (λ a2 a3 a4=>let a5:=ΦR (a1+1)/\v z a0 (a1+1) y/\w z a0 (a1+1)<w z a0 a1;J (1<=a2) (J (a2<=O z) (ΦR (a2-1)/\ΦY (a2-1) z (N (a2-1)*1+1<=L a0/\ΦR (a1+1)/\(let a6:=av a0 (N (a2-1)*1) [I a4];v z a6 (a1+1) y/\w z a6 (a1+1)<w z a0 a1))) a5) a5))) (U y a0 z (λ a2 a3 a4=>a a2 z a3 a4))) ?_;dsimp only[PL,aQ,aR,aW,eQ,C,ΦE,L,M,N,ΦR,W,ΦX,ΦY,O,J];refine⟨_,zM hs,?_⟩;rintro H1 V _ rfl;have w0:=Qh t.sch;have w1:=CC t.sch;refine⟨rfl,w0,u' ?_⟩;rintro xs rfl;refine⟨_,kF (hs.sch.mono V),?_⟩;rintro H2 a2 a b A2 n2 c2 ok ⟨-,-,-,h,Y,u⟩;have o:((cY x t.sch.vers).getD og).cols=h:=by rw[<-u]
 have t1:=Y.len;have t2:=Y.bn;obtain⟨w,hw⟩:∃w:Nat,w=(wd t.sch).toNat:=⟨_,rfl⟩;rw[<-hw];have hz:Row H2 (dE [Φi 0] w) (List.replicate w (0:Int)):=by
  have r:Rep.rel H2 [Φi 0] (0:Int):=⟨rfl,by grind⟩;exact Row.gS r w
 refine⟨λ p T i X=>0<=i/\i<=n2/\w=p/\Row X T (kX w (h.take i.toNat)),λ _ _ i=>n2-i.toNat,P' ⟨rfl,hz⟩,?_⟩;rintro H3 R p T i ⟨D,i1,rfl,r⟩;simp only[aad,aaf];have j:=sL (w:=w) (h.take i.toNat);refine⟨λ s=>?_,λ a1=>?_⟩
 .obtain⟨hi,hA,_,z,rfl,r1,r2,r3⟩:=Y.at R D s;have y:=wN (w:=w) D hi;refine⟨hA,D,s,_,_,_,z,λ g1=>⟨λ Z=>?_,λ Z=>?_⟩,λ g1=>?_⟩
  .have a0:=r.dV (i:=(h[i.toNat].id-1).toNat) (by omega) (us:=[.int _ _]) (t:=h[i.toNat].kind) ⟨rfl,r3⟩;have a3:T.length=w*1:=by rw[r.length,j];rfl
   refine T' (M' ⟨y' ⟨trivial,?_⟩,by omega⟩);rw[y,if_pos ⟨g1,Z⟩];omega
  .grind
  grind
 .rw[aag (by omega)]at r j;intro A4 c4 H4 P Q v;have:br t.sch x=kX w h:=by rw[br,o,hw]
  rw[this];exact r.sl P Q j v (by show w*8<=_;omega) (by omega)
end
end
section
variable {a:Heap}{b i j:Nat}{h:D'}{o:I'}
def Bm {l:List eC}{f:FuncId}{q:Value}{p:eC->Bool}(s:Sl a h b i l)(x:kP Tryz.prog eC a f q p):
  ZB 55 [S h b i,.func (.func f) #[] #[q]] a gL (λ r _=>r=idxOf p 0 l):=by
 refine ΦK 0 (aj [16] [] [(2,[ag 8])]) (λ c=>W ZE a (λ d=>d 0 a) λ d e g i=>J (i<O b) (ΦX h i b (ΦE XM g h (N i*6) (λ j k l m n o p r s t u v w x y z=>C ZO f [ΦG [ΦT j,S k l m,S n o p,S r s t,S u v w,S x y z],q] g λ a0 a1=>ΦQ a1 (c i a0) (ΦR (i+1)/\d (i+1) a0/\e (i+1)<e i)))) (c (-1) g)) ?_;dsimp only[PL,aQ,aR,aW,eQ,C,ΦE,N,ΦQ,ΦR,W,ΦX,O,J];refine⟨λ b _=>0<=b/\b<=l.length/\idxOf p 0 l=idxOf p b (l.drop b.toNat),λ b=>l.length-b.toNat,y' rfl,?_⟩;rintro V k e ⟨o,L,t⟩;simp only[aad,aaf];refine⟨λ g=>?_,λ m=>?_⟩
 .obtain⟨y,v,_,z,u⟩:=s.at k o g;have j:=x _ _ _ k u;obtain⟨nm,G,Z,P,Y,I,R,X,D,T,Q,E,c4,M,B,U,rfl,-⟩:=u;refine⟨v,o,g,_,_,_,_,_,_,_,_,_,_,_,_,_,_,_,_,z,_,j,?_⟩;rintro F _ d rfl;rw[ak o y,idxOf]at t;refine⟨λ w=>?_,λ w=>⟨?_,y' ?_,by omega⟩⟩
  .grind
  .have:=s.bn;omega
  grind
 .rw[ai m s.len,idxOf]at t;grind
def cO (x:ByteArray)(a:List eC):Int:=idxOf (λ t=>decide (t.sch.name=x)) 0 a
def Qi {x:ByteArray}(d:Cells a (some ⟨b,0,none⟩) 0 [ΦT x]):kP Tryz.prog eC a 56 (.pointer (some ⟨b,0,none⟩)) (λ t=>decide (t.sch.name=x)):=by
 rintro y k t c ⟨nm,j,w,m,v,z,p,u,f,q,o,i,n,l,e,r,rfl,h⟩;have s:=h.sch.name;refine ΦK 0 bE (λ a=>ΦE Xr y (some ⟨b,0,none⟩) 0 λ c=>a (decide (nm=c)) y) ?_;dsimp only[eQ,ΦE];exact⟨x,d.mono c,by grind⟩
def qY {B C:D'}{d k e:Nat}{p l q:Int}{x:ByteArray}{s:List eC}(u:Sl a h b i s):
  ZB 16 [.agg ⟨[Φi p,Φi l,S h b i,Φi q,S B j d,S C k e]⟩,ΦT x] a gL (λ r _=>r=cO x s):=by
 refine ΦK 0 (aj [8] [] []) (λ c=>∃d:Int->Heap->Prop,(∀(e:Nat)(f:Heap),Heap.le a f->Cells f (some ⟨e,0,none⟩) 0 [ΦT x]->af Tryz.prog 55 [S h b i,.func (.func 56) ⟨[]⟩ ⟨[.pointer (some ⟨e,0,none⟩)]⟩] f ⟨false,[(false,[.int .i64])]⟩ d)/\∀(e:Heap)(f:Int),d f e->c f a) ?_;exact⟨λ r _=>r=cO x _,λ g v o t=>Bm (u.mono o) (Qi t),λ _ _ f=>f⟩
def dY (w:Int)(v:bR):bR:=if v.rc.hi=1099511627776 then{v with vals:=xB v.vals w}else v
def zO {l:List bR}(g:Sl a h b i l):
  ZB 128 [S h b i] a ⟨false,[(false,[.row j 75])]⟩ (λ m s t=>m=l.length/\Row t s l):=by
 refine ΦK 0 bE (λ c=>ΦQ (Option.isNone h) (c 0 [] a) (∃d:G',Cells a h 0 d/\L d=b*6/\(0+b)*64<=M/\c (0+b) ([]++d) a)) ?_;dsimp only[L,M,ΦQ];refine⟨λ v=>?_,λ v=>?_⟩
 .have u:b=0:=by
   rcases abl b with d | d
   .grind
   .obtain⟨f,o,e⟩:=g.cD d;grind
  subst u;have:=aal g.len;subst this;exact⟨rfl,rfl⟩
 .obtain⟨k,q,p⟩:=g.row;refine⟨k,q,by rw[p.length,g.len];rfl,by have:=g.bnd;rw[aaT];omega,by rw[aaT];exact g.len.symm,by grind⟩
section
variable {H:Heap}{nm:ByteArray}{A:D'}{n c:Nat}{B:D'}{m d:Nat}{E:D'}{k e:Nat}{F:D'}{l f:Nat}{G:D'}{q g:Nat}{t:eC}
def CD (P:rX H nm A n c B m d E k e F l f G q g t):ZB 204 [.agg ⟨JK nm A n c B m d E k e F l f G q g⟩] H fi (λ A' n' c' H'=>Sl H' A' n' c' (t.vs.map (dY (wd t.sch)))):=by
 refine ΦK 2 {aj [7,20] [] [(4,[.slot 4 false [.row 35 75],ag 13])]with res:=wj [(10,⟨false,[(false,[.row 34 75])]⟩)]} (λ a=>C ZP 47 [ΦG [ΦT nm,S A n c,S B m d,S E k e,S F l f,S G q g]] H λ b h=>C YL 128 [S G q g] b λ i j o=>W ZG i (λ p=>p j o 0 i) λ p r s t u v=>J (v<O j) (ΦY v t (ΦF ZH u (N v*6) 6 (λ w x y z a0 a1 a2 a3=>C ZO 48 [ΦG [I w,S x y z,I a0,I a1,I a2,I a3]] s λ a4 a5=>ΦQ a5 (ΦY v t (ΦF ZM u (N v*6+1) 1 (λ a6 a7 a8=>C ZT 49 [S a6 a7 a8,I h] a4 λ a9 b0 b1 b2=>ΦY v t (N v*6+1+1<=L u/\ΦR (v+1)/\(let b3:=av u (N v*6+1) [S b0 b1 b2];p t b3 (v+1) a9/\r t b3 (v+1)<r t u v))))) (ΦR (v+1)/\p t u (v+1) a4/\r t u (v+1)<r t u v)))) (U s u t (λ w x y=>a w t x y))) ?_;dsimp only[PL,aQ,aR,aW,eQ,C,ΦF,L,N,ΦQ,ΦR,W,ΦY,O,J];refine⟨_,zM P,?_⟩;rintro H1 a1 _ rfl;have w0:=Qh t.sch;have w1:=CC t.sch;generalize wd t.sch=w at*;refine⟨_,zO (P.vs.mono a1),?_⟩;rintro H2 M p Q ⟨rfl,o⟩;have b1:=P.vs.bn;have b2:=P.vs.len;have b3:=P.vs.bnd;generalize t.vs=a at*;refine⟨λ p Q i H'=>0<=i/\i<=a.length/\a.length=p/\Row H' Q ((a.take i.toNat).map (dY w)++a.drop i.toNat),λ _ _ i=>a.length-i.toNat,y' ⟨rfl,by simpa using o⟩,?_⟩;rintro H3 a6 p Q i ⟨y,i1,rfl,o⟩;dsimp only;simp only[aad,aaf];have T:((a.take i.toNat).map (dY w)++a.drop i.toNat).length=a.length:=by simp;omega
 refine⟨λ a4=>?_,λ a3=>?_⟩
 .have hi:i.toNat<a.length:=by omega
  obtain⟨us,b,r,a2⟩:=o.mg (i:=i.toNat) (by omega);have V:=b;have hm:((a.take i.toNat).map (dY w)).length=i.toNat:=by simp;omega
  have eg:((a.take i.toNat).map (dY w)++a.drop i.toNat)[i.toNat]'(by omega)=a[i.toNat]:=by
   apply abC;rw[<-aai,abk (by omega),hm,adY,acq,adW,aai hi]
  have es:∀v,((a.take i.toNat).map (dY w)++a.drop i.toNat).set i.toNat v=(a.take i.toNat).map (dY w)++v::a.drop (i+1).toNat:=by
   intro v;rw[ak y hi,xS _ _ _ _ hm]
  have et:(a.take (i+1).toNat).map (dY w)++a.drop (i+1).toNat=(a.take i.toNat).map (dY w)++dY w a[i.toNat]::a.drop (i+1).toNat:=by
   rw[bu y hi,aaR,aat];rfl
  rw[eg]at b;obtain⟨A9,n9,c9,rfl,r1,r2,r3,r4,r5,r6⟩:=b;have w6:win Q (i.toNat*6) 6=[Φi a[i.toNat].id,S A9 n9 c9,Φi a[i.toNat].vd.lo,Φi a[i.toNat].vd.hi,Φi a[i.toNat].rc.lo,Φi a[i.toNat].rc.hi]:=r 0 6 (by decide);have a0:=r 1 1 (by decide);refine⟨y,by omega,_,_,_,_,_,_,_,_,w6,_,zN,?_⟩;rintro H4 j _ rfl;refine⟨λ h=>⟨y,by omega,_,_,_,a0,_,Qg (r2.mono j) w0 w1,?_⟩,λ h=>u' ⟨y' ⟨trivial,?_⟩,by omega⟩⟩
  .rintro H5 Y A5 n5 c5 hp;have D:=aa j Y;have a5:Q.length=a.length*6:=by rw[o.length,T];rfl
   refine⟨y,J' ⟨y' ⟨trivial,?_⟩,by omega⟩⟩;obtain⟨z,u,x,s⟩:=(o.mono D).mg (i:=i.toNat) (by omega);have X:z=[Φi a[i.toNat].id,S A9 n9 c9,Φi a[i.toNat].vd.lo,Φi a[i.toNat].vd.hi,Φi a[i.toNat].rc.lo,Φi a[i.toNat].rc.hi]:=by
    have:win _ (i.toNat*6) 6=z.take 6:=x 0 6 (by decide);have M:=Rep.len u;rw[aag (by rw[M];decide)]at this;grind
   subst X;have:=s 1 [S _ _ _] (dY w _) (by show 1+1<=6;simp) ⟨A5,n5,c5,by rw[dY,if_pos (aab h)];rfl,by rw[dY];grind,by rw[dY];grind,by rw[dY];grind⟩;rw[es]at this;rw[et];omega
  .rw[et,dY,if_neg (aac h)];rw[ak y _]at o;exact o.mono j
 .rw[aag (by omega),List.drop_of_length_le (by omega),aar]at o;intro A4 c4 H4 j Z R;exact o.sl j Z (by simp) R (by grind) (by omega)
end
def eX {c:Nat}(k:Sl a h b c o)(G:∀x∈o,0<=x):ZB 60 [S h b c] a fi (λ Q C E z=>Sl z Q C E (o.map (·-1))):=by
 refine ΦK 1 (aj [] [] [(3,[.slot 3 false [.row 23 3],ag 11])]) (λ c=>O b=O b/\0<=O b/\O b*O 8<=M/\∀d:G',d=dE [I 0] (N (O b))->W ZG a (λ e=>e (N (O b)) d 0 a) λ e f g i j k=>J (k<O b) (ΦX h k b (ΦE ZE g h (N k*1) (λ l=>ΦR (l-1)/\ΦY k i (N k*1+1<=L j/\ΦR (k+1)/\(let m:=av j (N k*1) [I (l-1)];e i m (k+1) g/\f i m (k+1)<f i j k))))) (U g j i (λ l m n=>c l i m n))) ?_;dsimp only[PL,aW,eQ,ΦE,L,M,N,ΦR,W,ΦX,ΦY,O,J];have R:=k.len;have Y:=k.bn;have s3:b*8<=140737488355328:=k.bnd;refine⟨rfl,y' ?_⟩;rintro xs rfl;rw[aaV];have u:Rep.rel a _ (0:Int):=⟨rfl,by decide⟩;refine⟨λ p y i z=>0<=i/\i<=b/\b=p/\Row z y ((o.take i.toNat).map (·-1)++List.replicate (b-i.toNat) 0),λ _ _ i=>b-i.toNat,P' ⟨rfl,Row.gS u b⟩,?_⟩;rintro V w p y i ⟨g,i1,rfl,j⟩;simp only[aad,aaf];refine⟨λ e=>?_,λ B=>?_⟩
 .obtain⟨T,P,_,r,rfl,D⟩:=k.at w g e;have hx:=G _ (aan T);have f:ae .i64 (o[i.toNat]-1):=by simp[ae]at D⊢;omega
  have q:((o.take i.toNat).map (·-1)++List.replicate (b-i.toNat) (0)).length=b:=by grind
  have F:y.length=b*1:=by rw[j.length,q];rfl
  have d:=j.dV (i:=i.toNat) (by omega) (us:=[.int _ _]) (t:=o[i.toNat]-1) ⟨rfl,f⟩;rw[MX _ 0 o i b g _ R]at d;exact⟨P,g,e,_,r,f,g,e,y' ⟨y' ⟨trivial,d⟩,by omega⟩⟩
 .rw[aag (by omega),show b-i.toNat=0 by omega,adt,aar]at j;intro Z c4 X v s m;exact j.sl v s (by grind) m (by omega) (by omega)
def iy (a:I')(c:Int):Bool:=decide (c<0)||decide ((a.length:Int)<=c)||decide (a.getD c.toNat 0=0)
def CE (b:List Xp)(a:I')(r:Int):Ck:=
 if(cJ (xy b a) r).er≠0 then⟨0,(cJ (xy b a) r).er⟩else if(CB b r).any (iy a)then⟨0,8⟩else⟨(cJ (xy b a) r).kd,0⟩
structure Su (es:List Xp):Prop where
 wf:AP es
 val:∀x∈es,x.op=1->bG x.k=true
 len:es.length<=200
def any_congr {m:I'}{p:Int->Bool}(h:∀y,y∈o↔y∈m):o.any p=m.any p:=by
 grind
def uf {B:D'}{c d:Nat}{w:List Xp}{r:Int}(R:Sl a h b c w)(G:Sl a B j d o)(s:Su w)(P:0<=r)(L:r<w.length):
  ZB 260 [S h b c,Φi r,S B j d] a MY (λ k e _=>(⟨k,e⟩:Ck)=CE w o r):=by
 refine ΦK 0 (aj [] [] [(5,[ag 26])]) (λ e=>C YF 337 [S h b c,I r,S B j d] a λ f g i=>V (i=0) (e 0 i f) (C ZT 338 [S h b c,I r] f (λ k l m n=>W ZE k (λ o=>o 0 k) λ o p q s=>J (s<O m) (ΦX l s m (ΦE ZE q l (N s*1) (λ t=>J (t<0) (e 0 8 q) (J (O j<=t) (e 0 8 q) (ΦX B t j (ΦE ZE q B (N t*1) (λ u=>J (u=0) (e 0 8 q) (ΦR (s+1)/\o (s+1) q/\p (s+1)<p s)))))))) (e g 0 q)))) ?_;dsimp only[PL,aQ,aR,aW,eQ,C,ΦE,N,ΦR,W,ΦX,O,V,J];refine⟨_,Jy R G s.wf s.val P L s.len,?_⟩;rintro H1 u X er he;rw[CE,<-he];refine⟨λ f=>?_,λ f=>⟨_,Ej (R.mono u) s.wf P L s.len,?_⟩⟩
 .rw[if_pos (by simpa using f)]
 have f:=np f;rw[if_neg (by simpa using f)];rintro H2 z A2 U c2 ⟨l,F,v⟩;have s1:=F.len;have s2:=F.bn;have Z:=G.len;have q:=aa u z;rw[<-any_congr v];refine⟨λ i _=>0<=i/\i<=U/\l.any (iy o)=(l.drop i.toNat).any (iy o),λ i=>U-i.toNat,P' rfl,?_⟩;rintro H3 t i ⟨E,i1,T⟩;simp only[aad,aaf];refine⟨λ p=>?_,λ x=>?_⟩
 .obtain⟨hx,Y,_,y,rfl,r2⟩:=F.at t E p;rw[ak E hx,aaS]at T;have g:iy o l[i.toNat]=true->(⟨0,8⟩:Ck)=if l.any (iy o)=true then⟨0,8⟩else⟨X,0⟩:=λ f=>by grind
  refine⟨Y,E,p,_,y,λ Q=>g (by simp[iy,Q]),λ Q=>⟨λ M=>g (by simp[iy,Z,M]),λ M=>?_⟩⟩;obtain⟨hy,hB,_,D,rfl,r3⟩:=G.at (i:=l[i.toNat]) (aa q t) (by omega) (by omega);refine⟨hB,y' ⟨_,D,λ g3=>g (by rw[iy];grind),λ g3=>u' ⟨y' ?_,by omega⟩⟩⟩;have:iy o l[i.toNat]=false:=by rw[iy];grind
  grind
 .rw[ai x s1]at T;grind
end
section
variable {b:Heap}
structure Ed where
 kind:Int
 table:ByteArray
 vals:List az
 vd:bc
 ex:List Xp
 pred:Int
 set:List xP
 sch:bp
 col:cz
structure Iq where
 ek:Int
 et:ByteArray
 va:D'
 vn:Nat
 vc:Nat
 vf:Int
 vt:Int
 xa:D'
 xn:Nat
 xc:Nat
 ep:Int
 sa:D'
 sn:Nat
 sc:Nat
 nm:ByteArray
 A:D'
 n:Nat
 c:Nat
 B:D'
 m:Nat
 d:Nat
 E:D'
 k:Nat
 e:Nat
 F:D'
 l:Nat
 f:Nat
 ci:Int
 cn:ByteArray
 ck:Int
abbrev Iq.v (a:Iq):G':=[.int .i64 a.ek,.string a.et,.slice a.va a.vn a.vc,.int .i64 a.vf,.int .i64 a.vt,.slice a.xa a.xn a.xc,.int .i64 a.ep,.slice a.sa a.sn a.sc,.string a.nm,.slice a.A a.n a.c,.slice a.B a.m a.d,.slice a.E a.k a.e,.slice a.F a.l a.f,
 .int .i64 a.ci,.string a.cn,.int .i64 a.ck]
structure qj (H:Heap)(a:Iq)(x:Ed):Prop where
 kind:a.ek=x.kind
 table:a.et=x.table
 vals:Sl H a.va a.vn a.vc x.vals
 lo:a.vf=x.vd.lo
 hi:a.vt=x.vd.hi
 ex:Sl H a.xa a.xn a.xc x.ex
 pred:a.ep=x.pred
 set:Sl H a.sa a.sn a.sc x.set
 sch:aV H a.nm a.A a.n a.c a.B a.m a.d a.E a.k a.e a.F a.l a.f x.sch
 ci:a.ci=x.col.id
 cn:a.cn=x.col.name
 ck:a.ck=x.col.kind
 r1:ae .i64 x.vd.lo
 r2:ae .i64 x.vd.hi
 r3:ae .i64 x.col.id
 r4:ae .i64 x.col.kind
 r5:str x.col.name
def qj.mono {H c:Heap}{a:Iq}{x:Ed}(h:qj H a x)(b:Heap.le H c):qj c a x:=
 {h with vals:=h.vals.mono b,ex:=h.ex.mono b,set:=h.set.mono b,sch:=h.sch.mono b}
instance:Rep Ed where
 sz:=16
 byt:=264
 rel H vs x:=∃a:Iq,vs=a.v/\qj H a x
 mono:=λ hle ⟨a,h1,h2⟩=>⟨a,h1,h2.mono hle⟩
 len:=λ ⟨a,h1,_⟩=>by simp[h1]
 pos:=by decide
 bpos:=by decide
 one:=λ ⟨a,h1,_⟩=>by rw[h1];simp[Value.oneCell']
def rC (x:Ed)(cols:I'):Int:=
 if eo x.vd=false then 10 else if x.pred= -1 then 0 else if(CE x.ex cols x.pred).er≠0 then(CE x.ex cols x.pred).er
 else if(CE x.ex cols x.pred).kd≠3/\(CE x.ex cols x.pred).kd≠0 then 7 else 0
structure Eo (x:Ed):Prop where
 ex:Su x.ex
 pred:x.pred= -1\/0<=x.pred/\x.pred<x.ex.length
 set:Rx x.ex x.set
section
variable {H:Heap}{a:Iq}{x:Ed}{P:D'}{p z:Nat}{cols:I'}
def qk (e:qj H a x)(f:Eo x)(j:Sl H P p z cols):ZB 200 [.agg ⟨a.v⟩,S P p z] H gL (λ r _=>r=rC x cols):=by
 have g:=e.lo;have k:=e.hi;have i:=e.pred;refine ΦK 0 (aj [9] [] []) (λ b=>C ZO 138 [ΦG [I a.vf,I a.vt]] H λ c d=>ΦQ (!d) (b 10 c) (J (a.ep=-1) (b 0 c) (C YF 260 [S a.xa a.xn a.xc,I a.ep,S P p z] c (λ e f g=>J (g=0) (V (f=3) (V (f=0) (b 7 e) (b g e)) (b g e)) (b g e))))) ?_;dsimp only[aQ,aR,C,ΦQ,V,J];refine⟨_,fw,?_⟩;rintro l c _ rfl;rw[g,k,i];refine⟨λ h=>?_,λ h=>⟨λ b=>?_,λ b=>?_⟩⟩
 .rw[rC,if_pos (oL h)]
 .rw[rC,if_neg (by simp_all),if_pos (aab b)]
 have b:=aac b;have d:=f.pred.resolve_left b;have m:rC x cols=if(CE x.ex cols x.pred).er≠0 then(CE x.ex cols x.pred).er else if(CE x.ex cols x.pred).kd≠3/\(CE x.ex cols x.pred).kd≠0 then 7 else 0:=by
  rw[rC,if_neg (by simp_all),if_neg b]
 refine⟨_,uf (e.ex.mono c) (j.mono c) f.ex d.1 d.2,?_⟩;grind
def oW (b:List Xp)(cols:I'):I'->List xP->Int
 | _,[]=>0
 | dn,a::r=>if iy cols a.col=true then 8 else if a.col∈dn then 9 else if(CE b cols a.ex).er≠0 then(CE b cols a.ex).er
  else if(CE b cols a.ex).kd≠0/\(CE b cols a.ex).kd≠cols.getD a.col.toNat 0 then 7 else oW b cols (a.col::dn) r
def kY (a:I'):G':=(List.range 12).map λ (j:Nat)=>Value.bool (decide ((j:Int)∈a))
def vA {dn:I'}{k:Int}(b:0<=k)(a:k<12):(kY dn)[k.toNat]?=some (.bool (decide (k∈dn))):=by
 rw[kY];grind
def VI {a:G'}{k:Nat}{v:Value}(h:a[k]?=some v):win a k 1=[v]:=by
 obtain⟨b,rfl⟩:=aap.1 h;rw[win,aas _];rfl
def No {dn:I'}{k:Int}(e:0<=k)(a:k<12):av (kY dn) k.toNat [.bool true]=kY (k::dn):=by
 have c:(kY dn).length=12:=by rfl
 have h:av (kY dn) k.toNat [.bool true]=(kY dn).set k.toNat (.bool true):=by
  rw[acj,if_pos (by omega),av];simp
 apply abU;intro j;by_cases b:j<12
 .have f:=vA (dn:=dn) (k:=(j)) (by simp) (by omega);have d:=vA (dn:=k::dn) (k:=(j)) (by simp) (by omega);grind
 .have g:(kY (k::dn)).length=12:=by rfl
  grind
def Ep {c:Int}(d:¬c<0)(a:¬(cols.length:Int)<=c)(b:cols.getD c.toNat 0≠0):iy cols c=false:=by rw[iy,aao d,aao a,aao b];rfl
def rD (G:qj H a x)(D:Eo x)(u:Sl H P p z cols)(hl:cols.length<=12):ZB 205 [.agg ⟨a.v⟩,S P p z] H gL (λ r _=>r=oW x.ex cols [] x.set):=by
 have t:=G.set;have X:=t.len;have s2:=t.bn;have U:=u.len;refine ΦK 0 (aj [] [] [(3,[ag 13,.arr 5 342])]) (λ b=>∃(c:Int->G'->Heap->Prop)(d:Int->G'->Nat),c 0 [ΦB false,ΦB false,ΦB false,ΦB false,ΦB false,ΦB false,ΦB false,ΦB false,ΦB false,ΦB false,ΦB false,ΦB false] H/\∀e:Heap,Heap.le H e->∀(f:Int)(g:G'),c f g e->J (f<O a.sn) (ΦX a.sa f a.sn (ΦE ZK e a.sa (N f*2) (λ h i=>J (h<0) (b 8 e) (J (O p<=h) (b 8 e) (ΦX P h p (ΦE ZE e P (N h*1) (λ j=>J (j=0) (b 8 e) (ΦY h 12 (ΦF Xt g (N h*1) 1 (λ k=>ΦQ k (b 9 e) (ΦY h 12 (N h*1+1<=L g/\C YF 260 [S a.xa a.xn a.xc,I i,S P p z] e (λ l m n=>V (n=0) (b n l) (let o:=ΦR (f+1)/\let o:=av g (N h*1) [ΦB true];c (f+1) o l/\d (f+1) o<d f g;V (m=0) (ΦX P h p (ΦE ZE l P (N h*1) (λ q=>V (m=q) (b 7 l) o))) o)))))))))))))) (b 0 e)) ?_;dsimp only[aQ,aR,eQ,C,ΦE,ΦF,L,N,ΦQ,ΦR,ΦX,ΦY,O,V,J];refine⟨λ d E _=>0<=d/\d<=a.sn/\∃l,E=kY l/\oW x.ex cols [] x.set=oW x.ex cols l (x.set.drop d.toNat),λ d _=>a.sn-d.toNat,y' ⟨[],rfl,rfl⟩,?_⟩;rintro H1 c d E ⟨q,d1,l,rfl,b⟩;dsimp only;simp only[aad,aaf];refine⟨λ f=>?_,λ m=>?_⟩
 .obtain⟨F,T,_,n,rfl,q1,q2⟩:=t.at c q f;have g:=D.set _ (aan F);rw[ak q F,oW]at b;generalize x.set[d.toNat]=y at*;have e:iy cols y.col=true->8=oW x.ex cols [] x.set:=λ h=>by grind
  refine⟨T,q,f,_,_,n,λ s=>e (by simp[iy,s]),λ s=>⟨λ A=>e (by simp[iy,U,A]),λ A=>?_⟩⟩;obtain⟨hy,M,_,j,rfl,r3⟩:=u.at (i:=y.col) c (by omega) (by omega);refine⟨M,y' ⟨_,j,λ g3=>e (by rw[iy];grind),λ g3=>?_⟩⟩;rw[if_neg (by rw[Ep s (by omega) (by grind)];simp)]at b;have Y:(kY l).length=12:=by rfl
  refine y' ⟨_,by rw[Nat.mul_one];exact VI (vA (by omega) (by omega)),λ B=>?_,λ B=>J' ?_⟩
  .grind
  rw[if_neg (aac B)]at b;refine⟨_,uf (G.ex.mono c) (u.mono c) D.ex g.1 g.2,?_⟩;rintro H2 o w er R;rw[<-R]at b;dsimp only at b;refine⟨λ h=>?_,λ h=>?_⟩
  .grind
  have h0:=aab (np h);rw[if_neg (by omega)]at b;have go:¬(w≠0/\w≠cols.getD _ 0)->ae .i64 (d+1)/\(0<=d+1/\d+1<=a.sn/\∃k,av (kY _) (y.col.toNat*1) _=kY k/\oW _ _ _ _=oW _ _ k _)/\a.sn-(d+1).toNat<a.sn-d.toNat:=λ W=>by
   rw[if_neg W]at b;exact u' ⟨y' ⟨_,by rw[Nat.mul_one];exact No (by omega) (by omega),b⟩,by omega⟩
  refine⟨λ Z=>⟨M,y' ⟨_,j.mono o,λ Q=>?_,λ Q=>go ?_⟩⟩,λ Z=>go ?_⟩
  .grind
  .grind
  grind
 .rw[ai m X]at b;rw[b];rfl
end
def Hk:Xp:=⟨1,0,0,0,⟨3,1,⟨⟨[]⟩⟩⟩⟩
def gO (x:Ed):List Xp:=if x.pred= -1 then x.ex++[Hk]else x.ex
def jU (x:Ed):Int:=if x.pred= -1 then x.ex.length else x.pred
def CF {A:D'}{n c r:Nat}{l:List Xp}(d:Sl b A n c l):
  ZB 261 [S A n c] b ⟨false,[(false,[.row r 142])]⟩ (λ m j p=>m=l.length/\Row p j l):=by
 refine ΦK 0 bE (λ a=>ΦQ (Option.isNone A) (a 0 [] b) (∃c:G',Cells b A 0 c/\L c=n*7/\(0+n)*64<=M/\a (0+n) ([]++c) b)) ?_;dsimp only[L,M,ΦQ];refine⟨λ q=>?_,λ q=>?_⟩
 .have k:n=0:=by
   rcases abl n with h | h
   .grind
   .obtain⟨a,o,e⟩:=d.cD h;grind
  subst k;have:=aal d.len;subst this;exact⟨rfl,rfl⟩
 .obtain⟨f,i,g⟩:=d.row;refine⟨f,i,by rw[g.length,d.len];rfl,by have:=d.bnd;rw[aaT];omega,by rw[aaT];exact d.len.symm,by grind⟩
def CG:Rep.rel b [Φi 1,Φi 0,Φi 0,Φi 0,Φi 3,Φi 1,.string ⟨⟨[]⟩⟩] Hk:=⟨rfl,by decide,by decide,by decide,by decide,qT (by decide) (by decide)⟩
def CH {a:Iq}{x:Ed}(g:qj b a x)(q:x.ex.length<=200):ZB 202 [.agg ⟨a.v⟩] b TO (λ k i j r o=>Sl o k i j (gO x)/\r=jU x):=by
 have m:=g.pred;have d:=g.ex;refine ΦK 1 {aj [] [(2,ab 2 6 [0]),(4,[2,4,8,14,16,18,7,11,13,20,22,0,1,1,11,7,13,20,22,0])] []with res:=wj [(16,⟨false,[(false,[.row 23 142])]⟩)]} (λ c=>V (a.ep=-1) (c a.xa a.xn a.xc a.ep b) (let d:=C YM 261 [S a.xa a.xn a.xc] b λ d e f=>(e+1)*64<=M/\U d (f++[Value.int .i64 1,I 0,I 0,I 0,I 3,I 1,ΦT ⟨⟨[]⟩⟩]) (e+1) λ g h i=>c g (e+1) h (O a.xn) i;d/\d)) ?_;dsimp only[aQ,aR,C,M,O,V];have w:=d.len;rw[m];refine⟨λ h=>?_,λ h=>?_⟩
 .have h:=aac (oL h);exact⟨by rw[gO];grind,by rw[jU,if_neg h]⟩
 have h:=aab (np h);rw[gO,jU,if_pos h];refine⟨⟨_,CF d,?_⟩,⟨_,CF d,?_⟩⟩;all_goals
  rintro t n p u ⟨rfl,l⟩;refine u' λ z s y c e f=>⟨(l.append (Row.one CG)).sl c e (by simp) f (by show _*64<=_;omega) (by omega),by grind⟩
end
end Go.Vc
namespace Go.Vc
open Go
def wQ {T:Type}(p:T->Bool):∀(a:List T) (x:T) (r:List T) (i:Int),p x=true->(idxOf p i (a++x::r)=i+a.length↔a.any p=false)
 |[],x,r,i,h=>by simp[idxOf,h]
 | y::a,x,r,i,h=>by
  have b:=wQ p a x r (i+1) h;simp[idxOf];grind
def Sv (k:Int):de k=(decide (1<=k)&&decide (k<=3)):=by
 rw[aaH];simp[de];omega
def Lr:∀(r b:List cz) (a:Int) (p:Option Int),0<=a->(∀x,p=some x->x=a)->(p=none->a=0)->
  fU a b r=sM (b++r) b.length p r
 |[],_,_,_,_,_,_=>by rfl
 | c::r,b,a,p,h0,hp,hn=>by
  rw[wO,fU];have d:=wQ (λ o=>decide (o.name=c.name)) b c r 0 (by simp);simp only[Int.zero_add]at d;have e:=Lr r (b++[c]) c.id (some c.id);by_cases g:a<c.id
  .have e:=e (by omega) (by simp) (by simp);rw[e,aat,aae];have f:((b.length:Int)+1)=((b.length+[c].length:Nat):Int):=by simp
   rw[Sv];grind
  grind
def gk (v:dh):Bn v=(dm v.rc&&aB v.cols):=by
 unfold Bn aB;rw[Lr _ _ 0 none (by simp) (by simp) (by simp)];grind
def qZ:∀(r:List cz) (d:Int) (e:List cz),fU d e r=true->(∀c∈r,d<c.id)/\r.Pairwise (λ a b=>a.id≠b.id)
 |[],_,_,_=>N' (by simp)
 | c::r,d,e,h=>by
  simp[fU,aay]at h;obtain⟨⟨⟨⟨⟨m,k⟩,o⟩,l⟩,n⟩,f⟩:=h;obtain⟨j,g⟩:=qZ r _ _ f;refine⟨λ x i=>?_,?_⟩
  .grind
  .refine aaz.2 ⟨λ x i=>?_,g⟩;grind
def fA:∀(l:List cz) (w:Int),w<=aF w l/\∀c∈l,c.id<=aF w l
 |[],w=>⟨by simp[aF],by simp⟩
 | c::r,w=>by
  obtain⟨a,b⟩:=fA r (max w c.id);simp[aF];grind
def rY:∀(l:List cz) (w:Int),aF w l=w\/∃c∈l,c.id=aF w l
 |[],w=> .inl rfl
 | c::r,w=>by
  rcases rY r (max w c.id)with h |⟨x,b,a⟩
  .simp[aF];grind
  .exact .inr ⟨x,T' a⟩
def ke (i g:Int)(f a:I')(b:List cz)(c:cz):Prop:=
 if f.getD c.id.toNat 0=0 then¬(0<i/\c.id<=g)else a.getD c.id.toNat 0=i/\b.getD c.id.toNat lB=c
def ij {T:Type}{l:List T}{a b:Nat}{x d:T}(h:a≠b):(l.set a x).getD b d=l.getD b d:=by
 grind
def kx {T:Type}{l:List T}{a:Nat}{x d:T}(h:a<l.length):(l.set a x).getD a d=x:=by
 grind
def rZ (i g:Int):∀(e:List cz) (f l:I') (n:List cz) (m:Int),f.length=13->l.length=13->n.length=13->(∀c∈e,1<=c.id/\c.id<=12)->e.Pairwise (λ a b=>a.id≠b.id)->
  ((∀c∈e,ke i g f l n c)->∃s j h,dP i g f l n m e=some (s,j,h,aF m e)/\s.length=13/\j.length=13/\h.length=13/\
   (∀x:Int,0<=x->x<=12->(∀c∈e,c.id≠x)->s.getD x.toNat 0=f.getD x.toNat 0/\j.getD x.toNat 0=l.getD x.toNat 0/\h.getD x.toNat lB=n.getD x.toNat lB)/\
   (∀c∈e,(i+1≠0->s.getD c.id.toNat 0≠0)/\j.getD c.id.toNat 0=i+1/\h.getD c.id.toNat lB=c))/\
  ((∃c∈e,¬ke i g f l n c)->dP i g f l n m e=none)
 |[],f,l,n,m,h1,h2,h3,_,_=>⟨λ _=>⟨f,l,n,rfl,h1,h2,h3,λ _ _ _ _=>⟨rfl,rfl,rfl⟩,by simp⟩,by simp⟩
 | c::r,f,l,n,m,h1,h2,h3,hid,hpw=>by
  obtain⟨E,M⟩:=aaz.1 hpw;obtain⟨c1,c2⟩:=hid c (by simp);have w:∀x∈r,1<=x.id/\x.id<=12:=λ x o=>hid x (by simp[o]);have D:∀(z:I') (p:List cz),z.length=13->p.length=13->(∀y:Nat,y≠c.id.toNat->z.getD y 0=f.getD y 0/\p.getD y lB=n.getD y lB)->(i+1≠0->z.getD c.id.toNat 0≠0)->p.getD c.id.toNat lB=c->
    ((∀x∈r,ke i g f l n x)->∃s j h,dP i g z (l.set c.id.toNat (i+1)) p (max m c.id) r=some (s,j,h,aF (max m c.id) r)/\s.length=13/\j.length=13/\h.length=13/\
     (∀x:Int,0<=x->x<=12->(∀d∈c::r,d.id≠x)->s.getD x.toNat 0=f.getD x.toNat 0/\j.getD x.toNat 0=l.getD x.toNat 0/\h.getD x.toNat lB=n.getD x.toNat lB)/\
     (∀d∈c::r,(i+1≠0->s.getD d.id.toNat 0≠0)/\j.getD d.id.toNat 0=i+1/\h.getD d.id.toNat lB=d))/\
    ((∃x∈r,¬ke i g f l n x)->dP i g z (l.set c.id.toNat (i+1)) p (max m c.id) r=none):=by
   intro z p l1 Z t P C;have v:∀x∈r,ke i g z (l.set c.id.toNat (i+1)) p x↔ke i g f l n x:=by
    intro x o;have q:x.id.toNat≠c.id.toNat:=by have:=E x o;have:=w x o;omega
    obtain⟨Q,K⟩:=t _ q;unfold ke;rw[Q,K,ij (abu q)]
   obtain⟨I,N⟩:=rZ i g r z (l.set c.id.toNat (i+1)) p (max m c.id) l1 (by simpa using h2) Z w M;refine⟨λ k=>?_,λ ⟨x,o,u⟩=>N ⟨x,o,λ hh=>u ((v x o).1 hh)⟩⟩;obtain⟨s,j,h,W,Q,K,e3,U,X⟩:=I λ x o=>(v x o).2 (k x o);refine⟨s,j,h,W,Q,K,e3,λ x V L o=>?_,λ d B=>?_⟩
   .obtain⟨R,S,J⟩:=U x V L λ d B=>o d (by simp[B]);have q:x.toNat≠c.id.toNat:=by have:=o c (by simp);omega
    obtain⟨Y,b2⟩:=t _ q;exact⟨R.trans Y,S.trans (ij (abu q)),J.trans b2⟩
   .rcases aaw.1 B with rfl | B
    .obtain⟨R,S,J⟩:=U d.id (by omega) c2 λ x o=>abu (E x o);refine⟨λ O=>?_,?_,J.trans C⟩
     .rw[R];exact P O
     .rw[S,kx (by omega)]
    .exact X d B
  rw[dP];by_cases G:f.getD c.id.toNat 0=0
  .rw[if_pos G];have F:ke i g f l n c↔¬(0<i/\c.id<=g):=by unfold ke;rw[if_pos G]
   by_cases A:0<i/\c.id<=g
   .rw[if_pos A];exact⟨λ k=>absurd A (F.1 (k c (by simp))),λ _=>rfl⟩
   .rw[if_neg A];obtain⟨H,k2⟩:=D (f.set c.id.toNat (i+1)) (n.set c.id.toNat c) (by simpa using h1) (by simpa using h3) (λ y T=>⟨ij (abu T),ij (abu T)⟩)
     (λ O=>by rw[kx (by omega)];exact O) (kx (by omega))
    refine⟨λ k=>H λ x o=>k x (by grind),λ ⟨x,o,u⟩=>?_⟩;grind
  .rw[if_neg G];have F:ke i g f l n c↔(l.getD c.id.toNat 0=i/\n.getD c.id.toNat lB=c):=by unfold ke;grind
   by_cases A:l.getD c.id.toNat 0=i/\n.getD c.id.toNat lB=c
   .rw[if_pos A];obtain⟨H,k2⟩:=D f _ h1 h3 (λ y _=>⟨rfl,rfl⟩) (λ _=>G) A.2;refine⟨λ k=>H λ x o=>k x (by grind),λ ⟨x,o,u⟩=>?_⟩;grind
   grind
structure Sw (i g:Int)(p:Option dh)(f la:I')(co:List cz):Prop where
 lf:f.length=13
 lla:la.length=13
 lco:co.length=13
 i0:0<=i
 none:p=none->i=0/\∀x:Int,0<=x->x<=12->f.getD x.toNat 0=0
 zero:∀a,p=some a->0<i
 big:∀x:Int,1<=x->x<=12->f.getD x.toNat 0≠0->x<=g
 inn:∀a,p=some a->∀c∈a.cols,f.getD c.id.toNat 0≠0/\la.getD c.id.toNat 0=i/\co.getD c.id.toNat lB=c
 out:∀a,p=some a->∀x:Int,1<=x->x<=12->(∀c∈a.cols,c.id≠x)->la.getD x.toNat 0≠i
 le:∀x:Int,0<=x->x<=12->la.getD x.toNat 0<=i
def vC {i g:Int}{p:Option dh}{f n:I'}{o:List cz}(h:Sw i g p f n o){c:cz}(l:1<=c.id)(m:c.id<=12):
  ke i g f n o c↔(match(generalizing:=false) p with | none=>True | some a=>bI a.cols g c=true):=by
 cases p with
 | none=>
  obtain⟨e,t⟩:=h.none rfl;unfold ke;grind
 | some a=>
  have u:=h.zero a rfl;unfold bI ke;cases r:a.cols.find? (λ d=>decide (d.id=c.id))with
  | none=>
   have b:∀d∈a.cols,d.id≠c.id:=λ d k=>by grind
   have q:=h.out a rfl _ l m b;split
   .grind
   .rename_i j;have:=h.big _ l m j;grind
  | some d=>
   have k:=adw r;obtain⟨v,w,s⟩:=h.inn a rfl d k;grind
def Er:∀(l:List dh) (i g:Int) (p:Option dh) (f t:I') (u:List cz),Sw i g p f t u->(∀v∈l,aB v.cols=true)->
  (jD i g f t u l=true↔(∀(k:Nat) (G:k<l.length),match(if k=0 then p else l[k-1]?)with | none=>True | some a=>l[k].cols.all (bI a.cols (aS g (l.take k)))=true))
 |[],i,g,p,f,t,u,_,_=>by simp[jD]
 | v::r,i,g,p,f,t,u,h,hv=>by
  have q:=hv v (by simp);simp only[aB,aah]at q;obtain⟨F,s⟩:=qZ _ _ _ q.2;have b:=mP _ _ _ (by omega) q.2;obtain⟨R,Y⟩:=rZ i g v.cols f t u g h.lf h.lla h.lco b s;have B:(∀c∈v.cols,ke i g f t u c)↔(match(generalizing:=false) p with | none=>True | some a=>v.cols.all (bI a.cols g)=true):=by
   cases p with
   | none=>exact⟨λ _=>trivial,λ _ c d=>(vC h (b c d).1 (b c d).2).2 trivial⟩
   | some a=>
    simp only[aaG];exact⟨λ H c d=>(vC h (b c d).1 (b c d).2).1 (H c d),λ H c d=>(vC h (b c d).1 (b c d).2).2 (H c d)⟩
  rw[rT];by_cases m:∀c∈v.cols,ke i g f t u c
  .obtain⟨L,z,y,N,S,P,T,I,K⟩:=R m;rw[N];have E:Sw (i+1) (aF g v.cols) (some v) L z y:=by
    have X:=h.i0;refine⟨S,P,T,by omega,by simp,λ _ _=>by omega,λ x M n D=>?_,λ a C c d=>?_,λ a C x M n D=>?_,λ x J n=>?_⟩
    .by_cases j:∃c∈v.cols,c.id=x
     .obtain⟨c,d,rfl⟩:=j;exact(fA v.cols g).2 c d
     .have o:∀c∈v.cols,c.id≠x:=λ c d e=>j ⟨c,d,e⟩;rw[(I x (by omega) n o).1]at D;have:=h.big x M n D;have:=(fA v.cols g).1;omega
    .simp only[acf]at C;subst C;obtain⟨V,W,O⟩:=K c d;exact⟨V (by omega),W,O⟩
    .simp only[acf]at C;subst C;rw[(I x (by omega) n D).2.1];have:=h.le x (by omega) n;omega
    .by_cases j:∃c∈v.cols,c.id=x
     .obtain⟨c,d,rfl⟩:=j;rw[(K c d).2.1];omega
     .have o:∀c∈v.cols,c.id≠x:=λ c d e=>j ⟨c,d,e⟩;rw[(I x J n o).2.1];have:=h.le x J n;omega
   have U:=Er r (i+1) (aF g v.cols) (some v) L z y E (λ w Q=>hv w (by simp[Q]));simp only;rw[U];constructor
   .intro A k G;cases k with
    | zero=>simpa[aS]using B.1 m
    | succ k=>
     have:=A k (by simpa using G);simp only[acz,acY,adx,aeN,acF,acm,acy,aS];grind
   .intro A k G;have:=A (k+1) (by grind);simp[aS]at this;grind
  .constructor
   .grind
   .intro A;have:=A 0 (by simp);exact absurd (B.2 (by simpa[aS]using this)) m
section
variable {a:List dh}
def vD:∀(l:List dh) (p:Option dh) (g:Int),fG p g l=true↔∀(k:Nat) (b:k<l.length),Bn l[k]=true/\(match(if k=0 then p else l[k-1]?)with | none=>True | some a=>follows a l[k] (aS g (l.take k))=true)
 |[],p,g=>by simp[fG]
 | v::r,p,g=>by
  rw[eY,aah,aah,vD r _ _];constructor
  .rintro⟨⟨d,c⟩,e⟩ k b;cases k with
   | zero=>
    refine⟨d,?_⟩;cases p with
    | none=>simp
    | some a=>simpa[aS]using c
   | succ k=>
    simp[aS];grind
  .intro h;refine⟨⟨(h 0 (by simp)).1,?_⟩,λ k b=>?_⟩
   .have:=(h 0 (by simp)).2;cases p with
    | none=>rfl
    | some a=>simpa[aS]using this
   .have:=h (k+1) (by grind);simp[aS]at this;grind
def zP:∀(l:List dh) (p:Option dh),iO (p.map (·.rc.hi)) l=true↔∀(k:Nat) (b:k<l.length),dm l[k].rc=true/\(match(if k=0 then p else l[k-1]?)with | none=>True | some a=>l[k].rc.lo=a.rc.hi)
 |[],p=>by simp[iO]
 | v::r,p=>by
  have c:=zP r (some v);rw[wE,aah,aah,show(some _)=(some v).map (·.rc.hi)from rfl,c];constructor
  .grind
  .intro h;refine⟨⟨(h 0 (by simp)).1,?_⟩,λ k b=>?_⟩
   .have:=(h 0 (by simp)).2;grind
   .have:=h (k+1) (by grind);grind
def VJ:Sw 0 0 none (List.replicate 13 0) (List.replicate 13 0) (List.replicate 13 lB):=by
 have z:∀x:Nat,(List.replicate 13 (0:Int)).getD x 0=0:=λ x=>by
  grind
 exact⟨rfl,rfl,rfl,by simp,λ _=>⟨rfl,λ x _ _=>z _⟩,by simp,λ x _ _ h=>absurd (z _) h,by simp,by simp,λ x _ _=>by grind⟩
def Sx (l:List dh):(iO none l&&(l.all λ v=>aB v.cols)&&ic l)=fG none 0 l:=by
 rw[aaH,aah,aah,aaG,vD,show(none)=(none).map _ from rfl,zP];constructor
 .rintro⟨⟨e,c⟩,g⟩ k b;have g:=(Er l 0 0 _ _ _ _ VJ c).1 g k b;obtain⟨i,j⟩:=e k _;refine⟨by rw[gk,i,c _ (aan _)];rfl,?_⟩;cases f:(if k=0 then none else l[k-1]?)with
  | none=>simp
  | some a=>
   simp;rw[follows];grind
 .intro h;have d:∀v∈l,aB v.cols=true:=λ v d=>by
   obtain⟨k,b,rfl⟩:=aaM d;have:=(h k b).1;rw[gk]at this;grind
  refine⟨⟨λ k b=>?_,d⟩,(Er l 0 0 _ _ _ _ VJ d).2 λ k b=>?_⟩
  .obtain⟨e,c⟩:=h k b;rw[gk]at e;cases f:(if k=0 then none else l[k-1]?)with
   | none=>grind
   | some a=>
    simp[follows]at c;grind
  .obtain⟨e,c⟩:=h k b;cases f:(if k=0 then none else l[k-1]?)with
   | none=>simp
   | some a=>
    simp[follows]at c;grind
def Ls:∀(r:I') (s:List Bool) (a:I'),s.length=13->(∀x:Int,1<=x->x<=12->s.getD x.toNat false=a.contains x)->sI s r=(gj a r&&mU r)
 |[],s,a,_,_=>rfl
 | x::r,s,a,hl,hs=>by
  rw[sI,gj,mU,abr,<-mU];by_cases b:1<=x/\x<=12
  .have c:hJ x=true:=by simp[hJ,b]
   rw[Ls r _ (a++[x]) (by grind) _,aau b.1]
   .grind
   grind
  .have c:hJ x=false:=by simp[hJ];omega
   grind
def qo (l:I'):bT l=(distinct l&&mU l):=by
 refine Ls l _ _ rfl λ x _ _=>?_;grind
def Sy {b:I'}(g:a≠[])(f:(a.all λ v=>aB v.cols)=true)(d:permanent a b=true):mU b=true:=by
 obtain⟨v,r,rfl⟩:=adr g;simp only[permanent,abr,aah]at d;refine aaG.2 λ x i=>?_;have:=aaG.1 d.1 x i;obtain⟨c,h,e⟩:=abD.1 this;have:=oe f v (by simp) c h;grind
def vE {ids:I'}(c:a≠[])(b:(a.all λ v=>aB v.cols)=true):(bT ids&&permanent a ids)=(distinct ids&&permanent a ids):=by
 rw[qo];cases h:permanent a _ with
 | false=>simp
 | true=>rw[Sy c b h];simp
def VK (c:a≠[])(b:(a.all λ v=>aB v.cols)=true)(f:nz):lR a f=Ot a f:=by
 unfold lR Ot;rw[qo f.refs];have:=vE c b (ids:=f.cols);grind
def Ug (c:a≠[])(b:(a.all λ v=>aB v.cols)=true)(f:Rs):jE a f=vB a f:=by
 unfold jE vB;have:=vE c b (ids:=f.cols);grind
def uh (s:bp):aw s=mV s:=by
 unfold aw mV;rw[<-Sx,fy];by_cases c:eV s.vers=true
 .have b:s.vers≠[]:=by intro e;simp[e,eV]at c
  by_cases a:(s.vers.all λ v=>aB v.cols)=true
  .have d:(s.fks.all λ f=>lR s.vers f)=s.fks.all (Ot s.vers):=by
    congr 1;funext f;exact VK b a f
   have g:(s.csts.all λ f=>jE s.vers f)=s.csts.all (vB s.vers):=by
    congr 1;funext f;exact Ug b a f
   have:=vE b a (ids:=s.key);grind
  grind
 grind
end
def oq:∀(l:List dh) (w:Int),w<=aS w l/\∀v∈l,∀c∈v.cols,c.id<=aS w l
 |[],w=>⟨abt _,λ _ h=>by grind⟩
 | v::r,w=>by
  have h:=oq r (aF w v.cols);have a:=fA v.cols w;unfold aS;grind
def wR:∀(l:List dh) (w:Int),aS w l=w\/∃v∈l,∃c∈v.cols,c.id=aS w l
 |[],w=> .inl rfl
 | v::r,w=>by
  unfold aS;rcases wR r (aF w v.cols)with h |⟨u,d,c,b,h⟩
  .rcases rY v.cols w with a |⟨c,b,a⟩
   .grind
   grind
  grind
def iR {l:List cz}{x:Int}:dq l x=true↔∃c∈l,c.id=x:=by simp[dq]
def Qj {l:List dh}(h:fG none 0 l=true){k:Nat}(a:k+1<l.length):follows l[k] l[k+1] (aS 0 (l.take (k+1)))=true:=by
 have:=((vD l _ 0).1 h _ a).2;grind
def JL {l:List dh}(h:fG none 0 l=true){k:Nat}(m:k+1<l.length){x:Int}(p:dq l[k+1].cols x=true){j:Nat}(q:j<=k)(a:dq l[j].cols x=true):dq l[k].cols x=true:=by
 have b:=Qj h m;simp only[follows,aah]at b;obtain⟨c,o,rfl⟩:=iR.1 p;obtain⟨d,i,n⟩:=iR.1 a;have:=aaG.1 b.2 c o;unfold bI at this;split at this
 .have g:=(oq (l.take (k+1)) 0).2 _ (ady.2 ⟨j,by omega,by rfl⟩) d i;grind
 .rename_i e f;have g:=List.find?_some f;exact iR.2 ⟨e,adw f,aab g⟩
def CI {s:bp}(h:aw s=true):fG none 0 s.vers=true/\eV s.vers=true:=by
 rw[uh]at h;simp[mV]at h;grind
def Qk {s:bp}(h:aw s=true){x:Int}{v:dh}(m:s.vers.getLast?=some v)(n:dq v.cols x=true):
  fresh s x=(match s.vers[s.vers.length-2]? with | none=>true | some p=>decide (s.vers.length<2)|| !dq p.cols x):=by
 have g:=(CI h).1;have b:=bF h;have c:=aaP.2 b;rw[aai (by omega)];unfold fresh;by_cases e:s.vers.length<2
 .have:s.vers.dropLast.length=0:=by grind
  grind
 rw[aao e];rw[aaH,aaG];constructor
 .intro a;refine a _ (aec.2 ⟨s.vers.length-2,by grind,?_⟩);simp
 .intro l u i;obtain⟨j,f,rfl⟩:=aec.1 i;rw[adq]at f;rw[List.getElem_dropLast];cases d:dq _ x with
  | false=>rfl
  | true=>
   have:=JL g (k:=s.vers.length-2) (by omega) (x:=x) (by
    grind) (j:=j) (by omega) d
   grind
section
variable {a:List cz}
def gl (a:Int)(b r:List cz)(c:cz):fU a b (c::r)=true↔(a<c.id/\c.id<=12/\dH c.name=true/\de c.kind=true/\∀o∈b,o.name≠c.name)/\fU c.id (b++[c]) r=true:=by
 simp[fU];grind
def Np {l:List cz}(h:a.Sublist l):∀(c d:Int) (e f:List cz),c<=d->(∀o∈e,o∈f)->fU d f l=true->fU c e a=true:=by
 induction h with
 | slnil=>intro _ _ _ _ _ _ _;rfl
 | cons b _ q=>
  intro c d e f t i g;obtain⟨⟨s,r,k,p,m⟩,j⟩:=(gl ..).1 g;grind
 | cons_cons b _ q=>
  intro c d e f t i g;obtain⟨⟨s,r,k,p,m⟩,j⟩:=(gl ..).1 g;refine(gl ..).2 ⟨(u' ⟨r,k,p,λ o n=>m o (i o n)⟩),q b.id b.id _ _ (abt _) (λ o n=>?_) j⟩;grind
def zR {c:cz}(f:c.id<=12)(i:dH c.name=true)(g:de c.kind=true):∀(l:List cz) (a:Int) (b:List cz),fU a b l=true->(∀d∈l,d.id<c.id)->a<c.id->
  (∀o∈b,o.name≠c.name)->(∀o∈l,o.name≠c.name)->fU a b (l++[c])=true
 |[],a,b,_,_,h2,h3,_=>(gl ..).2 ⟨⟨h2,f,i,g,h3⟩,rfl⟩
 | d::r,a,b,h,h1,h2,h3,h4=>by
  obtain⟨⟨p,s,q,k,n⟩,m⟩:=(gl ..).1 h;refine(gl ..).2 ⟨⟨p,s,q,k,n⟩,zR f i g r _ _ m (λ e t=>h1 e (by grind)) (h1 d (by simp)) (λ o j=>?_) (λ o j=>h4 o (by grind))⟩;grind
def qq (p:Option dh):List dh->Option dh
 |[]=>p
 | v::r=>qq (some v) r
def ky:∀(l m:List dh) (p:Option dh) (g:Int),fG p g (l++m)=(fG p g l&&fG (qq p l) (aS g l) m)
 |[],m,p,g=>by rfl
 | v::r,m,p,g=>by
  rw[aby,eY,eY,ky r m,qq,aS];grind
def qt:∀(l m:List dh) (g:Int),aS g (l++m)=aS (aS g l) m
 |[],m,g=>rfl
 | v::r,m,g=>by rw[aby,aS,aS,qt r m]
def zS:∀(l:List dh) (p:Option dh) (v:dh),qq p l=some v->p=some v\/v∈l
 |[],p,v,h=> .inl h
 | u::r,p,v,h=>by
  rcases zS r _ v h with h | h
  .grind
  grind
def Nq (h:a.Pairwise (λ e b=>e.id≠b.id)){c:cz}(j:c∈a):a.find? (λ d=>decide (d.id=c.id))=some c:=by
 induction a with
 | nil=>grind
 | cons d r f=>
  obtain⟨i,g⟩:=aaz.1 h;grind
structure Ql (v:dh)(init:List dh)(cols:List cz):Prop where
 valid:aB cols=true
 ef:∀c∈cols,c∈v.cols\/aF (aS 0 init) v.cols<c.id
def wS {b v:dh}{g w:Int}(h:follows b v g=true)(i:g<=w)(j:∀c∈b.cols,c.id<=g)(e:∀c∈a,c∈v.cols\/w<c.id){x:Int}:follows b ⟨⟨v.rc.lo,x⟩,a⟩ g=true:=by
 simp only[follows,aah]at h⊢;refine⟨h.1,aaG.2 λ c f=>?_⟩;rcases e c f with d | d
 .grind
 .unfold bI;grind
def JM {d:List dh}{v:dh}{x:Int}(h:fG none 0 (d++[v])=true)(k:Ql v d a)(r:v.rc.hi=1099511627776)(t:v.rc.lo<=x)(u:x<1099511627776):
  fG none 0 (bf (d++[v]) a x)=true/\eV (bf (d++[v]) a x)=true:=by
 rw[ky,aah]at h;obtain⟨n,i⟩:=h;simp[fG,acH]at i;obtain⟨i,f⟩:=i;rw[gk,aah]at i;obtain⟨o,p⟩:=i;have q:=oq d 0;have j:=fA v.cols (aS 0 d);have e:∀b,qq none d=some b->∀c∈b.cols,c.id<=aS 0 d:=by
  intro b s c l;rcases zS _ _ _ s with h | h
  .grind
  grind
 have g:=qZ v.cols 0 [] (by simp[aB]at p;grind);unfold bf;rw[aed];dsimp only;rw[aea];split
 .rw[ky,n,eY,gk];simp[fG,aaY];refine⟨⟨⟨o,k.valid⟩,?_⟩,?_⟩
  .revert f e;cases qq none d with
   | none=>simp
   | some b=>
    intro f e;exact wS (x:=v.rc.hi) f j.1 (e b rfl) k.ef
  .rw[eV];grind
 .simp[dm,aah]at o;refine⟨?_,?_⟩
  .rw[ky,n,eY,eY,gk,gk];simp[fG,aaY];refine⟨⟨⟨?_,p⟩,?_⟩,⟨?_,k.valid⟩,?_⟩
   .simp[dm,aah];omega
   .revert f e;cases qq none d with
    | none=>simp
    | some b=>
     intro f e;exact wS f j.1 (e b rfl) (λ c l=> .inl l)
   .simp[dm,aah];omega
   .simp only[follows];refine aaG.2 λ c l=>?_;unfold bI;rcases k.ef c l with m | m
    .rw[Nq g.2 m];simp
    grind
  .rw[eV];simp
end
end Go.Vc
namespace Go.Vc
open Go Go.Proofs
section
def Bp (s:bp):Bool:=decide (s.name.size<=200)&&decide (s.vers.length<=12)&&decide (s.key.length<=20)&&decide (s.fks.length<=10)&&decide (s.csts.length<=10)&&(s.vers.all λ v=>decide (v.cols.length<=20))&&
 (s.fks.all λ f=>decide (f.cols.length<=20)&&decide (f.refs.length<=20))&&(s.csts.all λ c=>decide (c.cols.length<=20))
section
variable {H:Heap}{nm:ByteArray}{A:D'}{n c:Nat}{B:D'}{m d:Nat}{E:D'}{k e:Nat}{F:D'}{l f:Nat}{s:bp}
end
end
end Go.Vc
