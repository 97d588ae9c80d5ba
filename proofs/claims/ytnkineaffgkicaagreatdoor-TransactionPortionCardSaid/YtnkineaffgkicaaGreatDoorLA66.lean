/- A part of the proof. -/
import Derived.Test.YtnkineaffgkicaaGreatDoorH32
set_option maxHeartbeats 0
set_option maxRecDepth 100000
set_option linter.unusedVariables false
set_option linter.defProp false
namespace Go.Vc
open Go Go.Shelf Go.Proofs
section
variable {a:Nat}
section
variable {H:Heap}{nm:ByteArray}{A:D'}{n c:Nat}{B:D'}{m d:Nat}{E:D'}{k e:Nat}{F:D'}{l f:Nat}{G:D'}{q g:Nat}{t:eC}
def ao5 (L:rX H nm A n c B m d E k e F l f G q g t)(V:nk t.vs)(hb:q<=1000000000):ZB 14 [.agg ⟨JK nm A n c B m d E k e F l f G q g⟩] H ⟨false,[(false,[.row a 107])]⟩ (λ p R H'=>p=(dR t).length/\p<=q/\Row H' R (dR t)):=by
 refine ΦK 1 {aj [8,17] dc [(4,[.slot 4 false [.row 35 107],ag 12])]with mt:=ir [50] []} (λ a=>C ZP 47 [ΦG [ΦT nm,S A n c,S B m d,S E k e,S F l f,S G q g]] H λ b h=>W ZG b (λ i=>i 0 [] 0 b) λ i j o p r s=>J (s<O q) (ΦX G s q (ΦE ZH o G (N s*6) (λ t u v w x y z a0=>C ZO 48 [ΦG [I t,S u v w,I x,I y,I z,I a0]] o λ a1 a2=>ΦQ a2 (let a3:=C ZT 49 [S u v w,I h] a1 λ a3 a4 a5 a6=>U a3 [I t] 1 λ a7 a8 a9=>(p+1)*64<=M/\ΦR (s+1)/\let b0:=r++[Value.slice a4 a5 a6,I x,I y,S a7 1 a8];i (p+1) b0 (s+1) a9/\j (p+1) b0 (s+1)<j p r s;a3/\a3) (ΦR (s+1)/\i p r (s+1) a1/\j p r (s+1)<j p r s)))) (ZZ ZV 50 [S none 0 0,.func (.func 51) ⟨[]⟩ ⟨[]⟩] 0 107 p r true o (λ t u=>a p u t))) ?_;dsimp only[PL,aQ,aR,aW,eQ,C,ZZ,ΦE,M,N,ΦQ,ΦR,W,ΦX,O,J];refine⟨_,zM L,?_⟩;rintro H1 a2 _ rfl;have w0:=Qh t.sch;have w1:=CC t.sch;have v1:=L.vs.len;have v2:=L.vs.bnd;have v3:=L.vs.bn;rw[dR];generalize wd t.sch=w at*;refine⟨λ p R i H'=>0<=i/\i<=q/\(p:Int)<=i/\p=(oY w (t.vs.take i.toNat)).length/\Row H' R (oY w (t.vs.take i.toNat)),λ _ _ i=>q-i.toNat,J' ⟨rfl,rfl⟩,?_⟩;rintro H2 Z p R i ⟨i0,i1,pi,hp,T⟩;dsimp only;have x:=aa a2 Z;refine ΦD (λ s=>?_) λ X=>?_
 .obtain⟨hi,hA,_,hc,P,z,y,rfl,r1,r2,r3,r4,r5,r6⟩:=L.vs.at x i0 s;refine⟨hA,i0,s,_,_,_,_,_,_,_,_,hc,_,zN,?_⟩;rintro H3 r _ rfl;rw[Qu i0 hi];refine⟨λ hn=>?_,λ hn=>?_⟩
  .rw[if_pos (show sS _=true from hn)];refine Bu ⟨_,Qg (r2.mono r) w0 w1,?_⟩;rintro H4 a1 P4 z4 y4 h4;intro P5 y5 H5 D a0 Y;refine T' ⟨by omega,J' (T' ((T.mono (aa r (aa a1 D))).append (Row.one ⟨_,_,_,_,_,_,rfl,h4.mono D,r3,r4,?_⟩))),by omega⟩;exact(show Row H5 [Φi t.vs[i.toNat].id] [t.vs[i.toNat].id]from Row.one ⟨rfl,r1⟩).sl (ah _) a0 rfl Y (by decide) (by simp)
  .rw[if_neg (by rw[show sS _=false from hn];simp),aar];exact u' ⟨J' ⟨hp,T.mono r⟩,by omega⟩
 rw[ez X v1]at T hp;refine⟨_,qw (Q:=λ t=>t.lin≠[]) (cf:=EA) T hp.symm (by omega) ⟨_,Tryz.func51,rfl,by rfl⟩ (λ t ht=>?_) (DY fQ _) Hu,?_⟩
 .obtain⟨v,-,rfl⟩:=aaO.1 ht;simp
 rintro H3 r R ⟨j,m1,m2,m3⟩;have e:=by
  have V:=Qv (w:=w) V;refine List.Perm.eq_of_pairwise (le:=λ o b:aO=>o.lin.headD 0<=b.lin.headD 0) (λ o b h1 h2 h h'=>?_) (m3.imp λ h=>?_) (V.imp λ h=>by omega) m2
  .have h1:=m2.mem_iff.1 h1;exact Ly V h1 h2 (by omega)
  .simp[EA,cQ]at h;grind
 grind
end
def apg {l:List aO}(b:a<l.length):(aeS (l.take a)++l.drop a).set a ⟨l[a].vals,l[a].p,[]⟩=aeS (l.take (a+1))++l.drop (a+1):=by
 have c:(aeS (l.take a)).length=a:=by simp[aeS];omega
 rw[List.set_append,if_neg (by omega),c,adY,aas b,List.set_cons_zero,aaj b];simp only[aeS,aaR,abq,List.map_nil,aat,List.singleton_append]
def ao6 {l:List aO}(c:a<l.length)(h:a<(aeS (l.take a)++l.drop a).length):(aeS (l.take a)++l.drop a)[a]=l[a]:=by
 have b:(aeS (l.take a)).length=a:=by simp[aeS];omega
 grind
def apc {l m:List Rw}(h:l.Perm m)(d:l.Pairwise λ a b=>¬iA b a<0)(c:m.Pairwise λ a b=>¬iA b a<0):l=m:=by
 exact ao0 mR d c h
def aoX {H:Heap}{k n u o:Int}{X Y Z:D'}{V hn hc P cc j:Nat}{D:Db}{d:ByteArray}{t:eC}(z:um H k n X a V hn P D)(hf:cO d D.tabs=j)(ht:D.tabs[j]?=some t)(ha:nk t.vs)(hl:t.vs.length<=1000000):
  ZB 36 [Ir k n X a V u Y hn hc Z P cc,ΦT d,Φi o] H fi (λ A' n' c' y=>∃m:List Rw,Sl y A' n' c' m/\m.Perm (ab8 (wd t.sch) t.vs o)/\m.Pairwise λ c b=>¬iA b c<0):=by
 refine ΦK 2 {aj [12] [] [(6,[.slot 8 false [.row 42 107],ag 30])]with res:=wj [(27,⟨false,[(false,[.row 41 107])]⟩)]} (λ b=>C ZP 16 [ΦG [I k,I n,S X a V,I u,S Y hn hc,S Z P cc],ΦT d] H λ c e=>J (e<0) (b none 0 0 c) (J (O a<=e) (b none 0 0 c) (ΦX X e a (ΦE XM c X (N e*6) (λ f g h i j l m p q r s t v w x y=>C api 14 [ΦG [ΦT f,S g h i,S j l m,S p q r,S s t v,S w x y]] c λ z a0 a1=>W ZG z (λ a2=>a2 a0 a1 0 z) λ a2 a3 a4 a5 a6 a7=>J (a7<O a0) (ΦY a7 a5 (N a7*4+3+1<=L a6/\ΦR (a7+1)/\(let a8:=av a6 (N a7*4+3) [S none 0 0];a2 a5 a8 (a7+1) a4/\a3 a5 a8 (a7+1)<a3 a5 a6 a7))) (U a4 a6 a5 (λ a8 a9 b0=>C ZT 84 [S a8 a5 a9,I o] b0 λ b1 b2 b3 b4=>b b2 b3 b4 b1))))))) ?_;dsimp only[PL,aQ,aR,aW,eQ,C,ΦE,L,N,ΦR,W,ΦX,ΦY,O,J];have s1:=z.tabs.len;refine⟨_,qY z.tabs,?_⟩;rintro H1 l1 _ rfl;rw[hf];obtain⟨hj,e⟩:=aap.1 ht;obtain⟨Q,hA,_,A,nm,E,m1,M,A2,m2,c2,A3,m3,c3,A4,m4,c4,A5,m5,c5,rfl,s⟩:=z.tabs.at l1 (i:=(j:Int)) (by omega) (by omega);rw[show D.tabs[((j:Nat):Int).toNat]=t from e]at s;have v1:=s.vs.len;refine⟨λ h=>absurd (aab h) (by simp),λ _=>⟨λ h=>absurd (aab h) (by omega),λ _=>⟨hA,by simp,by omega,_,_,_,_,_,_,_,_,_,_,_,_,_,_,_,_,A,_,ao5 s ha (by omega),?_⟩⟩⟩;rintro H2 l2 p q ⟨hp,a2,f⟩;refine⟨λ v q i y=>0<=i/\i<=p/\v=p/\Row y q (aeS ((dR t).take i.toNat)++(dR t).drop i.toNat),λ _ _ i=>p-i.toNat,P' ⟨rfl,f⟩,?_⟩;rintro H3 l3 v q i ⟨i0,i1,rfl,f⟩;dsimp only;refine ΦD (λ r=>?_) λ a3=>?_
 .have Q:i.toNat<(dR t).length:=by omega
  have x:i.toNat<(aeS ((dR t).take i.toNat)++(dR t).drop i.toNat).length:=by simp[aeS];omega
  obtain⟨vs,⟨E,n1,M,B1,k1,d1,rfl,T,R,F,q4⟩,-,g⟩:=f.mg x;rw[ao6 Q]at T R F q4;have:=g 3 [.slice none 0 0] ⟨(dR t)[i.toNat].vals,(dR t)[i.toNat].p,[]⟩ (by decide) ⟨E,n1,M,none,0,0,by rw[ao6 _];rfl,T,R,F,Sl.nil⟩;rw[apg _]at this;have G:q.length=(aeS _++(dR t).drop _).length*4:=f.length;refine⟨i0,r,y' ⟨y' ⟨rfl,?_⟩,by omega⟩⟩;rw[show(i+1).toNat=i.toNat+1 by omega];omega
 .rw[aag (by omega),List.drop_of_length_le (by omega),aar]at f;intro a1 a0 H5 l5 B w;refine⟨_,aoY (l:=aeS _) (f.sl l5 B (by simp[aeS];omega) w (by show v*64<=_;omega) (by omega)),?_⟩;rintro H6 l6 A6 n6 c6 ⟨m,h1,h2,h3⟩;exact⟨m,h1,h2,h3⟩
def aoZ {x0 x1 x2 x3 x4 x5 x6 x7 p:Int}{H:Heap}{A B:D'}{c m d:Nat}{l:List U9}{k:List W8}(s:mr H)(hs:Sl H A a c l)(hk:Sl H B m d k)(h0:ae .u16 x0)(h1:ae .u16 x1)(h3:ae .u16 x3)(T:ae .u16 x4)(h5:ae .u16 x5)(h6:ae .u16 x6)(h7:ae .u16 x7)(hp:ae .u16 p):
  ZB 9 [.agg ⟨[Φu x0,Φu x1,Φu x2,Φu x3,Φu x4,Φu x5,Φu x6,Φu x7]⟩,S A a c,S B m d,Φu p] H fg (λ r _=>r=true):=by
 refine ΦK 0 (aj [53,71,75] [(12,[2,4,6,8,10,14,16,18,13,21,23,24,26,0])] [(4,[ag 32]),(10,[ag 57])]) (λ b=>ΦF Yq [.int .u16 x0,.int .u16 x1,.int .u16 x2,.int .u16 x3,.int .u16 x4,.int .u16 x5,.int .u16 x6,.int .u16 x7] 0 8 λ e f g h i j k l=>C aoM 21 [ΦG [.int .u16 e,.int .u16 f,.int .u16 g,.int .u16 h,.int .u16 i,.int .u16 j,.int .u16 k,.int .u16 l],S A a c,S B m d] H λ n o q r s t u v w x y z a0 a1 a2 a3 a4 a5 a6 a7 a8 a9 b0 b1 b2 b3 b4 b5 b6=>(60:Int)≠0/\∃b7:Int,IntKind.wrap IntKind.i64 (Int.tmod p 60)=b7/\W ZE n (λ b8=>b8 0 n) λ b8 b9 c0 c1=>let c2:=λ(c2:Int) c3 c4 c5=>ΦR (c2+1)/\c3 (c2+1) c4/\c5 (c2+1)<c5 c2;let c3:=λ c3=>C ZO 17 [] c3 λ c4 c5=>b c5 c4;J (c1<O b4) (ΦX b3 c1 b4 (ΦE Yh c0 b3 (N c1*16) (λ c4 c5 c6 c7 c8 c9 d0 d1 d2 d3 d4 d5 d6 d7 d8 d9 e0 e1 e2 e3 e4 e5 e6 e7 e8 e9 f0 f1 f2 f3=>J (3<c4) (c3 c0) (J (c9<=b7) (J (b7<d0) (c3 c0) (c2 c1 b8 c0 b9)) (c2 c1 b8 c0 b9))))) (W ZE c0 (λ c4=>c4 0 c0) (λ c4 c5 c6 c7=>J (c7<O 2) (ΦY c7 2 (ΦF Xr [ΦT {data:=⟨[(116:UInt8)]⟩},ΦT {data:=⟨[(117:UInt8)]⟩}] (N c7*1) 1 (λ c8=>ΦQ b6 (C ZT 36 [ΦG [I a1,I a2,S a3 a4 a5,I a6,S a7 a8 a9,S b0 b1 b2],ΦT c8,I b7] c6 (λ c9 d0 d1 d2=>C ZT 36 [ΦG [I o,I q,S r s t,I u,S v w x,S y z a0],ΦT c8,I b7] c9 λ d3 d4 d5 d6=>C ZO 35 [S d0 d1 d2,S d4 d5 d6] d3 λ d7 d8=>ΦQ (!d8) (b false d7) (c2 c7 c4 d7 c5))) (c2 c7 c4 c6 c5)))) (c3 c6)))) ?_;dsimp only[PL,aQ,aR,aW,eQ,C,ΦE,ΦF,N,ΦQ,ΦR,W,ΦX,ΦY,O,J];refine⟨_,_,_,_,_,_,_,_,rfl,_,aoB s hs hk h0 h1 h3 T h5 h6 h7,?_⟩;rintro H1 l1 a9 b0 X xn xc a8 Y hn hc Z cn cc na ia Xa xa ca ha Ya p1 q1 Za p2 q2 E w ec ok ⟨D,q,z,hD,rfl,U,hl,hg,hQ,rfl⟩;obtain⟨D2,hN,rfl,G⟩:=aoI hQ;obtain⟨L,-,v⟩:=z.WT hl hg (by decide);have tl:=s.mono l1;have a1:=U.len;have a2:=U.bn;have a5:=dM hp.1 (m:=60) (by decide);refine⟨by decide,p.tmod 60,IntWalk.i64_in _ (by omega),?_⟩;generalize p.tmod 60=Q at*;refine⟨λ i _=>0<=i/\i<=w/\∀x∈q.take i.toNat,x.kind<=3/\¬(x.vd.lo<=Q/\Q<x.vd.hi),λ i=>w-i.toNat,⟨by omega,by omega,λ x g=>by cases g⟩,?_⟩;rintro H2 R i ⟨P,i1,o⟩;dsimp only;refine ΦD (λ f=>?_) λ V=>?_
 .obtain⟨y,hA,_,a0,e,rfl,g⟩:=U.at R P f;have ek:=g.kind;have e1:=g.lo;have e2:=g.hi;have aw:∃t:Bool->Heap->Prop,ZB 17 [] H2 ⟨false,[(false,[.bool])]⟩ t/\∀H':Heap,Heap.le H2 H'->∀b:Bool,t b H'->b=true:=⟨_,Il (tl.mono R),λ _ _ _ h=>h⟩;have go:q[i.toNat].kind<=3->¬(q[i.toNat].vd.lo<=Q/\Q<q[i.toNat].vd.hi)->ae .i64 (i+1)/\(0<=i+1/\i+1<=w/\∀x∈q.take (i+1).toNat,x.kind<=3/\¬(x.vd.lo<=Q/\Q<x.vd.hi))/\w-(i+1).toNat<w-i.toNat:=λ k1 k2=>by
   refine⟨by omega,⟨by omega,by omega,?_⟩,by omega⟩;rw[bu P y];intro x g;rcases aam.1 g with g | g
   .exact o x g
   .rw[aaD.1 g];exact⟨k1,k2⟩
  generalize q[i.toNat]=x at*;refine⟨hA,P,f,_,_,_,_,_,_,_,_,_,_,_,_,_,_,_,_,_,_,_,_,_,_,_,_,_,_,_,_,_,_,a0,λ _=>aw,λ h3=>⟨λ T=>⟨λ _=>aw,λ h5=>?_⟩,λ T=>?_⟩⟩
  .grind
  grind
 rw[ez V a1]at o;refine⟨λ j _=>0<=j/\j<=2,λ j=>2-j.toNat,⟨by simp,by simp⟩,?_⟩;rintro H3 l3 j ⟨j0,j1⟩;dsimp only;have u:=aa R l3;refine⟨λ f=>?_,λ _=>⟨_,Il (tl.mono u),λ _ _ _ h=>h⟩⟩;have f:=aab f;obtain⟨nm,hw,a7⟩:∃nm:ByteArray,win [ΦT CU,ΦT LN] (j.toNat*1) 1=[ΦT nm]/\nm=if j.toNat=0 then CU else LN:=by
  obtain rfl | rfl:j=0\/j=1:=by omega
  .exact⟨CU,rfl,rfl⟩
  .exact⟨LN,rfl,rfl⟩
 refine⟨j0,f,nm,hw,λ h=>?_,λ _=>⟨by omega,⟨by omega,by omega⟩,by omega⟩⟩;have h:=aab h;obtain⟨s1,F⟩:=v h;obtain rfl:=G h;have a6:=Zb z.nm;have a4:=Zb F.nm;have y:j.toNat<D.tabs.length:=by omega
 have M:j.toNat<(mZ D q).tabs.length:=by omega
 have f1:cO nm D.tabs=j.toNat:=by have:=aoq z.nm y;rw[an6 z.nm _]at this;grind
 have f2:cO nm (mZ D q).tabs=j.toNat:=by have:=aoq F.nm M;rw[an6 F.nm _]at this;grind
 have a3:=(ad0.refl.run L o (Re h).1).tab _ y M;have d1:=z.di.tab _ (aan y);have d2:=F.di.tab _ (aan M);have w1:=d1.2.2.2.2.len;have w2:=d2.2.2.2.2.len;refine⟨_,aoX (hN.mono u) f2 (aai _) d2.2.2.2.1.lI (by omega),?_⟩;rintro H4 l4 B1 b1 g1 ⟨m1,r1,r2,r3⟩;refine⟨_,aoX (hD.mono (aa u l4)) f1 (aai _) d1.2.2.2.1.lI (by omega),?_⟩;rintro H5 l5 B2 b2 g2 ⟨m2,q1,q2,q3⟩;refine⟨_,ao1 (r1.mono l5) q1 (apc (r2.trans (a3.2.trans q2.symm)) r3 q3),?_⟩;grind
end
end Go.Vc
