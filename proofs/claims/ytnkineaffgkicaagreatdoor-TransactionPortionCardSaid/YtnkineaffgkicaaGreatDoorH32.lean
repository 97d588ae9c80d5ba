/- A part of the proof. -/
import Derived.Test.YtnkineaffgkicaaGreatDoorH30
import Derived.Test.YtnkineaffgkicaaGreatDoorH31
set_option maxHeartbeats 0
set_option maxRecDepth 100000
set_option linter.unusedVariables false
set_option linter.defProp false
namespace Go.Vc
open Go Go.Shelf Go.Proofs
section
variable {a:Program}{b c:TypeId}
structure W8 where
 a:Int
 b:Int
 c:Int
 d:Int
 e:Int
 f:Int
 g:Int
 h:Int
instance:Rep W8 where
 sz:=8
 byt:=16
 rel _ vs v:=vs=[.int .u16 v.a,.int .u16 v.b,.int .u16 v.c,.int .u16 v.d,.int .u16 v.e,.int .u16 v.f,.int .u16 v.g,.int .u16 v.h]/\ae .u16 v.a/\ae .u16 v.b/\ae .u16 v.c/\ae .u16 v.d/\ae .u16 v.e/\ae .u16 v.f/\ae .u16 v.g/\ae .u16 v.h
 mono _ h:=h
 len h:=by simp[h.1]
 pos:=by decide
 bpos:=by decide
 one h:=by rw[h.1];simp[Value.oneCell']
def Fe {w:World}{r:Reach}{d:Nat}{v:Value}{k:Nat}(g:a.underlying b=some (.array k c))(h:Value.okWide a w r d b v):∃f,v= .agg f/\f.size=a.cellsOf b:=by
 simp[Value.okWide]at h;grind
def LS {n:Nat}(q:a.underlying b=some (.array n c))(u:a.underlying c=some (.int .u16))(s:a.cellsOf c=1)(z:a.cellsOf b=n){H:Type}{l:TypeId×Value->H}{w:World}{d f:Nat}{g:G'}{x:DataW H×List MemPlace}
  (h:DataW.trod l a w d (λ _=>true) true f b g=some x):g.length=n/\∀j,j<n->∃y,g[j]?=some (Φu y)/\ae .u16 y:=by
 obtain⟨B,m,rfl,rfl,o,p,i⟩:=DataW.trod_array q h;rw[z]at o;refine⟨o,λ j v=>?_⟩;have r:=i j v;obtain⟨y,A,-,k⟩:=DataW.trod_int u (r.trans (aai (by omega)));refine⟨y,?_,UF k⟩;have:((g.drop (j*1)).take 1)[0]?=some (Φu y):=by grind
 grind
def UG (p:a.underlying b=some (.array 8 c))(s:a.underlying c=some (.int .u16))(o:a.cellsOf c=1)(u:a.cellsOf b=8)(A:a.bytesOf b=16):Tq a b W8:=by
 refine⟨u,A,Io p (Rm s),λ {H L w q r G x} h T=>?_⟩;obtain⟨N,d⟩:=LS p s o u h;obtain⟨Q,g,I⟩:=d 0 (by simp);obtain⟨B,j,z⟩:=d 1 (by simp);obtain⟨S,f,R⟩:=d 2 (by simp);obtain⟨E,m,y⟩:=d 3 (by simp);obtain⟨O,i,D⟩:=d 4 (by simp);obtain⟨K,k,J⟩:=d 5 (by simp);obtain⟨M,n,C⟩:=d 6 (by simp);obtain⟨v,l,F⟩:=d 7 (by simp);match G,N,g,j,f,m,i,k,n,l with
 |[c0,c1,c2,c3,c4,c5,c6,c7],_,g,j,f,m,i,k,n,l=>
  simp at g j f m i k n l;subst g j f m i k n l;exact⟨⟨Q,B,S,E,O,K,M,v⟩,rfl,I,z,R,y,D,J,C,F⟩
def UH (q:a.underlying b=some (.array 9 c))(u:a.underlying c=some (.int .u16))(p:a.cellsOf c=1)(v:a.cellsOf b=9)(B:a.bytesOf b=18):Tq a b U9:=by
 refine⟨v,B,Io q (Rm u),λ {H N w r s I x} h W=>?_⟩;obtain⟨Q,d⟩:=LS q u p v h;obtain⟨S,g,J⟩:=d 0 (by simp);obtain⟨C,j,A⟩:=d 1 (by simp);obtain⟨V,f,T⟩:=d 2 (by simp);obtain⟨F,n,z⟩:=d 3 (by simp);obtain⟨R,i,E⟩:=d 4 (by simp);obtain⟨M,k,L⟩:=d 5 (by simp);obtain⟨O,o,D⟩:=d 6 (by simp);obtain⟨y,l,G⟩:=d 7 (by simp);obtain⟨K,m,U⟩:=d 8 (by simp);match I,Q,g,j,f,n,i,k,o,l,m with
 |[c0,c1,c2,c3,c4,c5,c6,c7,c8],_,g,j,f,n,i,k,o,l,m=>
  simp at g j f n i k o l m;subst g j f n i k o l m;exact⟨⟨S,C,V,F,R,M,O,y,K⟩,rfl,J,A,T,z,E,L,D,G,U⟩
def Zw:Tq Tryz.prog 23 W8:=UG Tryz.underlying23 Tryz.underlying22 (by kernel_rfl) (by kernel_rfl) (by kernel_rfl)
def oU9:Tq Tryz.prog 166 U9:=UH Tryz.underlying166 Tryz.underlying22 (by kernel_rfl) (by kernel_rfl) (by kernel_rfl)
def Wl:Tq Tryz.prog 24 (List U9):=Oj Tryz.underlying24 (by kernel_rfl) (by kernel_rfl) oU9
end
section
variable {b f:Nat}{d:Int}{e:D'}
section
variable {H:Heap}{now nid hor:Int}{X Y Z E:D'}{xn xc hn hc cn cc en ec:Nat}{D:Db}{es:List Ed}{a:Iq}{x:Ed}
def ad5 {i a e j g k:Int}{t:ByteArray}(b:um H now nid X xn xc hn cn D)(f:Sl H E en ec es)(l:Fg D es)(c:(bJ D es).2=0->Ow (bJ D es).1.tabs):
  ZB 86 [Ir now nid X xn xc hor Y hn hc Z cn cc,.agg ⟨[Φi 1,Φi d,S E en ec,Φi i,Φi a,Φi e,ΦT t,Φi j,Φi g,Φi k]⟩] H Ac (Rz (mZ D es) hor (pd D es)):=by
 refine ΦK 0 {bE with kb:=ir [11,12] []} (λ a=>decide ((1:Int)=1)=true/\C YT 143 [ΦG [I now,I nid,S X xn xc,I hor,S Y hn hc,S Z cn cc],S E en ec] H λ b c d e f g h i j k l m n o=>a c d e f g h i j k l m n o b) ?_;dsimp only[aQ,aR,C];exact⟨rfl,_,Oe b f l c,λ _ _ _ _ _ _ _ _ _ _ _ _ _ _ _ h=>h⟩
end
def tB (e:Nat)(i:Int)(D:Db):Prop:=i=0/\D=yd\/1<=i/\Z' e D
def aeA {k:List LQ}{D:Db}(n:Tp b k)(w:b<=12)(v:0<=d)(q:d.toNat<k.length)(h:tB (2*d.toNat) d D):
  Fg D k[d.toNat].es/\((bJ D k[d.toNat].es).2=0->Ow (bJ D k[d.toNat].es).1.tabs)/\(pd D k[d.toNat].es=0->Z' (2*(d+1).toNat) (mZ D k[d.toNat].es))/\(pd D k[d.toNat].es≠0->1<=d/\Z' (2*d.toNat) D):=by
 obtain⟨u,y,r,rfl,g,p,o⟩:=n;rw[aav]at q;rcases h with⟨rfl,rfl⟩ |⟨t,s⟩
 .obtain⟨a,c,e,f⟩:=Oh g.k1 g.k2 rfl rfl g.n1 g.f1 g.n2;exact⟨a,c,λ _=>aeI g.k1 g.k2 rfl rfl g.n1 g.f1 g.n2,λ h=>absurd e h⟩
 .obtain⟨j,x⟩:∃j:Nat,d.toNat=j+1:=⟨d.toNat-1,by omega⟩;have l:j<r.length:=by omega
  have m:=o _ (aan l);obtain⟨a,c,f⟩:=s.WT m.len m.ed (by omega);grind
def ad8 {H:Heap}{a:Nat}{m:List LQ}(d:Sl H e b f m)(y:Tp a m)(R:a<=12):
  ZB 37 [S e b f] H Ui (λ now nid X xn xc hor _ hn _ _ cn _ o=>hor=0/\∃D,um o now nid X xn xc hn cn D/\Z' (2*(a+1)) D):=by
 refine ΦK 0 (aj [] dT [(3,[ag 4,.box 3 30 [.int .i64,.int .i64,.sl,.int .i64,.sl,.sl]])]) (λ a=>C YS 85 [] H λ c d f g h i j k l m n o p=>W Yk c (λ q=>q 0 d f g h i j k l m n o p c) λ q r s t u v w x y z a0 a1 a2 a3 a4 a5=>J (t<O b) (ΦX e t b (ΦE aeV s e (N t*10) (λ a6 a7 a8 a9 b0 b1 b2 b3 b4 b5 b6 b7=>let b8:=C YT 86 [ΦG [I u,I v,S w x y,I z,S a0 a1 a2,S a3 a4 a5],ΦG [I a6,I a7,S a8 a9 b0,I b1,I b2,I b3,ΦT b4,I b5,I b6,I b7]] s λ b8 b9 c0 c1 c2 c3 c4 c5 c6 c7 c8 c9 d0 d1=>J (d1=0) (ΦR (t+1)/\q (t+1) b9 c0 c1 c2 c3 c4 c5 c6 c7 c8 c9 d0 b8/\r (t+1) b9 c0 c1 c2 c3 c4 c5 c6 c7 c8 c9 d0<r t u v w x y z a0 a1 a2 a3 a4 a5) (ΦR (t+1)/\q (t+1) u v w x y z a0 a1 a2 a3 a4 a5 b8/\r (t+1) u v w x y z a0 a1 a2 a3 a4 a5<r t u v w x y z a0 a1 a2 a3 a4 a5);b8/\b8))) (a u v w x y z a0 a1 a2 a3 a4 a5 s)) ?_;dsimp only[PL,aQ,aR,aW,eQ,C,ΦE,N,ΦR,W,ΦX,O,J];have s1:=d.len;have s2:=d.bn;refine⟨_,Ij,?_⟩;rintro H1 l1 _ _ _ _ _ _ _ _ _ _ _ _ ⟨rfl,rfl,rfl,rfl,rfl,rfl,rfl,rfl,rfl,rfl,rfl,rfl⟩;have z:∀o,um o 0 1 none 0 0 0 0 yd:=λ _=>⟨rfl,rfl,Sl.nil,rfl,rfl⟩;refine⟨λ i now nid X xn xc hor Y hn hc Z cn cc o=>0<=i/\i<=b/\hor=0/\∃D,um o now nid X xn xc hn cn D/\tB (2*i.toNat) i D,λ i _ _ _ _ _ _ _ _ _ _ _ _=>b-i.toNat,y' ⟨rfl,yd,z _,.inl ⟨rfl,rfl⟩⟩,?_⟩;rintro H2 l2 i now nid X xn xc hor Y hn hc Z cn cc ⟨w,i1,rfl,D,u,p⟩;dsimp only;have q:=aa l1 l2;have B:1<=m.length/\m.length<=a+1:=by obtain⟨y1,y2,r,rfl,T,P,hg⟩:=y;rw[aav];omega
 refine ΦD (λ g=>?_) λ F=>?_
 .obtain⟨Q,G,_,v,nn,E,en,ec,r1,r2,r3,t,z1,z2,z3,rfl,V⟩:=d.at q w g;obtain⟨M,s,j,l⟩:=aeA y R w Q p;generalize m[i.toNat]=cm at*;refine⟨G,w,g,_,_,_,_,_,_,_,_,_,_,_,_,v,Bu ⟨_,ad5 u V M s,?_⟩⟩;rintro H3 L na ia Xa ma ca ha Ya p1 q1 Za p2 q2 ea ⟨k,x,U⟩;refine ΦD (λ h=>?_) λ h=>?_
  .rw[k]at h;obtain⟨a1,a2⟩:=x h;exact u' ⟨y' ⟨a2,_,a1,.inr (u' (j h))⟩,by omega⟩
  .rw[k]at h;obtain⟨j1,p⟩:=l h;exact u' ⟨y' ⟨rfl,_,u.mono L,.inr (u' (p.up (by omega)))⟩,by omega⟩
 .refine⟨rfl,D,u,?_⟩;rcases p with⟨h,-⟩ |⟨-,h⟩
  .omega
  .exact h.up (by omega)
section
variable {x0 x1 x2 x3 x4 x5 x6 x7:Int}{H:Heap}{A:D'}{n c:Nat}
def ac8 {l:List U9}(k:Sl H A n c l)(d:ae .u16 x0)(f:ae .u16 x1)(j:ae .u16 x3)(e:ae .u16 x4)(i:ae .u16 x5)(m:ae .u16 x6)(g:ae .u16 x7):
  ZB 10 [.agg ⟨[Φu x0,Φu x1,Φu x2,Φu x3,Φu x4,Φu x5,Φu x6,Φu x7]⟩,S A n c] H Ui (λ now nid X xn xc hor _ hn _ _ cn _ o=>hor=0/\∃D,um o now nid X xn xc hn cn D/\Z' 18 D):=by
 refine ΦK 0 bE (λ a=>ΦF Yq [.int .u16 x0,.int .u16 x1,.int .u16 x2,.int .u16 x3,.int .u16 x4,.int .u16 x5,.int .u16 x6,.int .u16 x7] 0 8 λ b d e f g h i j=>C ZT 38 [ΦG [.int .u16 b,.int .u16 d,.int .u16 e,.int .u16 f,.int .u16 g,.int .u16 h,.int .u16 i,.int .u16 j],S A n c,I 8] H λ k l m o=>C YS 37 [S l m o] k λ p q r s t u v w x y z a0 a1=>a q r s t u v w x y z a0 a1 p) ?_;dsimp only[aQ,aR,eQ,C,ΦF];refine⟨_,_,_,_,_,_,_,_,rfl,_,Fc (most:=8) k (by simp) d f j e i m g,?_⟩;rintro t u s p q ⟨r,a,b⟩;exact⟨_,ad8 a b (by simp),λ _ _ _ _ _ _ _ _ _ _ _ _ _ _ h=>h⟩
def aon {most:Nat}{l:List W8}(t:Sl H A n c l)(hm:most<=100):
  ZB 11 [S A n c,Φi most] H fi (λ X D G u=>∃es,Sl u X D G es/\es.length<=most/\∀x∈es,GE x):=by
 refine ΦK 1 (aj [] [] [(3,[.slot 5 false [.row 27 48],ag 6])]) (λ a=>W ZG H (λ b=>b 0 [] 0 H) λ b c d e f g=>let h:=U d f e λ h i j=>a h e i j;J (g<O n) (J (g<(↑most:Int)) (ΦX A g n (ΦE Yq d A (N g*8) (λ i j k l m o p q=>C Zj 28 [ΦG [.int .u16 i,.int .u16 j,.int .u16 k,.int .u16 l,.int .u16 m,.int .u16 o,.int .u16 p,.int .u16 q]] d λ r s t u v w x y z a0 a1 a2 a3 a4 a5 a6 a7 a8 a9 b0 b1 b2 b3 b4 b5 b6 b7 b8 b9 c0 c1=>(e+1)*264<=M/\ΦR (g+1)/\let c2:=f++[Value.int .i64 s,ΦT t,S u v w,I x,I y,S z a0 a1,I a2,S a3 a4 a5,ΦT a6,S a7 a8 a9,S b0 b1 b2,S b3 b4 b5,S b6 b7 b8,I b9,ΦT c0,I c1];b (e+1) c2 (g+1) r/\c (e+1) c2 (g+1)<c e f g))) h) h) ?_;dsimp only[PL,aQ,aR,aW,eQ,C,ΦE,M,N,ΦR,W,ΦX,O,J];have s1:=t.len;have s2:=t.bn;refine⟨λ p q i u=>0<=i/\i<=n/\i<=most/\∃es:List Ed,p=es.length/\Row u q es/\es.length=i.toNat/\∀x∈es,GE x,λ _ _ i=>n-i.toNat,J' ⟨[],rfl,rfl,rfl,λ c hc=>by cases hc⟩,?_⟩;rintro H2 l2 p q i ⟨v,i1,i2,r,rfl,w,hl,L⟩;dsimp only;have b:∀(o:D') (s:Nat) (h:Heap),Heap.le H2 h->Cells h o 0 q->r.length<=s->∃es,Sl h o r.length s es/\es.length<=most/\∀x∈es,GE x:=λ o s h P hc hn=>
  ⟨r,w.sl P hc rfl hn (by show r.length*264<=_;omega) (by omega),u' L⟩
 refine⟨λ a=>⟨λ g=>?_,λ _=>b⟩,λ _=>b⟩;have a:=aab a;have g:=aab g;obtain⟨hi,V,_,j,rfl,R,g1,Q,g3,Z,g5,z,T⟩:=t.at l2 v a;refine⟨V,v,a,_,_,_,_,_,_,_,_,j,_,CW R g1 Q g3 Z g5 z T,?_⟩;rintro H3 Y ek et va vn vc vf vt xa xn xc ep sa sn sc nm A n c B m d E k e F l f ci cn ck ⟨y,hy,gy⟩;refine y' ⟨J' ⟨r++[y],by simp,(w.mono Y).append (AL hy),T' λ c hc=>?_⟩,by omega⟩;grind
abbrev aoK:cj:=⟨true,[(true,[.int .i64,.int .i64,.sl,.int .i64,.sl,.sl]),(true,[.int .i64,.int .i64,.sl,.int .i64,.sl,.sl]),(false,[.sl]),(false,[.bool])]⟩
def aoL (now nid:Int)(X:D')(xn xc:Nat)(hor:Int)(_:D')(hn _:Nat)(_:D')(cn _:Nat)(b a:Int)(m:D')(h d:Nat)(c:Int)(k:D')(i g:Nat)(l:D')(e f:Nat)(E:D')(en ec:Nat)(j:Bool)(H:Heap):Prop:=
 ∃D es,Z' 18 D/\um H now nid X xn xc hn cn D/\hor=0/\Sl H E en ec es/\es.length<=2/\(∀x∈es,GE x)/\Rz (mZ D es) 0 (pd D es) b a m h d c k i g l e f (pd D es) H/\j=decide (pd D es=0)
def aoB {l:List U9}{k:List W8}(a:mr H)(J:Sl H A n c l)(v:Sl H e b f k)(u:ae .u16 x0)(x:ae .u16 x1)(G:ae .u16 x3)(w:ae .u16 x4)(z:ae .u16 x5)(L:ae .u16 x6)(y:ae .u16 x7):
  ZB 21 [.agg ⟨[Φu x0,Φu x1,Φu x2,Φu x3,Φu x4,Φu x5,Φu x6,Φu x7]⟩,S A n c,S e b f] H aoK aoL:=by
 refine ΦK 0 (aj [] [(4,[2,4,6,8,10,13,15,16,18,0])] []) (λ a=>ΦF Yq [.int .u16 x0,.int .u16 x1,.int .u16 x2,.int .u16 x3,.int .u16 x4,.int .u16 x5,.int .u16 x6,.int .u16 x7] 0 8 λ d g h i j k l m=>C YS 10 [ΦG [.int .u16 d,.int .u16 g,.int .u16 h,.int .u16 i,.int .u16 j,.int .u16 k,.int .u16 l,.int .u16 m],S A n c] H λ o p q r s t u v w x y z a0=>C ZT 11 [S e b f,I 2] o λ a1 a2 a3 a4=>C YT 29 [ΦG [I p,I q,S r s t,I u,S v w x,S y z a0],S a2 a3 a4] a1 λ a5 a6 a7 a8 a9 b0 b1 b2 b3 b4 b5 b6 b7 b8=>a p q r s t u v w x y z a0 a6 a7 a8 a9 b0 b1 b2 b3 b4 b5 b6 b7 a2 a3 a4 (decide (b8=0)) a5) ?_;dsimp only[aQ,aR,eQ,C,ΦF];refine⟨_,_,_,_,_,_,_,_,rfl,_,ac8 J u x G w z L y,?_⟩;rintro H1 s now nid X xn xc hor Y hn hc Z cn cc ⟨rfl,D,j,r⟩;refine⟨_,aon (most:=2) (v.mono s) (by simp),?_⟩;rintro H2 h E en ec ⟨es,q,p,i⟩;obtain⟨F,g,-⟩:=r.WT p i (by simp);refine⟨_,Ks (a.mono (aa s h)) (j.mono h) q F g,?_⟩;rintro O o V ia P U T ha N W Q R M q2 ea ⟨rfl,t⟩;exact⟨D,es,r,j.mono (aa h o),rfl,q.mono o,p,i,⟨rfl,t⟩,rfl⟩
end
def aoI {H:Heap}{D:Db}{es:List Ed}{m i:Int}{n p:D'}{g o j q:Nat}(h:Rz (mZ D es) 0 (pd D es) d m e b f i n g o p j q (pd D es) H):∃l,um H d m e b f g j l/\i=0/\(pd D es=0->l=mZ D es):=by
 by_cases k:pd D es=0
 .obtain⟨a,c⟩:=h.2.1 k;grind
 .obtain⟨a,c⟩:=h.2.2 k;grind
end
structure U16 where
 n:Int
instance:Rep U16 where
 sz:=1
 byt:=2
 rel _ vs v:=vs=[.int .u16 v.n]/\ae .u16 v.n
 mono _ h:=h
 len h:=by simp[h.1]
 pos:=by decide
 bpos:=by decide
 one h:=by rw[h.1];simp[Value.oneCell']
def aor {P:Program}{t:TypeId}(a:P.underlying t=some (.int .u16))(d:P.cellsOf t=1)(c:P.bytesOf t=2):Tq P t U16:=
 ⟨d,c,Rm a,λ h _=>by obtain⟨n,rfl,rfl,b⟩:=DataW.trod_int a h;exact⟨⟨n⟩,rfl,UF b⟩⟩
def aou:Tq Tryz.prog 25 (List W8):=Oj Tryz.underlying25 (by kernel_rfl) (by kernel_rfl) Zw
def aow:Tq Tryz.prog 22 U16:=aor Tryz.underlying22 (by kernel_rfl) (by kernel_rfl)
end Go.Vc
