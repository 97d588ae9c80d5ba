/- A part of the proof of TransactionSteps. -/
import Derived.Test.YtnkineaffgkicaaGreatDoorG32
import Derived.Test.YtnkineaffgkicaaGreatDoorG33
set_option maxHeartbeats 16000000
set_option maxRecDepth 100000
set_option linter.unusedVariables false
set_option linter.defProp false
set_option linter.unusedSectionVars false
set_option linter.unusedSimpArgs false
namespace Go.Vc
open Go Go.Shelf Go.Proofs
section
variable {a:Program}{b c:TypeId}
structure W8 where
 a:Int
 b:Int
 c:Int
 d:Int
 e:Int
 f:Int
 g:Int
 h:Int
instance:Rep W8 where
 sz:=8
 byt:=16
 rel _ vs v:=vs=[.int .u16 v.a,.int .u16 v.b,.int .u16 v.c,.int .u16 v.d,.int .u16 v.e,.int .u16 v.f,.int .u16 v.g,.int .u16 v.h]/\ae .u16 v.a/\ae .u16 v.b/\ae .u16 v.c/\ae .u16 v.d/\ae .u16 v.e/\ae .u16 v.f/\ae .u16 v.g/\ae .u16 v.h
 mono _ h:=h
 len h:=by simp[h.1]
 pos:=by decide
 bpos:=by decide
 one h:=by rw[h.1];simp[Value.oneCell']
def Fe {w:World}{r:Reach}{d:Nat}{v:Value}{k:Nat}(g:a.underlying b=some (.array k c))(h:Value.okWide a w r d b v):∃f,v= .agg f/\f.size=a.cellsOf b:=by
 simp[Value.okWide]at h;grind
def LS {n:Nat}(q:a.underlying b=some (.array n c))(u:a.underlying c=some (.int .u16))(s:a.cellsOf c=1)(z:a.cellsOf b=n){H:Type}{l:TypeId×Value->H}{w:World}{d f:Nat}{g:G'}{x:DataW H×List MemPlace}
  (h:DataW.trod l a w d (λ _=>true) true f b g=some x):g.length=n/\∀j,j<n->∃y,g[j]?=some (Φu y)/\ae .u16 y:=by
 obtain⟨B,m,rfl,rfl,o,p,i⟩:=DataW.trod_array q h;rw[z]at o;refine⟨o,λ j v=>?_⟩;have r:=i j v;obtain⟨y,A,-,k⟩:=DataW.trod_int u (r.trans (aai (by omega)));refine⟨y,?_,UF k⟩;have:((g.drop (j*1)).take 1)[0]?=some (Φu y):=by grind
 grind
def UG (p:a.underlying b=some (.array 8 c))(s:a.underlying c=some (.int .u16))(o:a.cellsOf c=1)(u:a.cellsOf b=8)(A:a.bytesOf b=16):Tq a b W8:=by
 refine⟨u,A,Io p (Rm s),λ {H L w q r G x} h T=>?_⟩;obtain⟨N,d⟩:=LS p s o u h;obtain⟨Q,g,I⟩:=d 0 (by simp);obtain⟨B,j,z⟩:=d 1 (by simp);obtain⟨S,f,R⟩:=d 2 (by simp);obtain⟨E,m,y⟩:=d 3 (by simp);obtain⟨O,i,D⟩:=d 4 (by simp);obtain⟨K,k,J⟩:=d 5 (by simp);obtain⟨M,n,C⟩:=d 6 (by simp);obtain⟨v,l,F⟩:=d 7 (by simp);match G,N,g,j,f,m,i,k,n,l with
 |[c0,c1,c2,c3,c4,c5,c6,c7],_,g,j,f,m,i,k,n,l=>
  simp at g j f m i k n l;subst g j f m i k n l;exact⟨⟨Q,B,S,E,O,K,M,v⟩,rfl,I,z,R,y,D,J,C,F⟩
def UH (q:a.underlying b=some (.array 9 c))(u:a.underlying c=some (.int .u16))(p:a.cellsOf c=1)(v:a.cellsOf b=9)(B:a.bytesOf b=18):Tq a b U9:=by
 refine⟨v,B,Io q (Rm u),λ {H N w r s I x} h W=>?_⟩;obtain⟨Q,d⟩:=LS q u p v h;obtain⟨S,g,J⟩:=d 0 (by simp);obtain⟨C,j,A⟩:=d 1 (by simp);obtain⟨V,f,T⟩:=d 2 (by simp);obtain⟨F,n,z⟩:=d 3 (by simp);obtain⟨R,i,E⟩:=d 4 (by simp);obtain⟨M,k,L⟩:=d 5 (by simp);obtain⟨O,o,D⟩:=d 6 (by simp);obtain⟨y,l,G⟩:=d 7 (by simp);obtain⟨K,m,U⟩:=d 8 (by simp);match I,Q,g,j,f,n,i,k,o,l,m with
 |[c0,c1,c2,c3,c4,c5,c6,c7,c8],_,g,j,f,n,i,k,o,l,m=>
  simp at g j f n i k o l m;subst g j f n i k o l m;exact⟨⟨S,C,V,F,R,M,O,y,K⟩,rfl,J,A,T,z,E,L,D,G,U⟩
def Zw:Tq Tryz.prog 23 W8:=UG Tryz.underlying23 Tryz.underlying22 (by kernel_rfl) (by kernel_rfl) (by kernel_rfl)
def oU9:Tq Tryz.prog 166 U9:=UH Tryz.underlying166 Tryz.underlying22 (by kernel_rfl) (by kernel_rfl) (by kernel_rfl)
def Wl:Tq Tryz.prog 24 (List U9):=Oj Tryz.underlying24 (by kernel_rfl) (by kernel_rfl) oU9
end
section
section
variable {H:Heap}{now nid hor:Int}{X Y Z E:D'}{xn xc hn hc cn cc en ec:Nat}{D:Db}{es:List Ed}{a:Iq}{x:Ed}
def aeM (w:um H now nid X xn xc hn cn D)(Q:qj H a x)(B:Tn D)(P:Ws D x)(M:(oX D x).2=0->(oX D x).1.tabs.length<=100000):
  ZB 30 [Ir now nid X xn xc hor Y hn hc Z cn cc,.agg ⟨a.v⟩] H Ac (Rz (oX D x).1 hor (oX D x).2):=by
 refine ΦK 2 {aj [11] [] []with res:=wj [(9,⟨false,[(true,[.int .i64,.int .i64,.row 18 53,.int .i64,.sl,.sl])]⟩)],bx:=λ | some 11,76=>some [.int .i64,.int .i64,.row 17 53,.int .i64,.sl,.sl] | _,_=>none} (λ b=>C aeW 75 [ΦG [I now,I nid,S X xn xc,I hor,S Y hn hc,S Z cn cc]] H λ c d e f g h i j k l m n=>tS Ys ZP 76 [BA.me,BA.v (ΦG [I a.ek,ΦT a.et,S a.va a.vn a.vc,I a.vf,I a.vt,S a.xa a.xn a.xc,I a.ep,S a.sa a.sn a.sc,ΦT a.nm,S a.A a.n a.c,S a.B a.m a.d,S a.E a.k a.e,S a.F a.l a.f,I a.ci,ΦT a.cn,I a.ck])] 30 [BC.v (I d),BC.v (I e),BC.row 53 f g,BC.v (I h),BC.v (S i j k),BC.v (S l m n)] c ux λ o p q r s t u v w x y z a0 a1=>V (a1=0) (b 0 0 none 0 0 0 none 0 0 none 0 0 a1 o) (U o t s (λ a2 a3 a4=>b q r a2 s a3 u v w x y z a0 0 a4))) ?_;dsimp only[aQ,aR,C,tS,V];refine⟨_,Qq w,?_⟩;rintro H1 l q o n1 y s f z m h O g ⟨k,rfl,rfl,rfl⟩;refine⟨_,Qr (r:=⟨hor,f,0,m,h,0,g⟩) k (Q.mono l) B P,?_⟩;rintro H3 N W t n A G p J L T F R E u ⟨b,d,-,rfl⟩;simp only[RL.mk.injEq]at d;obtain⟨rfl,-,rfl,-,-,rfl,-⟩:=d;refine⟨λ c=>il (aac (oL c)),λ c=>?_⟩;have c:=aab (np c);have:=M c;have u:=b.len;intro A5 c5 H5 i j e;exact vM c ⟨b.now,b.nid,b.row.sl i j u.symm e (by show A*136<=_;omega) (by omega),rfl,rfl⟩
def ad5 {n g a d i f j:Int}{t:ByteArray}(b:um H now nid X xn xc hn cn D)(e:Sl H E en ec es)(k:Fg D es)(c:(bJ D es).2=0->Ow (bJ D es).1.tabs):
  ZB 86 [Ir now nid X xn xc hor Y hn hc Z cn cc,.agg ⟨[Φi 1,Φi n,.slice E en ec,Φi g,Φi a,Φi d,.string t,Φi i,Φi f,Φi j]⟩] H Ac (Rz (mZ D es) hor (pd D es)):=by
 refine ΦK 0 {bE with kb:=ir [11,12] []} (λ a=>decide ((1:Int)=1)=true/\C YT 143 [ΦG [I now,I nid,S X xn xc,I hor,S Y hn hc,S Z cn cc],S E en ec] H λ b c d e f g h i j k l m n o=>a c d e f g h i j k l m n o b) ?_;dsimp only[aQ,aR,C];exact⟨rfl,_,Oe b e k c,λ _ _ _ _ _ _ _ _ _ _ _ _ _ _ _ h=>h⟩
end
def tB (e:Nat)(i:Int)(D:Db):Prop:=i=0/\D=yd\/1<=i/\DI e 4096 D
def aeA {g:Nat}{d:List LQ}{D:Db}{i:Int}(n:Tp g d)(x:g<=12)(w:0<=i)(t:i.toNat<d.length)(h:tB (2*i.toNat) i D):
  Fg D d[i.toNat].es/\((bJ D d[i.toNat].es).2=0->Ow (bJ D d[i.toNat].es).1.tabs)/\(pd D d[i.toNat].es=0->DI (2*(i+1).toNat) 4096 (mZ D d[i.toNat].es))/\(pd D d[i.toNat].es≠0->1<=i/\DI (2*i.toNat) 4096 D):=by
 obtain⟨p,v,r,rfl,c,s,q⟩:=n;rw[aav]at t;rcases h with⟨rfl,rfl⟩ |⟨o,l⟩
 .obtain⟨a,b,e,f⟩:=Oh c.k1 c.k2 rfl rfl c.n1 c.f1 c.n2;exact⟨a,b,λ _=>f,λ h=>absurd e h⟩
 .obtain⟨j,u⟩:∃j:Nat,i.toNat=j+1:=⟨i.toNat-1,by omega⟩;have k:j<r.length:=by omega
  have e:(⟨[p,v]⟩::r:List LQ)[i.toNat]=r[j]:=by simp only[u];rfl
  have m:=q _ (aan k);rw[e];obtain⟨a,b,f⟩:=l.WT m.len m.ed (by omega);exact⟨a,b,λ h=>(f h).up (by omega) (aaB _),λ _=>⟨o,l⟩⟩
def ad8 {H:Heap}{A:D'}{n c a:Nat}{j:List LQ}(b:Sl H A n c j)(v:Tp a j)(M:a<=12):
  ZB 37 [.slice A n c] H Ui (λ now nid X xn xc hor _ hn _ _ cn _ k=>hor=0/\∃D,um k now nid X xn xc hn cn D/\DI (2*(a+1)) 4096 D):=by
 refine ΦK 0 (aj [] [(5,[2,4,6,8,10,13,14,16,18,21,23,24,0,1,1,21,13,14,16,18,23,24,0])] [(3,[ag 4,.box 3 30 [.int .i64,.int .i64,.sl,.int .i64,.sl,.sl]])]) (λ a=>C YS 85 [] H λ b c d e f g h i j k l m o=>W Yk b (λ p=>p 0 c d e f g h i j k l m o b) λ p q r s t u v w x y z a0 a1 a2 a3 a4=>J (s<O n) (ΦX A s n (ΦE aeV r A (N s*10) (λ a5 a6 a7 a8 a9 b0 b1 b2 b3 b4 b5 b6=>let b7:=C YT 86 [ΦG [I t,I u,S v w x,I y,S z a0 a1,S a2 a3 a4],ΦG [I a5,I a6,S a7 a8 a9,I b0,I b1,I b2,ΦT b3,I b4,I b5,I b6]] r λ b7 b8 b9 c0 c1 c2 c3 c4 c5 c6 c7 c8 c9 d0=>J (d0=0) (ΦR (s+1)/\p (s+1) b8 b9 c0 c1 c2 c3 c4 c5 c6 c7 c8 c9 b7/\q (s+1) b8 b9 c0 c1 c2 c3 c4 c5 c6 c7 c8 c9<q s t u v w x y z a0 a1 a2 a3 a4) (ΦR (s+1)/\p (s+1) t u v w x y z a0 a1 a2 a3 a4 b7/\q (s+1) t u v w x y z a0 a1 a2 a3 a4<q s t u v w x y z a0 a1 a2 a3 a4);b7/\b7))) (a t u v w x y z a0 a1 a2 a3 a4 r)) ?_;dsimp only[PL,aQ,aR,aW,eQ,C,ΦE,N,ΦR,W,ΦX,O,J];have s1:=b.len;have s2:=b.bn;refine⟨_,Ij,?_⟩;rintro H1 V _ _ _ _ _ _ _ _ _ _ _ _ ⟨rfl,rfl,rfl,rfl,rfl,rfl,rfl,rfl,rfl,rfl,rfl,rfl⟩;have z:∀k,um k 0 1 none 0 0 0 0 yd:=λ _=>⟨rfl,rfl,Sl.nil,rfl,rfl⟩;refine⟨λ i now nid X xn xc hor Y hn hc Z cn cc k=>0<=i/\i<=n/\hor=0/\∃D,um k now nid X xn xc hn cn D/\tB (2*i.toNat) i D,λ i _ _ _ _ _ _ _ _ _ _ _ _=>n-i.toNat,y' ⟨rfl,yd,z _,.inl ⟨rfl,rfl⟩⟩,?_⟩;rintro H2 l2 i now nid X xn xc hor Y hn hc Z cn cc ⟨s,i1,rfl,D,p,l⟩;dsimp only;have m:=aa V l2;have w:1<=j.length/\j.length<=a+1:=by obtain⟨y1,y2,r,rfl,P,G,hg⟩:=v;rw[aav];omega
 refine ΦD (λ d=>?_) λ x=>?_
 .obtain⟨L,y,_,q,nn,E,en,ec,r1,r2,r3,t,z1,z2,z3,rfl,R⟩:=b.at m s d;obtain⟨F,o,e,g⟩:=aeA v M s L l;generalize j[i.toNat]=cm at*;refine⟨y,s,d,_,_,_,_,_,_,_,_,_,_,_,_,q,Bu ⟨_,ad5 p R F o,?_⟩⟩;rintro H3 B na ia Xa ma ca ha Ya p1 q1 Za p2 q2 ea ⟨f,u,Q⟩;refine ΦD (λ h=>?_) λ h=>?_
  .rw[f]at h;obtain⟨U,T⟩:=u h;exact u' ⟨y' ⟨T,_,U,.inr (u' (e h))⟩,by omega⟩
  .rw[f]at h;obtain⟨j1,l⟩:=g h;exact u' ⟨y' ⟨rfl,_,p.mono B,.inr (u' (l.up (by omega) (aaB _)))⟩,by omega⟩
 .refine⟨rfl,D,p,?_⟩;rcases l with⟨h,-⟩ |⟨-,h⟩
  .omega
  .exact h.up (by omega) (aaB _)
section
variable {x0 x1 x2 x3 x4 x5 x6 x7:Int}{H:Heap}{A:D'}{n c:Nat}
def ac8 {l:List U9}(k:Sl H A n c l)(d:ae .u16 x0)(f:ae .u16 x1)(j:ae .u16 x3)(e:ae .u16 x4)(i:ae .u16 x5)(m:ae .u16 x6)(g:ae .u16 x7):
  ZB 10 [.agg ⟨[Φu x0,Φu x1,Φu x2,Φu x3,Φu x4,Φu x5,Φu x6,Φu x7]⟩,.slice A n c] H Ui (λ now nid X xn xc hor _ hn _ _ cn _ o=>hor=0/\∃D,um o now nid X xn xc hn cn D/\DI 18 4096 D):=by
 refine ΦK 0 bE (λ a=>ΦF Yq [.int .u16 x0,.int .u16 x1,.int .u16 x2,.int .u16 x3,.int .u16 x4,.int .u16 x5,.int .u16 x6,.int .u16 x7] 0 8 λ b d e f g h i j=>C ZT 38 [ΦG [.int .u16 b,.int .u16 d,.int .u16 e,.int .u16 f,.int .u16 g,.int .u16 h,.int .u16 i,.int .u16 j],S A n c,I 8] H λ k l m o=>C YS 37 [S l m o] k λ p q r s t u v w x y z a0 a1=>a q r s t u v w x y z a0 a1 p) ?_;dsimp only[aQ,aR,eQ,C,ΦF];refine⟨_,_,_,_,_,_,_,_,rfl,_,Fc (most:=8) k (by decide) d f j e i m g,?_⟩;rintro t u s p q ⟨r,a,b⟩;exact⟨_,ad8 a b (by decide),λ _ _ _ _ _ _ _ _ _ _ _ _ _ _ h=>h⟩
end
end
def ad9 {H:Heap}{c b j:Int}{X Y Z:D'}{q t y hc u M:Nat}{D:Db}{a:Iq}{x:Ed}(p:um H c b X q t y u D)(A:qj H a x)(s:Tn D)(w:Ws D x)(P:x.kind≠4)(hl:(oX D x).2=0->(oX D x).1.tabs.length<=100000):
  ZB 27 [Ir c b X q t j Y y hc Z u M,.agg ⟨a.v⟩] H fg (λ r _=>r=true):=by
 refine ΦK 0 (aj [27] [] []) (λ d=>let e:=[ΦG [I c,I b,S X q t,I j,S Y y hc,S Z u M],ΦG [I a.ek,ΦT a.et,S a.va a.vn a.vc,I a.vf,I a.vt,S a.xa a.xn a.xc,I a.ep,S a.sa a.sn a.sc,ΦT a.nm,S a.A a.n a.c,S a.B a.m a.d,S a.E a.k a.e,S a.F a.l a.f,I a.ci,ΦT a.cn,I a.ck]];C YT 30 e H λ f g h i k l m n o p r s v w=>C YT 12 e f λ x z a0 a1 a2 a3 a4 a5 a6 a7 a8 a9 b0 b1=>J (w=b1) (C ZO 31 [ΦG [I g,I h,S i k l,I m,S n o p,S r s v],ΦG [I z,I a0,S a1 a2 a3,I a4,S a5 a6 a7,S a8 a9 b0]] x (λ b2 b3=>d b3 b2)) (d false x)) ?_;dsimp only[aQ,aR,C,J];refine⟨_,aeM p A s w hl,?_⟩;rintro H1 B W ia Q V U ha Ya p1 q1 Za L q2 ea ⟨rfl,i,l⟩;refine⟨_,Ka (p.mono B) (A.mono B) s w (λ h=>absurd h P),?_⟩;rintro z E O ib Xb R cb N Yb F q3 Zb G q4 eb ⟨rfl,o,f⟩;refine⟨λ _=>?_,λ h=>by simp at h⟩;have d:∃g,um z W ia Q V U p1 L g/\um z O ib Xb R cb F G g/\ha=N:=by
  by_cases h:(oX D x).2=0
  .obtain⟨n,m⟩:=i h;obtain⟨e,k⟩:=o h;exact⟨_,n.mono E,e,m.trans k.symm⟩
  .obtain⟨n,m⟩:=l h;obtain⟨e,k⟩:=f h;exact⟨_,n.mono E,e,m.trans k.symm⟩
 obtain⟨g,s1,T,s3⟩:=d;exact⟨_,xd s1 T s3,λ _ _ _ h=>h⟩
def aeK {s L x2 z t w P v G u Q q O M N x:Int}{H:Heap}{A:D'}{n c:Nat}{l:List U9}(b:mr H)(hs:Sl H A n c l)(j:ae .u16 s)(h1:ae .u16 L)(h3:ae .u16 z)(h4:ae .u16 t)(h5:ae .u16 w)(h6:ae .u16 P)(h7:ae .u16 v)
  (g0:ae .u16 G) (g1:ae .u16 u) (g2:ae .u16 Q) (g3:ae .u16 q) (g4:ae .u16 O) (g5:ae .u16 M) (g6:ae .u16 N) (U:ae .u16 x):
  ZB 6 [.agg ⟨[Φu s,Φu L,Φu x2,Φu z,Φu t,Φu w,Φu P,Φu v]⟩,.slice A n c,.agg ⟨[Φu G,Φu u,Φu Q,Φu q,Φu O,Φu M,Φu N,Φu x]⟩] H fg (λ r _=>r=true):=by
 refine ΦK 0 (aj [7,14] [(1,[3,4,6,8,12,11,15,17,18,20,0])] []) (λ a=>C ZO 17 [] H λ b d=>ΦQ d (ΦF Yq [.int .u16 s,.int .u16 L,.int .u16 x2,.int .u16 z,.int .u16 t,.int .u16 w,.int .u16 P,.int .u16 v] 0 8 (λ e f g h i j k l=>ΦF Yq [.int .u16 G,.int .u16 u,.int .u16 Q,.int .u16 q,.int .u16 O,.int .u16 M,.int .u16 N,.int .u16 x] 0 8 λ m o p r y a0 a1 a2=>C YS 10 [ΦG [.int .u16 e,.int .u16 f,.int .u16 g,.int .u16 h,.int .u16 i,.int .u16 j,.int .u16 k,.int .u16 l],S A n c] b λ a3 a4 a5 a6 a7 a8 a9 b0 b1 b2 b3 b4 b5=>C Zj 28 [ΦG [.int .u16 m,.int .u16 o,.int .u16 p,.int .u16 r,.int .u16 y,.int .u16 a0,.int .u16 a1,.int .u16 a2]] a3 λ b6 b7 b8 b9 c0 c1 c2 c3 c4 c5 c6 c7 c8 c9 d0 d1 d2 d3 d4 d5 d6 d7 d8 d9 e0 e1 e2 e3 e4 e5 e6=>C ZO 27 [ΦG [I a4,I a5,S a6 a7 a8,I a9,S b0 b1 b2,S b3 b4 b5],ΦG [I b7,ΦT b8,S b9 c0 c1,I c2,I c3,S c4 c5 c6,I c7,S c8 c9 d0,ΦT d1,S d2 d3 d4,S d5 d6 d7,S d8 d9 e0,S e1 e2 e3,I e4,ΦT e5,I e6]] b6 λ e7 e8=>a e8 e7)) (a false b)) ?_;dsimp only[aQ,aR,eQ,C,ΦF,ΦQ];refine⟨_,Il b,?_⟩;rintro H1 l1 _ rfl;refine⟨λ _=>?_,λ h=>by cases h⟩;refine⟨_,_,_,_,_,_,_,_,rfl,_,_,_,_,_,_,_,_,rfl,_,ac8 (hs.mono l1) j h1 h3 h4 h5 h6 h7,?_⟩;rintro H2 l2 a1 a2 X xn xc a0 Y hn hc Z cn cc ⟨rfl,D,T,J⟩;refine⟨_,CW g0 g1 g2 g3 g4 g5 g6 U,?_⟩;rintro H3 V ek et W vn vc vf vt xa p g ep sa sn sc R A n c B m d E k e F l f ci i ck ⟨y,hy,o⟩;exact⟨_,ad9 (a:=⟨ek,et,W,vn,vc,vf,vt,xa,p,g,ep,sa,sn,sc,R,A,n,c,B,m,d,E,k,e,F,l,f,ci,i,ck⟩) (T.mono V) hy (J.ok (by decide) (by decide)) (DI.tA o) (by have:=o.k;omega) (λ j=>by have:=(J.ed o (by decide) (by decide) j).two;omega),λ _ _ _ h=>h⟩
end Go.Vc
