/- A part of the proof. -/
import Derived.Test.YtnkineaffgkicaaGreatDoorH20
set_option maxHeartbeats 0
set_option maxRecDepth 100000
set_option linter.unusedVariables false
set_option linter.defProp false
set_option linter.unusedSimpArgs false
namespace Go.Vc
open Go Go.Proofs
section
variable {a:Int}
section
variable {H:Heap}{nm:ByteArray}{A:D'}{n c:Nat}{B:D'}{m d:Nat}{E:D'}{k e:Nat}{F:D'}{l f:Nat}{s:bp}
def Hl {s:bp}(h:aw s=true){v:dh}(a:s.vers=[v]):v.rc.hi=1099511627776:=by
 have:=(CI h).2;rw[eV]at this;grind
def Es (g:aV H nm A n c B m d E k e F l f s)(hx:ae .i64 a):
  ZB 89 [.agg ⟨[ΦT nm,S A n c,S B m d,S E k e,S F l f]⟩,Φi a] H Ct
   (λ D A' T Y X m' d' E' k' e' F' l' f' r H'=>aV H' D A' T Y X m' d' E' k' e' F' l' f' (bt s a).1/\r=(bt s a).2):=by
 refine ΦK 0 (aj [14] [] []) (λ b=>let g:=b ⟨⟨[]⟩⟩ none 0 0 none 0 0 none 0 0 none 0 0 1 H;J (a<0) g (J (1099511627776<=a) g (C ZO 149 [ΦG [ΦT nm,S A n c,S B m d,S E k e,S F l f]] H (λ h i=>let j:=b ⟨⟨[]⟩⟩ none 0 0 none 0 0 none 0 0 none 0 0 18 h;ΦQ (!i) j (V (O n=1) j (ΦX A 0 n (ΦE ZE h A (N 0*3+0+0) (λ o=>V (o=0) j (ΦX A 0 n (ΦE ZM h A (N 0*3+2) (λ p q r=>U h [I a,I 1099511627776,S p q r] 1 λ s t u=>b nm s 1 t B m d E k e F l f 0 u))))))))))) ?_;dsimp only[aQ,aR,eQ,C,ΦE,N,ΦQ,ΦX,O,V,J];unfold bt;have b2:=g.vers.len;refine⟨λ h=>?_,λ h=>⟨λ o=>?_,λ o=>⟨_,qn g,?_⟩⟩⟩
 .rw[if_pos (.inl (aab h))];exact⟨ba,rfl⟩
 .rw[if_pos (.inr (aab o))];exact⟨ba,rfl⟩
 have h:=aac h;have o:=aac o;rw[if_neg (by omega),<-uh];rintro H1 Q _ rfl;refine⟨λ w=>?_,λ L=>?_⟩
 .simp at w;rw[if_pos w];exact⟨ba,rfl⟩
 simp at L;rw[if_neg (by grind)];refine⟨λ y=>?_,λ y=>?_⟩
 .split
  .grind
  .exact⟨ba,rfl⟩
 have y:s.vers.length=1:=by grind
 match hv:s.vers,y with
 |[v],_=>
  have q:=Hl L hv;obtain⟨hi,M,_,j,b⟩:=g.vers.at Q (i:=0) (by simp) (by omega);have R:s.vers[(0:Int).toNat]=v:=by grind
  rw[R]at b;obtain⟨Z,n1,c1,rfl,r1,r2,W⟩:=b;refine⟨M,by simp,by omega,_,j.cy (k:=0) rfl,λ w=>?_,λ u=>?_⟩
  .dsimp only;rw[if_neg (λ hh=>by grind)];exact⟨ba,rfl⟩
  .have u:v.rc=⟨0,1099511627776⟩:=by
    generalize v.rc=z at u q;cases z;grind
   dsimp only;rw[if_pos u];refine⟨M,by simp,by omega,_,_,_,j.cy (k:=2) rfl,?_⟩;intro A3 c3 H3 P g3 G;have p:=aa Q P;refine⟨⟨g.name,g.str,?_,g.key.mono p,g.fks.mono p,g.csts.mono p⟩,rfl⟩;exact qg (t:=(⟨⟨a,v.rc.hi⟩,v.cols⟩:dh)) g3 (ah _) G ⟨Z,n1,c1,by grind,hx,T' (W.mono P)⟩ (by decide)
def zQ (o:aV H nm A n c B m d E k e F l f s):
  ZB 91 [.agg ⟨[ΦT nm,S A n c,S B m d,S E k e,S F l f]⟩,Φi a] H ⟨true,[(true,[.int .i64,.int .i64,.sl]),(false,[.bool])]⟩
   (λ g b G u z r P=>r=cg s a/\(r=true->∃v,s.vers.getLast?=some v/\g=v.rc.lo/\b=v.rc.hi/\ae .i64 g/\ae .i64 b/\Sl P G u z v.cols)):=by
 refine ΦK 0 (aj [8] [(4,ab 2 6 [15,16,0])] []) (λ b=>C ZO 149 [ΦG [ΦT nm,S A n c,S B m d,S E k e,S F l f]] H λ g h=>ΦQ (!h) (b 0 0 none 0 0 false g) (J (1099511627776<=a) (b 0 0 none 0 0 false g) (ΦR (O n-1)/\ΦX A (O n-1) n (ΦE Xs g A (N (O n-1)*3) (λ i j o p q=>b i j o p q (decide (i<=a)) g))))) ?_;dsimp only[aQ,aR,eQ,C,ΦE,N,ΦQ,ΦR,ΦX,O,J];have Q:=o.vers.bn;have V:=o.vers.len;refine⟨_,qn o,?_⟩;rintro U M _ rfl;unfold cg;rw[<-uh];refine⟨λ h=>?_,λ q=>⟨λ h=>?_,λ h=>?_⟩⟩
 .grind
 .grind
 simp at q;have t:=aaP.2 (bF q);obtain⟨I,D,_,p,⟨R,W,T,rfl,y,L,w⟩⟩:=o.vers.at M (i:=(n)-1) (by omega) (by omega);have j:=gF _ I (by omega);rw[j];refine u' ⟨D,y' ⟨_,_,_,_,_,p,?_,λ _=>⟨_,rfl,rfl,rfl,y,L,w⟩⟩⟩;grind
def ui {C:D'}{p q:Nat}{b:List cz}(g:aV H nm A n c B m d E k e F l f s)(hc:Sl H C p q b)(Y:ae .i64 a)(Z:s.vers≠[])(hb:s.vers.length<=3000000000000):
  ZB 94 [.agg ⟨[ΦT nm,S A n c,S B m d,S E k e,S F l f]⟩,S C p q,Φi a] H Jv
   (λ G D v w B' m' d' E' k' e' F' l' f' H'=>aV H' G D v w B' m' d' E' k' e' F' l' f' {s with vers:=bf s.vers b a}):=by
 refine ΦK 0 bE (λ b=>∃c:G',Cells H A 0 c/\L c=n*3/\n*40<=M/\ΦR (O n-1)/\ΦY (O n-1) n (ΦF ZE c (N (O n-1)*3+0+0) 1 (λ g=>J (g=a) (ΦR (O n-1)/\ΦY (O n-1) n (N (O n-1)*3+2+1<=L c/\U H (av c (N (O n-1)*3+2) [S C p q]) n (λ h i j=>b nm h n i B m d E k e F l f j))) (ΦR (O n-1)/\ΦY (O n-1) n (N (O n-1)*3+0+1+1<=L c/\(n+1)*40<=M/\U H (av c (N (O n-1)*3+0+1) [I a]++[Value.int .i64 a,I 1099511627776,S C p q]) (n+1) (λ h i j=>b nm h (n+1) i B m d E k e F l f j)))))) ?_;dsimp only[eQ,ΦF,L,M,N,ΦR,ΦY,O,J];obtain⟨W,y,V⟩:=g.vers.row;have T:0<s.vers.length:=aaP.2 Z;have b1:=g.vers.bn;have b2:=g.vers.len;have Q:=g.vers.bnd;have X:((n:Int)-1).toNat<s.vers.length:=by omega
 have R:((n:Int)-1).toNat=s.vers.length-1:=by omega
 have h:=gF s.vers X R;obtain⟨vs,⟨D,v,w,rfl,P,r2,r3⟩,hw,u⟩:=V.mg X;have a0:W.length=s.vers.length*3:=V.length;have j:∀t,s.vers.set ((n:Int)-1).toNat t=s.vers.dropLast++[t]:=λ t=>by rw[R];exact Cu _ _ Z
 refine⟨W,y,by omega,Q,J' ⟨_,hw 0 1 (by decide),λ r=>M' ?_,λ r=>u' (M' ?_)⟩⟩
 .intro A2 c2 H2 i z o;have r:=aab r;have:=u 2 [S C p q] ⟨s.vers[((n:Int)-1).toNat].rc,b⟩ (acE rfl) ⟨C,p,q,rfl,P,r2,hc⟩;rw[j]at this;refine⟨g.name,g.str,?_,g.key.mono i,g.fks.mono i,g.csts.mono i⟩;simp only[bf,h];rw[if_pos r];exact this.sl i z (by simp;omega) o Q (by omega)
 .intro A2 c2 H2 i z o;have r:=aac r;have:=u 1 [Φi a] ⟨⟨s.vers[((n:Int)-1).toNat].rc.lo,a⟩,s.vers[((n:Int)-1).toNat].cols⟩ (acE rfl) ⟨D,v,w,rfl,P,Y,r3⟩;rw[j]at this;have:=this.append (Row.one (t:=(⟨⟨a,1099511627776⟩,b⟩:dh)) ⟨C,p,q,rfl,Y,by simp[ae],hc⟩);refine⟨g.name,g.str,?_,g.key.mono i,g.fks.mono i,g.csts.mono i⟩;simp only[bf,h];rw[if_neg r];rw[aat]at this;exact this.sl i z (by grind) o (by show _*40<=_;omega) (by omega)
def qp {s:bp}(h:aw s=true):0<=width s/\width s<=12:=by
 have b:=oe (l:=s.vers) (by simp[aw]at h;grind);unfold width;rcases wR s.vers 0 with h |⟨v,a,c,d,h⟩
 .omega
 .have:=b v a c d;omega
def xC {x a b:Int}{u:ByteArray}(hs:aV H nm A n c B m d E k e F l f s)(hu:str u)(hb:ae .i64 b)(hx:ae .i64 x)(a4:s.vers.length<=3000000000000):
  ZB 40 [.agg ⟨[ΦT nm,S A n c,S B m d,S E k e,S F l f]⟩,.agg ⟨[Φi a,ΦT u,Φi b]⟩,Φi x] H Ct
   (λ a8 A' n' c' B' m' d' E' k' e' F' l' f' r H'=>aV H' a8 A' n' c' B' m' d' E' k' e' F' l' f' (eW s ⟨a,u,b⟩ x).1/\r=(eW s ⟨a,u,b⟩ x).2):=by
 refine ΦK 0 (aj [23,40,45,49] [(13,nv)] []) (λ a=>let g:=[ΦT nm,S A n c,S B m d,S E k e,S F l f];C YK 91 [ΦG g,I x] H λ h i j o p q r=>ΦQ (!r) (a ⟨⟨[]⟩⟩ none 0 0 none 0 0 none 0 0 none 0 0 1 h) (C ZO 92 [ΦT u] h (λ s t=>ΦQ (!t) (a ⟨⟨[]⟩⟩ none 0 0 none 0 0 none 0 0 none 0 0 8 s) (let v:=a ⟨⟨[]⟩⟩ none 0 0 none 0 0 none 0 0 none 0 0 7 s;J (b<1) v (J (3<b) v (C ZP 93 [ΦG [I i,I j,S o p q],ΦT u] s (λ w y=>J (0<=y) (a ⟨⟨[]⟩⟩ none 0 0 none 0 0 none 0 0 none 0 0 9 w) (C ZP 54 [ΦG g] w (λ z a0=>J (12<=a0) (a ⟨⟨[]⟩⟩ none 0 0 none 0 0 none 0 0 none 0 0 12 z) (C ZP 54 [ΦG g] z (λ a1 a2=>ΦR (a2+1)/\let a3:=∃a3:G',Cells a1 o 0 a3/\L a3=p*3/\p*32<=M/\(p+1)*32<=M/\U a1 (a3++[Value.int .i64 (a2+1),ΦT u,I b]) (p+1) λ a4 a5 a6=>C YC 94 [ΦG g,S a4 (p+1) a5,I x] a6 λ a7 a8 a9 b0 b1 b2 b3 b4 b5 b6 b7 b8 b9 c0=>a a8 a9 b0 b1 b2 b3 b4 b5 b6 b7 b8 b9 c0 0 a7;a3/\a3))))))))))) ?_;dsimp only[aQ,aR,C,L,M,ΦQ,ΦR,J];unfold eW;refine⟨_,zQ hs,?_⟩;rintro H1 l1 p q A1 X c1 _ ⟨rfl,hv⟩;refine⟨λ T=>?_,λ ht=>?_⟩
 .simp only[aay]at T;rw[if_pos T];exact⟨ba,rfl⟩
 simp only[aaF]at ht;obtain⟨v,j,rfl,rfl,r1,r2,r3⟩:=hv ht;rw[if_neg (by grind),j];have o:aw s=true:=by simp[cg]at ht;grind
 have W:=abI j;have b0:=cZ o W;have b4:=qp o;have d1:=r3.len;have d3:=r3.bnd;dsimp only;refine⟨_,iP,?_⟩;rintro H2 l2 _ rfl;have hk:de b=false↔(b<1\/3<b):=by
  simp[de,acR];omega
 refine⟨λ T=>?_,λ h1=>⟨λ h=>?_,λ h=>⟨λ h'=>?_,λ h'=>⟨_,ql (r3.mono l2),?_⟩⟩⟩⟩
 .simp at T;rw[if_pos T];exact⟨ba,rfl⟩
 all_goals
  simp at h1;rw[if_neg (by grind)]
 .rw[if_pos (hk.2 (.inl (aab h)))];exact⟨ba,rfl⟩
 .rw[if_pos (hk.2 (.inr (aab h')))];exact⟨ba,rfl⟩
 rw[if_neg (λ hh=>by grind)];rintro H3 l3 _ rfl;rw[aad,aaf,eU _ _ _ (by simp)];have L3:=aa l1 (aa l2 l3);refine⟨λ h=>?_,λ h3=>⟨_,gG (hs.mono L3),?_⟩⟩
 .rw[if_pos h];exact⟨ba,rfl⟩
 rintro H4 l4 _ ⟨rfl,hw⟩;rw[if_neg h3];refine⟨λ h=>?_,λ h4=>⟨_,gG (hs.mono (aa L3 l4)),?_⟩⟩
 .rw[if_pos (by grind)];exact⟨ba,rfl⟩
 rintro H5 l5 _ ⟨rfl,-⟩;have L5:=aa l4 l5;have R:ae .i64 (width s+1):=by omega
 have b2:(∃(w:G'),Cells H5 A1 0 w/\List.length w=X*3/\X*32<=140737488355328/\(X+1)*32<=140737488355328/\∀(O:D') (G:Nat) (y:Heap),Heap.le H5 y->Cells y O 0 (w++[Φi (width s+1),ΦT u,Φi b])->X+1<=G->
   ∃(i:ByteArray->D'->Nat->Nat->D'->Nat->Nat->D'->Nat->Nat->D'->Nat->Nat->Heap->Prop),ZB 94 [.agg ⟨[ΦT nm,S A n c,S B m d,S E k e,S F l f]⟩,S O (X+1) G,Φi x] y Jv i/\
    ∀(z:Heap),Heap.le y z->∀(a5:ByteArray) (a6:D') (a0 a3:Nat) (N:D') (Q a2:Nat) (Y:D') (P Z:Nat) (D:D') (V a1:Nat),i a5 a6 a0 a3 N Q a2 Y P Z D V a1 z->
     aV z a5 a6 a0 a3 N Q a2 Y P Z D V a1 {s with vers:=bf s.vers (v.cols++[⟨width s+1,u,b⟩]) x}/\(0:Int)=0):=by
  have g:=aa l2 (aa l3 L5);obtain⟨xs,b1,hr⟩:=(r3.mono g).row;have b3:xs.length=v.cols.length*3:=hr.length;refine⟨xs,b1,by omega,d3,u' ?_⟩;intro A7 c7 H7 l7 g7 a7;have a9:=(hr.append (Row.one (t:=(⟨width s+1,u,b⟩)) ⟨rfl,R,hu,hb⟩)).sl l7 g7 (by grind) a7 (by show _*32<=_;omega) (by omega);refine⟨_,ui (hs.mono (aa L3 (aa L5 l7))) a9 hx (bF o) a4,?_⟩;simp
 grind
end
end
section
section
variable {H:Heap}{nm:ByteArray}{A:D'}{n c:Nat}{B:D'}{m d:Nat}{E:D'}{k e:Nat}{F:D'}{l f:Nat}{s:bp}
def sP {x:Int}(hs:aV H nm A n c B m d E k e F l f s):
  ZB 96 [.agg ⟨[ΦT nm,S A n c,S B m d,S E k e,S F l f]⟩,Φi x] H fg (λ r _=>r=used s x):=by
 refine ΦK 0 (aj [11,27,38,55] [] [(4,[ag 5]),(10,[ag 7])]) (λ a=>C ZO 42 [S B m d,I x] H λ b c=>ΦQ c (a true b) (W ZE b (λ e=>e 0 b) (λ e f g h=>let i:=λ i (j n:Nat) o (p:Int) q r=>C ZO 42 [S i j n,I x] o λ s t=>ΦQ t (a true s) (ΦR (p+1)/\q (p+1) s/\r (p+1)<r p);J (h<O k) (ΦX E h k (ΦE Xu g E (N h*3) (λ j n o p q r s=>C ZO 42 [S j n o,I x] g λ t u=>ΦQ u (a true t) (J (p=nm) (i q r s t h e f) (ΦR (h+1)/\e (h+1) t/\f (h+1)<f h))))) (W ZE g (λ j=>j 0 g) (λ j n o p=>J (p<O l) (ΦX F p l (ΦE ZM o F (N p*2+1) (λ q r s=>i q r s o p j n))) (a false o)))))) ?_;dsimp only[PL,aQ,aR,aW,eQ,C,ΦE,N,ΦQ,ΦR,W,ΦX,O,J];obtain⟨rfl,P,hv,Z,u,D⟩:=hs;have f1:=u.bn;have f2:=u.len;have c1:=D.bn;have c2:=D.len;unfold used;generalize hp:(λ f:nz=>f.cols.contains x||(decide (f.table=s.name)&&f.refs.contains x))=p;generalize hq:(λ c:Rs=>c.cols.contains x)=q;refine⟨_,dQ Z,?_⟩;rintro H0 l0 _ rfl;refine⟨λ h=>by rw[h,Bool.or_true],λ G=>?_⟩;rw[G,ade];refine⟨λ i _=>0<=i/\i<=k/\s.fks.any p=(s.fks.drop i.toNat).any p,λ i=>k-i.toNat,y' rfl,?_⟩;rintro H1 l1 i ⟨o,h1,L⟩;have R:=aa l0 l1;refine⟨λ a=>?_,λ b=>?_⟩
 .have a:=aab a;obtain⟨v,t,_,g,⟨A3,X,c3,B3,m3,d3,rfl,M,Q,U⟩⟩:=u.at R o a;rw[ak o v,aaS]at L;refine⟨t,o,a,_,_,_,_,_,_,_,g,_,dQ M,?_⟩;rintro H2 w _ rfl;have V:p s.fks[i.toNat]=(s.fks[i.toNat].cols.contains x||(decide (s.fks[i.toNat].table=s.name)&&s.fks[i.toNat].refs.contains x)):=by grind
  refine⟨λ y=>?_,λ y=>⟨λ a2=>⟨_,dQ (U.mono w),?_⟩,λ a2=>u' ⟨y' ?_,by grind⟩⟩⟩
  .grind
  .rintro Y l3 _ rfl;refine⟨λ a3=>?_,λ a3=>u' ⟨y' ?_,by dsimp only;omega⟩⟩
   .grind
   simp_all
  simp_all
 rw[ai (aac b) f2,abJ]at L;refine⟨λ i _=>0<=i/\i<=l/\s.csts.any q=(s.csts.drop i.toNat).any q,λ i=>l-i.toNat,P' rfl,?_⟩;rintro H2 w j ⟨z,j1,T⟩;have L2:=aa R w;refine⟨λ a=>?_,λ b=>?_⟩
 .have a:=aab a;obtain⟨v,t,_,g,⟨A3,X,c3,rfl,M,Q⟩⟩:=D.at L2 z a;rw[ak z v]at T;refine⟨t,z,a,_,_,_,g.cy (k:=1) rfl,_,dQ Q,?_⟩;rintro Y l3 _ rfl;refine⟨λ y=>?_,λ y=>u' ⟨y' ?_,by grind⟩⟩
  .grind
  grind
 rw[ai (aac b) c2]at T;grind
def vF {i x:Int}(z:aV H nm A n c B m d E k e F l f s)(hx:ae .i64 x)(c5:s.vers.length<=3000000000000):
  ZB 41 [.agg ⟨[ΦT nm,S A n c,S B m d,S E k e,S F l f]⟩,Φi i,Φi x] H Ct
   (λ d5 A' n' c' B' m' d' E' k' e' F' l' f' r H'=>aV H' d5 A' n' c' B' m' d' E' k' e' F' l' f' (bN s i x).1/\r=(bN s i x).2):=by
 refine ΦK 0 (aj [24,47,58] [(11,[2,4,6,8,10,14,16,18,20,22,26,13,25,29,31,32,0])] []) (λ a=>let b:=[ΦT nm,S A n c,S B m d,S E k e,S F l f];C YK 91 [ΦG b,I x] H λ g h j o p q r=>ΦQ (!r) (a ⟨⟨[]⟩⟩ none 0 0 none 0 0 none 0 0 none 0 0 1 g) (C ZP 95 [ΦG [I h,I j,S o p q],I i] g (λ s t=>J (t<0) (a ⟨⟨[]⟩⟩ none 0 0 none 0 0 none 0 0 none 0 0 11 s) (let u:=λ u=>(0:Int)<=0/\0<=t/\t<=O q/\∀v:D',v=eM o q (N 0) 3->ΦR (t+1)/\0<=t+1/\t+1<=O p/\O p<=O q/\∀w:D',w=eM o q (N (t+1)) 3->∃y:G',Cells u v 0 y/\L y=(N t-N 0)*3/\(N t-N 0)*32<=M/\∃z:G',Cells u w 0 z/\L z=(N (O p)-N (t+1))*3/\(N t-N 0+(N (O p)-N (t+1)))*32<=M/\U u (y++z) (N t-N 0+(N (O p)-N (t+1))) λ a0 a1 a2=>C YC 94 [ΦG b,S a0 (N t-N 0+(N (O p)-N (t+1))) a1,I x] a2 λ a3 a4 a5 a6 a7 a8 a9 b0 b1 b2 b3 b4 b5 b6=>a a4 a5 a6 a7 a8 a9 b0 b1 b2 b3 b4 b5 b6 0 a3;let v:=λ v=>a ⟨⟨[]⟩⟩ none 0 0 none 0 0 none 0 0 none 0 0 18 v;J (x=h) (J (O n<2) (J (O p=1) (v s) (C ZO 96 [ΦG b,I i] s (λ w y=>ΦQ y (v w) (v w)))) (ΦR (O n-2)/\ΦX A (O n-2) n (ΦE Xs s A (N (O n-2)*3) (λ w y z a0 a1=>C ZP 95 [ΦG [I w,I y,S z a0 a1],I i] s λ a2 a3=>J (O p=1) (v a2) (C ZO 96 [ΦG b,I i] a2 (λ a4 a5=>ΦQ a5 (v a4) (J (a3<0) (v a4) (u a4)))))))) (J (O p=1) (v s) (C ZO 96 [ΦG b,I i] s (λ w y=>ΦQ y (v w) (u w)))))))) ?_;dsimp only[aQ,aR,eQ,C,ΦE,L,M,N,ΦQ,ΦR,ΦX,O,J];have b1:=z.vers.bn;have b2:=z.vers.len;unfold bN;refine⟨_,zQ z,?_⟩;rintro H1 l1 p q A1 u c1 _ ⟨rfl,hv⟩;refine⟨λ hf=>?_,λ Y=>?_⟩
 .simp only[aay]at hf;rw[if_pos hf];exact⟨ba,rfl⟩
 simp only[aaF]at Y;obtain⟨v,a,rfl,rfl,r1,r2,V⟩:=hv Y;rw[if_neg (by simp[Y]),a];have g:aw s=true:=by simp only[cg,aah]at Y;exact Y.1.1
 have a9:v∈s.vers:=abI a;have d8:=cZ g a9;have d1:=V.len;have d2:=V.bn;have d3:=V.bnd;have d4:=V.cap;dsimp only;refine⟨_,ig V,?_⟩;rintro H2 l2 _ rfl;have d6:=za (λ c:cz=>decide (c.id=i)) v.cols 0 (by omega);have D:=eU (λ c:cz=>decide (c.id=i)) v.cols 0 (by omega);generalize idxOf (λ c:cz=>decide (c.id=i)) 0 v.cols=y at d6 D;refine⟨λ a1=>?_,λ a1=>?_⟩
 .rw[if_pos (aab a1)];exact⟨ba,rfl⟩
 have a1:=aac a1;rw[if_neg a1];have e0:dq v.cols i=true:=D.1 (by omega);have L2:=aa l1 l2;have e5:∀{P:Heap},Heap.le H2 P->(0:Int)<=0/\0<=y/\y<=c1/\∀(c0:D'),c0=eM A1 c1 (Int.toNat 0) 3->ae .i64 (y+1)/\0<=y+1/\y+1<=u/\(u:Int)<=c1/\∀(b0:D'),b0=eM A1 c1 (Int.toNat (y+1)) 3->
   ∃(t:G'),Cells P c0 0 t/\List.length t=(Int.toNat y-Int.toNat 0)*3/\(Int.toNat y-Int.toNat 0)*32<=140737488355328/\∃(o:G'),Cells P b0 0 o/\List.length o=(Int.toNat (u:Int)-Int.toNat (y+1))*3/\
    (Int.toNat y-Int.toNat 0+(Int.toNat (u:Int)-Int.toNat (y+1)))*32<=140737488355328/\∀(b3:D') (b6:Nat) (w:Heap),Heap.le P w->Cells w b3 0 (t++o)->Int.toNat y-Int.toNat 0+(Int.toNat (u:Int)-Int.toNat (y+1))<=b6->
     ∃(b:ByteArray->D'->Nat->Nat->D'->Nat->Nat->D'->Nat->Nat->D'->Nat->Nat->Heap->Prop),ZB 94 [.agg ⟨[ΦT nm,S A n c,S B m d,S E k e,S F l f]⟩,S b3 (Int.toNat y-Int.toNat 0+(Int.toNat (u:Int)-Int.toNat (y+1))) b6,Φi x] w Jv b/\
      ∀(T:Heap),Heap.le w T->∀(c6:ByteArray) (c8:D') (b8 c4:Nat) (Z:D') (a7 c2:Nat) (b4:D') (a6 b5:Nat) (X:D') (a8 b9:Nat),b c6 c8 b8 c4 Z a7 c2 b4 a6 b5 X a8 b9 T->
       aV T c6 c8 b8 c4 Z a7 c2 b4 a6 b5 X a8 b9 {s with vers:=bf s.vers (v.cols.eraseIdx y.toNat) x}/\(0:Int)=0:=by
  intro P l4;have r4:=V.mono (aa l2 l4);refine J' ?_;rintro _ rfl;refine M' ?_;rintro _ rfl;have s1:=r4.sub (j:=(0:Int).toNat) (k:=y.toNat) (by omega) (by omega);have s2:=r4.sub (j:=(y+1).toNat) (k:=(u:Int).toNat) (by omega) (by omega);obtain⟨xs,e3,hr⟩:=s1.row;obtain⟨zs,d0,G⟩:=s2.row;have e1:(v.cols.take y.toNat).drop (0:Int).toNat=v.cols.take y.toNat:=rfl;have e2:(v.cols.take (u:Int).toNat).drop (y+1).toNat=v.cols.drop (y.toNat+1):=by
   rw[aag (by omega),show(y+1).toNat=y.toNat+1 by omega]
  have g1:xs.length=_:=hr.length;have g2:zs.length=_:=G.length;rw[s1.len]at g1;rw[s2.len]at g2;rw[e1]at hr;rw[e2]at G;refine⟨xs,e3,g1,by omega,zs,d0,g2,u' ?_⟩;intro A7 c7 H7 l7 g7 c9;have L7:=aa L2 (aa l4 l7);have b7:Row P (xs++zs) (v.cols.eraseIdx y.toNat):=by
   rw[adV];exact hr.append G
  have d9:(v.cols.eraseIdx y.toNat).length=y.toNat-(0:Int).toNat+((u:Int).toNat-(y+1).toNat):=by
   rw[List.length_eraseIdx,if_pos (by omega)];omega
  have d7:Sl H7 A7 (y.toNat-(0:Int).toNat+((u:Int).toNat-(y+1).toNat)) c7 (v.cols.eraseIdx y.toNat):=b7.sl l7 g7 d9 c9 (by show _*32<=_;omega) (by omega);refine⟨_,ui (z.mono L7) d7 hx (bF g) c5,?_⟩;intro H8 l8 _ _ _ _ _ _ _ _ _ _ _ _ _ h;exact⟨h,rfl⟩
 have e7:0<s.vers.length:=aaP.2 (bF g);have e8:=Qk g a e0;refine⟨λ R=>⟨λ a2=>⟨λ W=>?_,λ W=>⟨_,sP (z.mono L2),?_⟩⟩,λ a2=>?_⟩,λ R=>⟨λ W=>?_,λ W=>⟨_,sP (z.mono L2),?_⟩⟩⟩
 .rw[if_pos (.inl (by have:=aab W;omega))];exact⟨ba,rfl⟩
 .have R:=aab R;have a2:=aab a2;rintro H3 l3 _ rfl;have e6:fresh s i=true:=by
   grind
  refine⟨λ Q=>?_,λ Q=>?_⟩;all_goals rw[if_pos (.inr (.inr ⟨R,e6⟩))];exact⟨ba,rfl⟩
 .have R:=aab R;have a2:=aac a2;obtain⟨hi,hA,_,e4,⟨A3,n3,c3,rfl,q1,q2,q3⟩⟩:=z.vers.at L2 (i:=(n)-2) (by omega) (by omega);refine u' ⟨hA,y' ⟨_,_,_,_,_,e4,_,ig q3,?_⟩⟩;rintro H3 l3 _ rfl;refine⟨λ W=>?_,λ W=>⟨_,sP (z.mono (aa L2 l3)),?_⟩⟩
  .rw[if_pos (.inl (by grind))];exact⟨ba,rfl⟩
  rintro P l4 _ rfl;refine⟨λ Q=>?_,λ Q=>?_⟩
  .rw[if_pos (.inr (.inl Q))];exact⟨ba,rfl⟩
  rw[aad,aaf];refine⟨λ a5=>?_,λ a5=>?_⟩
  .have:dq _ i=false:=(zA _ _).1 a5;rw[if_pos (.inr (.inr ⟨R,by grind⟩))];exact⟨ba,rfl⟩
  .have:dq (s.vers[((n:Int)-2).toNat]'hi).cols i=true:=(eU _ _ 0 (by simp)).1 (by omega);rw[if_neg (by
    grind)]
   exact e5 (aa l3 l4)
 .rw[if_pos (.inl (by grind))];exact⟨ba,rfl⟩
 .rintro H3 l3 _ rfl;refine⟨λ Q=>?_,λ Q=>?_⟩
  .rw[if_pos (.inr (.inl Q))];exact⟨ba,rfl⟩
  grind
end
end
end Go.Vc
namespace Go.Vc
open Go
section
variable {a:bp}{b:Int}{c:dh}
def zT {l:List dh}(h:l.getLast?=some c):∃a,l=a++[c]:=by
 obtain⟨a,rfl⟩:=abX.1 h;simp
def zU {l:List dh}{a:List cz}(h:l.getLast?=some c){p:List cz->Bool}(e:(l.all λ c=>p c.cols)=true)(f:p a=true):((bf l a b).all λ c=>p c.cols)=true:=by
 obtain⟨d,rfl⟩:=zT h;unfold bf;grind
def uj {d:List cz}{x:Int}(h:aw a=true)(q:a.vers.getLast?=some c)(E:c.rc.lo<=x)(F:x<1099511627776)
  (r:aB d=true) (J:∀b∈d,b∈c.cols\/width a<b.id) (u:∀i,dq c.cols i=true->(a.key.contains i=true\/(∃f∈a.fks,f.cols.contains i=true)\/∃b∈a.csts,b.cols.contains i=true)->dq d i=true):
  aw {a with vers:=bf a.vers d x}=true:=by
 obtain⟨k,j⟩:=zT q;rw[uh]at h⊢;simp only[mV,aah]at h⊢;obtain⟨⟨⟨⟨⟨⟨⟨⟨y,t⟩,K⟩,w⟩,A⟩,G⟩,z⟩,B⟩,H⟩:=h;have m:c.rc.hi=1099511627776:=by rw[eV]at t;grind
 have I:width a=aF (aS 0 k) c.cols:=by rw[width,j,qt];rfl
 have g:=JM (x:=x) (by rw[<-j];grind) ⟨r,λ b r=>by grind⟩ m E F;rw[<-j]at g;have l:∀e:I',permanent a.vers e=true->(∀i∈e,dq c.cols i=true->dq d i=true)->permanent (bf a.vers d x) e=true:=by
  intro e o D;unfold permanent at o⊢;refine zU (p:=λ d=>e.all _) q o (aaG.2 λ i j=>D i j ?_);grind
 refine⟨⟨⟨⟨⟨⟨⟨⟨y,g.2⟩,g.1⟩,w⟩,l _ A λ i j C=>u i C (.inl (by grind))⟩,G⟩,z⟩,?_⟩,?_⟩
 .refine aaG.2 λ f n=>?_;have:=aaG.1 B f n;simp[Ot]at this⊢;grind
 .refine aaG.2 λ f n=>?_;have:=aaG.1 H f n;simp[vB]at this⊢;grind
def mW (h:cg a b=true):aw a=true/\b<1099511627776/\∃v,a.vers.getLast?=some v/\v.rc.lo<=b:=by
 simp[cg]at h;grind
def zV (h:aw a=true)(b:c∈a.vers):aB c.cols=true:=by
 simp[aw]at h;grind
def Qm (d:c∈a.vers):∀b∈c.cols,b.id<=width a:=λ b e=>(oq a.vers 0).2 c d b e
def Nr {c:cz}(h:(eW a c b).2=0):∃v,cg a b=true/\a.vers.getLast?=some v/\dH c.name=true/\de c.kind=true/\(v.cols.any λ o=>decide (o.name=c.name))=false/\width a≠12/\
  eW a c b=({a with vers:=bf a.vers (v.cols++[⟨width a+1,c.name,c.kind⟩]) b},0):=by
 unfold eW at h⊢;grind
def JN {x:Int}(h:(bN a b x).2=0):∃v,cg a x=true/\a.vers.getLast?=some v/\0<=idxOf (λ c=>decide (c.id=b)) 0 v.cols/\v.cols.length≠1/\used a b=false/\
  bN a b x=({a with vers:=bf a.vers (v.cols.eraseIdx (idxOf (λ c=>decide (c.id=b)) 0 v.cols).toNat) x},0):=by
 unfold bN at h⊢;grind
def Et {c:cz}(h:(eW a c b).2=0):aw (eW a c b).1=true:=by
 obtain⟨v,A,m,D,z,L,O,B⟩:=Nr h;obtain⟨k,F,w,y,G⟩:=mW A;obtain rfl:v=w:=abC (m.symm.trans y);rw[B];have g:=abI m;have H:=zV k g;have M:=qp k;have t:=Qm g;have n:fU 0 [] v.cols=true:=by simp[aB]at H;grind
 have p:∀o∈v.cols,o.name≠c.name:=λ o N=>by
  grind
 refine uj k m G F ?_ ?_ ?_
 .simp only[aB,aah,aad,aae,aav,abH];refine⟨(N' ?_),zR (c:=⟨width a+1,c.name,c.kind⟩) (by grind) D z _ 0 _ n (λ d q=>by grind) (by grind) (by simp) p⟩;have u:v.cols.length<12:=by
   have I:∀(l:List cz) (f:Int) (j:List cz),fU f j l=true->(∀d∈l,d.id<=11)->f<=11->(l.length:Int)<=11-f:=by
    intro l;induction l with
    | nil=>simp
    | cons d r P=>
     intro f j C q _;obtain⟨⟨K,-⟩,J⟩:=(gl ..).1 C;grind
   grind
  omega
 .grind
 .intro i E _;obtain⟨d,q,e⟩:=iR.1 E;exact iR.2 ⟨d,T' e⟩
def idxOf_hit {T:Type}(p:T->Bool)(l:List T)(h:0<=idxOf p 0 l):∃d:(idxOf p 0 l).toNat<l.length,p l[(idxOf p 0 l).toNat]=true:=by
 obtain⟨b,a,c⟩:=(sO p l 0 (by simp)).1 h;grind
def Bq {x:Int}(h:(bN a b x).2=0):aw (bN a b x).1=true:=by
 obtain⟨v,C,l,F,K,D,G⟩:=JN h;obtain⟨g,H,z,B,J⟩:=mW C;obtain rfl:v=z:=abC (l.symm.trans B);rw[G];have f:=abI l;have q:=zV g f;have r:=cZ g f;have m:fU 0 [] v.cols=true:=by simp[aB]at q;grind
 obtain⟨t,p⟩:=idxOf_hit _ _ F;generalize (idxOf _ 0 _).toNat=y at t p;refine uj g l J H ?_ (λ c q=> .inl (List.mem_of_mem_eraseIdx q)) ?_
 .simp[aB,List.length_eraseIdx,if_pos t];exact⟨(u' (by omega)),Np (List.eraseIdx_sublist _ _) 0 0 _ _ (abt _) (λ o E=>E) m⟩
 .intro j I L;obtain⟨d,u,rfl⟩:=iR.1 I;have w:d.id≠b:=by
   simp[used]at D;grind
  obtain⟨k,A,e⟩:=aec.1 u;have n:k≠y:=by grind
  exact iR.2 ⟨d,List.mem_eraseIdx_iff_getElem.2 ⟨k,A,n,e⟩,rfl⟩
end
end Go.Vc
namespace Go.Vc
open Go Go.Shelf Go.Proofs
section
variable {a:D'}{b g:Nat}
def ot {H:Heap}{B C:D'}{m d k e:Nat}{p l q:Int}{x:ByteArray}{t:List eC}(s:Sl H a b g t):
  ZB 18 [.agg ⟨[Φi p,Φi l,S a b g,Φi q,S B m d,S C k e]⟩,ΦT x] H gL (λ r _=>r=cO x t):=by
 refine ΦK 0 (aj [] [] [(2,[ag 5])]) (λ c=>W ZE H (λ d=>d 0 H) λ d e f g=>J (g<O b) (ΦX a g b (ΦE Xr f a (N g*6+0+0) (λ h=>J (h=x) (c g f) (ΦR (g+1)/\d (g+1) f/\e (g+1)<e g)))) (c (-1) f)) ?_;dsimp only[PL,aW,eQ,ΦE,N,ΦR,W,ΦX,O,J];have E:=s.bn;refine⟨λ i _=>0<=i/\i<=b/\cO x _=idxOf _ i (t.drop i.toNat),λ i=>b-i.toNat,P' rfl,?_⟩;rintro Z u i ⟨o,P,v⟩;simp only[aad,aaf];refine⟨λ f=>?_,λ j=>?_⟩
 .obtain⟨y,w,_,D,nm,L,n1,R,A2,M,U,A3,G,V,T,I,c4,Q,F,X,rfl,h⟩:=s.at u o f;have Y:=h.sch.name;rw[ak o y,idxOf]at v;refine⟨w,o,f,_,D.cy (k:=0) rfl,λ z=>?_,λ z=>u' ⟨y' ?_,by omega⟩⟩
  .grind
  grind
 .rw[ai j s.len,idxOf]at v;grind
def vG {H:Heap}{d:List az}{w:Int}(i:Sl H a b g d)(E:0<=w)(N:w<=12):
  ZB 53 [S a b g,Φi w] H fi (λ u o r j=>Sl j u o r (xB d w)):=by
 refine ΦK 1 (aj [] [] [(2,[.slot 5 false [.row 17 133]])]) (λ c=>∃d:G',Cells H a 0 d/\L d=b*3/\b*32<=M/\W XN H (λ e=>e b d H) λ e f g h i=>J (O h<w) ((h+1)*32<=M/\(let j:=i++[Value.int .i64 0,I 0,ΦT ⟨⟨[]⟩⟩];e (h+1) j g/\f (h+1) j<f h i)) (U g i h (λ j k l=>c j h k l))) ?_;dsimp only[PL,aW,L,M,W,O,J];have x:=i.len;have t:b*32<=140737488355328:=i.bnd;obtain⟨z,s,C⟩:=i.row;refine⟨z,s,by rw[C.length,x];rfl,t,?_⟩;refine⟨λ q l j=>b<=q/\((q)<=w\/q=b)/\Row j l (d++List.replicate (q-b) v0),λ q _=>w.toNat-q,N' ⟨.inr rfl,by grind⟩,?_⟩;rintro y B q l ⟨D,G,k⟩;simp;refine⟨λ p=>u' ⟨y' ?_,by omega⟩,λ m=>?_⟩
 .have v:Rep.rel y _ v0:=⟨rfl,kS⟩;rw[show q+1-b=(q-b)+1 by omega,List.replicate_succ',<-aat];exact k.append (Row.one v)
 .intro P Q F h f e;have:xB d w=d++List.replicate (q-b) v0:=by
   rw[xB];grind
  rw[this];exact k.sl h f (by grind) e (by show q*32<=_;omega) (by omega)
section
variable {H:Heap}{nm:ByteArray}{A:D'}{n c:Nat}{B:D'}{m d:Nat}{E:D'}{k e:Nat}{F:D'}{l f:Nat}{s:bp}
structure JO (s:bp):Prop where
 w:width s<=12
 ids:∀v∈s.vers,∀c∈v.cols,1<=c.id
def JO.wd (h:JO s):wd s=width s:=by have:=h.w;unfold Vc.wd;omega
def wT:∀(l:List dh) (w:Int),∀v∈l,∀c∈v.cols,c.id<=aS w l
 |[],_,v,a,c,hc=>by grind
 | y::r,w,v,a,c,hc=>by
  rcases aaw.1 a with rfl | a
  .exact Int.le_trans ((fA _ w).2 c hc) (vz r _)
  .exact wT r _ v a c hc
def vH {x:Int}:∀{l:List dh} {v:dh},cY x l=some v->v∈l
 |[],v,h=>by cases h
 | y::r,v,h=>by
  rw[cY]at h;split at h
  .grind
  .exact abQ _ (vH h)
def Ns (h:JO s){x:Int}:∀c∈((cY x s.vers).getD og).cols,1<=c.id/\c.id<=width s:=by
 intro c a;cases b:cY x _ with
 | none=>rw[b]at a;cases a
 | some v=>
  rw[b]at a;exact⟨h.ids v (vH b) c a,wT _ 0 v (vH b) c a⟩
def gH {x:Int}(hs:aV H nm A n c B m d E k e F l f s)(G:JO s):ZB 90 [.agg ⟨[ΦT nm,S A n c,S B m d,S E k e,S F l f]⟩,Φi x] H fi (λ A' n' c' X=>Sl X A' n' c' (br s x)):=by
 refine ΦK 1 (aj [10] [(6,ab 2 14 [31,33,0])] [(4,[.slot 5 false [.row 41 3],ag 8])]) (λ a=>let b:=[ΦT nm,S A n c,S B m d,S E k e,S F l f];C ZP 54 [ΦG b] H λ g h=>h=h/\0<=h/\h*O 8<=M/\∀i:G',i=dE [I 0] (N h)->C YK 98 [ΦG b,I x] g λ j o p q r s t=>W ZG j (λ u=>u (N h) i 0 j) λ u v w y z a0=>J (a0<O r) (ΦX q a0 r (ΦE ZE w q (N a0*3+0) (λ a1=>ΦR (a1-1)/\ΦX q a0 r (ΦE ZE w q (N a0*3+2) (λ a2=>ΦY (a1-1) y (N (a1-1)*1+1<=L z/\ΦR (a0+1)/\(let a3:=av z (N (a1-1)*1) [I a2];u y a3 (a0+1) w/\v y a3 (a0+1)<v y z a0))))))) (U w z y (λ a1 a2 a3=>a a1 y a2 a3))) ?_;dsimp only[PL,aQ,aR,aW,eQ,C,ΦE,L,M,N,ΦR,W,ΦX,ΦY,O,J];refine⟨_,gG hs,?_⟩;rintro H1 V _ ⟨rfl,-⟩;have w0:=Lq s;have w1:=G.w;refine⟨rfl,w0,u' ?_⟩;rintro xs rfl;refine⟨_,qm (hs.mono V),?_⟩;rintro H2 a2 a b A2 Z c2 ok ⟨-,-,-,g,Y,u⟩;have h:((cY x s.vers).getD og).cols=g:=by rw[<-u]
 have j:=Ns G (x:=x);rw[h]at j;have t1:=Y.len;have t2:=Y.bn;obtain⟨w,hw⟩:∃w:Nat,w=(width s).toNat:=⟨_,rfl⟩;rw[<-hw];have hz:Row H2 (dE [Φi 0] w) (List.replicate w (0:Int)):=by
  have r:Rep.rel H2 [Φi 0] (0:Int):=⟨rfl,by decide⟩;exact Row.gS r w
 refine⟨λ p T i X=>0<=i/\i<=Z/\w=p/\Row X T (kX w (g.take i.toNat)),λ _ _ i=>Z-i.toNat,y' ⟨rfl,hz⟩,?_⟩;rintro H3 R p T i ⟨y,i1,rfl,r⟩;dsimp only;simp only[aad,aaf];have q:=sL (w:=w) (g.take i.toNat);refine⟨λ o=>?_,λ a1=>?_⟩
 .obtain⟨hi,hA,_,v,rfl,r1,r2,r3⟩:=Y.at R y o;have a4:=j _ (aan hi);have D:=wN (w:=w) y hi;have a0:=r.dV (i:=(g[i.toNat].id-1).toNat) (by omega) (us:=[.int _ _]) (t:=g[i.toNat].kind) ⟨rfl,r3⟩;have a3:T.length=w*1:=by rw[r.length,q];rfl
  refine⟨hA,y,o,_,v.cy (k:=0) rfl,by grind,hA,y,o,_,v.cy (k:=2) rfl,M' ⟨y' ⟨trivial,?_⟩,by omega⟩⟩;rw[D,if_pos (u' (by omega))];omega
 .rw[aag (by omega)]at r q;intro A4 c4 H4 P Q z;have:br s x=kX w g:=by rw[br,h,G.wd,hw]
  rw[this];exact r.sl P Q q z (by show w*8<=_;omega) (by omega)
def wU {M:List Xp}{x r:Int}(hs:aV H nm A n c B m d E k e F l f s)(ho:JO s)(he:Sl H a b g M)(y:Su M)(r0:0<=r)(r1:r<M.length):
  ZB 153 [.agg ⟨[ΦT nm,S A n c,S B m d,S E k e,S F l f]⟩,Φi x,S a b g,Φi r] H MY (λ k e _=>(⟨k,e⟩:Ck)=CE M (br s x) r):=by
 refine ΦK 0 (aj [] [] [(7,[ag 14])]) (λ h=>C ZT 90 [ΦG [ΦT nm,S A n c,S B m d,S E k e,S F l f],I x] H λ i j o p=>C YF 223 [S a b g,I r,S j o p] i λ q s t=>V (t=0) (h 0 t q) (C ZT 224 [S a b g,I r] q (λ u v w y=>W ZE u (λ z=>z 0 u) λ z a0 a1 a2=>J (a2<O w) (ΦX v a2 w (ΦE ZE a1 v (N a2*1) (λ a3=>J (a3<0) (h 0 8 a1) (ΦX v a2 w (ΦE ZE a1 v (N a2*1) (λ a4=>J (O o<=a4) (h 0 8 a1) (ΦX v a2 w (ΦE ZE a1 v (N a2*1) (λ a5=>ΦX j a5 o (ΦE ZE a1 j (N a5*1) (λ a6=>J (a6=0) (h 0 8 a1) (ΦR (a2+1)/\z (a2+1) a1/\a0 (a2+1)<a0 a2)))))))))))) (h s 0 a1)))) ?_;dsimp only[PL,aQ,aR,aW,eQ,C,ΦE,N,ΦR,W,ΦX,O,V,J];refine⟨_,gH hs ho,?_⟩;rintro H0 u X xn xc hc;generalize br s x=j at*;refine⟨_,JA (he.mono u) hc y.wf y.val r0 r1 y.len,?_⟩;rintro H1 D kd er ⟨h1,h2⟩;rw[CE,<-h1];refine⟨λ h=>?_,λ h=>⟨_,El (he.mono (aa u D)) y.wf r0 r1 y.len,?_⟩⟩
 .rw[if_pos (by simpa using h)]
 have h:=aab (np h);rw[if_neg (by omega),<-h2 h];rintro H2 Q A2 n2 c2 ⟨l,U,L⟩;have s1:=U.len;have s2:=U.bn;have t1:=hc.len;have v:=aa D Q;rw[<-any_congr L];refine⟨λ i _=>0<=i/\i<=n2/\l.any (iy j)=(l.drop i.toNat).any (iy j),λ i=>n2-i.toNat,P' rfl,?_⟩;rintro H3 z i ⟨w,i1,Z⟩;simp only[aad,aaf];refine⟨λ o=>?_,λ P=>?_⟩
 .obtain⟨hx,T,_,t,rfl,r2⟩:=U.at z w o;rw[ak w hx,aaS]at Z;have p:iy j l[i.toNat]=true->(⟨0,8⟩:Ck)=if l.any (iy j)=true then⟨0,8⟩else⟨kd,0⟩:=λ h=>by grind
  refine⟨T,w,o,_,t,λ Y=>p (by simp[iy,Y]),λ Y=>⟨T,w,o,_,t,λ g2=>p (by simp[iy,t1,g2]),λ g2=>?_⟩⟩;obtain⟨hy,hB,_,R,rfl,r3⟩:=hc.at (i:=l[i.toNat]) (aa v z) (by omega) (by omega);refine⟨T,w,o,_,t,hB,y' ⟨_,R,λ g3=>p (by rw[iy];grind),λ g3=>u' ⟨y' ?_,by omega⟩⟩⟩;rw[Z,Ep Y (by omega) (by grind)];rfl
 .rw[ai P s1]at Z;grind
def jg {l:I'}(f:Sl H a b g l)(B:∀x∈l,0<=x):ZB 23 [S a b g] H fi (λ D w z s=>Sl s D w z (l.map (·-1))):=by
 refine ΦK 1 (aj [] [] [(3,[.slot 3 false [.row 20 3],ag 4])]) (λ c=>W ZG H (λ d=>d 0 [] 0 H) λ d e f g h i=>J (i<O b) (ΦX a i b (ΦE ZE f a (N i*1) (λ j=>ΦR (j-1)/\(g+1)*8<=M/\ΦR (i+1)/\d (g+1) (h++[Value.int .i64 (j-1)]) (i+1) f/\e (g+1) (h++[Value.int .i64 (j-1)]) (i+1)<e g h i))) (U f h g (λ j k l=>c j g k l))) ?_;dsimp only[PL,aW,eQ,ΦE,M,N,ΦR,W,ΦX,O,J];have L:=f.len;have G:=f.bn;have R:b*8<=140737488355328:=f.bnd;refine⟨λ q u i s=>0<=i/\i<=b/\q=i.toNat/\Row s u ((l.take i.toNat).map (·-1)),λ _ _ i=>b-i.toNat,y' ⟨rfl,rfl⟩,?_⟩;rintro E r q u i ⟨k,Q,rfl,p⟩;dsimp only;simp only[aad,aaf];refine⟨λ d=>?_,λ v=>?_⟩
 .obtain⟨t,C,_,j,rfl,y⟩:=f.at r k d;have P:=B _ (aan t);have e:ae .i64 (l[i.toNat]-1):=by simp only[ae]at y⊢;omega
  refine⟨C,k,d,_,j,e,y' ⟨J' ?_,by omega⟩⟩;rw[bu k t,aaR];exact p.append (Row.one ⟨rfl,e⟩)
 .rw[aag (by omega)]at p;intro I T F o m h;exact p.sl o m (by grind) h (by show i.toNat*8<=_;omega) (by omega)
end
end
section
def sQ (x:Ed)(a:I'):Int:=if rC x a≠0 then rC x a else if x.kind=3 then oW x.ex a [] x.set else 0
section
variable {H:Heap}{nm:ByteArray}{A:D'}{n c:Nat}{B:D'}{m d:Nat}{E:D'}{k e:Nat}{F:D'}{l f:Nat}{s:bp}{a:Iq}{x:Ed}
def Nt {g:Int}(hs:aV H nm A n c B m d E k e F l f s)(hS:JO s)(Q:qj H a x)(U:Eo x):
  ZB 101 [.agg ⟨[ΦT nm,S A n c,S B m d,S E k e,S F l f]⟩,Φi g,.agg ⟨a.v⟩] H gL (λ r _=>r=sQ x (br s g)):=by
 have e1:=Q.lo;have e2:=Q.hi;have e3:=Q.pred;have e4:=Q.kind;have hA:=Q.set;have s1:=hA.len;have s2:=hA.bn;refine ΦK 0 (aj [17] [(21,gb)] [(13,[ag 10]),(19,[ag 12])]) (λ b=>C ZO 97 [ΦG [I a.vf,I a.vt]] H λ h i=>ΦQ (!i) (b 10 h) (let j:=[ΦT nm,S A n c,S B m d,S E k e,S F l f];let o:=λ o=>V (a.ek=3) (b 0 o) (C ZT 90 [ΦG j,I g] o (λ p q r s=>W ZE p (λ t=>t 0 p) λ t u v w=>J (w<O a.sn) (ΦX a.sa w a.sn (ΦE ZK v a.sa (N w*2) (λ x y=>J (x<0) (b 8 v) (J (O r<=x) (b 8 v) (ΦX q x r (ΦE ZE v q (N x*1) (λ z=>J (z=0) (b 8 v) (W ZE v (λ a0=>a0 0 v) (λ a0 a1 a2 a3=>let a4:=λ(a4:Int) a5 a6 a7=>ΦR (a4+1)/\a5 (a4+1) a6/\a7 (a4+1)<a7 a4;J (a3<w) (ΦX a.sa a3 a.sn (ΦE ZE a2 a.sa (N a3*2+0) (λ a5=>J (a5=x) (b 9 a2) (a4 a3 a0 a2 a1)))) (C YF 153 [ΦG j,I g,S a.xa a.xn a.xc,I y] a2 (λ a5 a6 a7=>V (a7=0) (b a7 a5) (V (a6=0) (ΦX q x r (ΦE ZE a5 q (N x*1) (λ a8=>V (a6=a8) (b 7 a5) (a4 w t a5 u)))) (a4 w t a5 u))))))))))))) (b 0 v)));V (a.ep=-1) (C YF 153 [ΦG j,I g,S a.xa a.xn a.xc,I a.ep] h (λ p q r=>V (r=0) (b r p) (V (q=3) (V (q=0) (b 7 p) (o p)) (o p)))) (o h))) ?_;dsimp only[PL,aQ,aR,aW,eQ,C,ΦE,N,ΦQ,ΦR,W,ΦX,O,V,J];refine⟨_,gY,?_⟩;rintro H1 o _ rfl;rw[e1,e2,e3,e4];refine⟨λ h=>?_,λ h=>⟨λ G=>⟨_,wU (hs.mono o) hS (Q.ex.mono o) U.ex (U.pred.resolve_left (aac (oL G))).1 (U.pred.resolve_left (aac (oL G))).2,?_⟩,λ G=>?_⟩⟩
 .rw[sQ,rC,if_pos (oL h)];rfl
 rotate_left
 focus
  have j:sQ x (br s g)=if x.kind=3 then oW x.ex (br s g) [] x.set else 0:=by
   have a7:rC x (br s g)=0:=by rw[rC,if_neg (by rw[show eo x.vd=true from np h];simp),if_pos (aab (np G))]
   rw[sQ,a7,if_neg (by omega)]
  clear G;revert j
 rotate_left
 focus
  have G:=aac (oL G);have u:rC x (br s g)=if(CE x.ex (br s g) x.pred).er≠0 then(CE x.ex (br s g) x.pred).er else if(CE x.ex (br s g) x.pred).kd≠3/\(CE x.ex (br s g) x.pred).kd≠0 then 7 else 0:=by
   rw[rC,if_neg (by rw[show eo x.vd=true from np h];simp),if_neg G]
  rintro H1 a5 Z er hk;rw[<-hk]at u;dsimp only at u;replace o:=aa o a5;have T:¬(Z≠3/\Z≠0)->er=0->sQ x (br s g)=if x.kind=3 then oW x.ex (br s g) [] x.set else 0:=λ h1 h2=>by
   rw[if_neg (by omega),if_neg h1]at u;rw[sQ,u,if_neg (by omega)]
  refine⟨λ D=>?_,λ D=>⟨λ h3=>⟨λ h4=>?_,λ h4=>?_⟩,λ h3=>?_⟩⟩
  .have D:=aac (oL D);rw[if_pos D]at u;rw[sQ,u,if_pos D]
  .have D:=aab (np D);have:=aac (oL h3);have:=aac (oL h4);rw[if_neg (by omega),if_pos ⟨by omega,by omega⟩]at u;rw[sQ,u,if_pos (by omega)]
  focus
   have j:=T (by have:=aab (np h4);omega) (aab (np D));revert j
  rotate_left
  focus
   have j:=T (by have:=aab (np h3);omega) (aab (np D));revert j
 all_goals
  intro j;refine⟨λ P=>?_,λ P=>⟨_,gH (hs.mono o) hS,?_⟩⟩
  .rw[j,if_neg (aac (oL P))]
  rw[if_pos (aab (np P))]at j;rintro H3 w b p z hc;replace w:=aa o w;have c1:=hc.len;refine⟨λ i _=>0<=i/\i<=a.sn/\oW x.ex (br s g) [] x.set=oW x.ex (br s g) ((x.set.take i.toNat).map (·.col)).reverse (x.set.drop i.toNat),λ i=>a.sn-i.toNat,⟨by omega,by omega,rfl⟩,?_⟩;rintro H4 M i ⟨i0,i1,R⟩;rw[<-j]at R;dsimp only;simp only[aad,aaf];refine⟨λ X=>?_,λ a8=>?_⟩
  .obtain⟨hi,b1,_,b0,rfl,q1,q2⟩:=hA.at (aa w M) i0 X;have a0:=U.set _ (aan hi);have a3:((x.set.take (i+1).toNat).map (·.col)).reverse=x.set[i.toNat].col::((x.set.take i.toNat).map (·.col)).reverse:=by rw[bu i0 hi,aaR,List.reverse_append];rfl
   rw[ak i0 hi,oW,<-a3]at R;have b3:∀{t:Int},0<=t->t<i->x.set[t.toNat]?=none\/∃y,x.set[t.toNat]?=some y/\y.col∈((x.set.take i.toNat).map (·.col)).reverse:=λ {t} t0 t1=>by
    rw[aai (by omega)];refine .inr ⟨_,rfl,?_⟩;rw[List.mem_reverse,aaO];exact⟨_,ady.2 ⟨t.toNat,by omega,rfl⟩,rfl⟩
   have b2:x.set[i.toNat].col∉(x.set.take i.toNat).map (·.col)->x.set[i.toNat].col∉((x.set.take i.toNat).map (·.col)).reverse:=λ h h2=>h (List.mem_reverse.1 h2);generalize x.set[i.toNat]=y at*;have L:iy (br s g) y.col=true->8=sQ x (br s g):=λ h=>by rw[R,if_pos h]
   refine⟨b1,i0,X,_,_,b0,λ g1=>L (by simp[iy,g1]),λ g1=>⟨λ g2=>L (by simp[iy,c1,g2]),λ g2=>?_⟩⟩;obtain⟨hy,hB,_,Y,rfl,r3⟩:=hc.at (i:=y.col) M (by omega) (by omega);have eg:(br s g).getD y.col.toNat 0=(br s g)[y.col.toNat]:=by rw[aaq,aai hy];rfl
   refine⟨hB,by omega,by omega,_,Y,λ g3=>L (by rw[iy,eg];simp[g3]),λ g3=>?_⟩;rw[if_neg (by rw[Ep g1 (by omega) (by rw[eg];exact g3)];simp)]at R;refine⟨λ t _=>0<=t/\t<=i/\y.col∉(x.set.take t.toNat).map (·.col),λ t=>i.toNat-t.toNat,⟨by omega,by omega,by simp⟩,?_⟩;rintro H5 a1 t ⟨t0,t1,u⟩;dsimp only;have q:=aa w (aa M a1);refine⟨λ a9=>?_,λ a9=>?_⟩
   .obtain⟨h6,a2,_,a4,rfl,q6⟩:=hA.at (i:=t) q t0 (by omega);refine⟨a2,t0,by omega,_,a4.cy (k:=0) rfl,λ g4=>?_,λ g4=>⟨by omega,⟨by omega,by omega,?_⟩,by omega⟩⟩
    .grind
    .rw[bu t0 h6,aaR];grind
   refine⟨_,wU (hs.mono q) hS (Q.ex.mono q) U.ex a0.1 a0.2,?_⟩;rintro H6 a6 Z er hk;refine⟨λ h=>?_,λ h=>?_⟩
   .grind
   have go:¬(Z≠0/\Z≠(br s g).getD y.col.toNat 0)->ae .i64 (i+1)/\(0<=i+1/\i+1<=a.sn/\oW x.ex (br s g) [] x.set=oW x.ex (br s g) ((x.set.take (i+1).toNat).map (·.col)).reverse (x.set.drop (i+1).toNat))/\a.sn-(i+1).toNat<a.sn-i.toNat:=λ hh=>by
    grind
   refine⟨λ g5=>⟨hB,by omega,by omega,_,Y.mono (aa a1 a6),λ g6=>?_,λ g6=>go ?_⟩,λ g5=>go ?_⟩
   .grind
   .grind
   grind
  .rw[ai a8 s1]at R;rw[R];rfl
end
end
section
variable {a:Int}{b:List bR}{c:bc}
structure Br (now nid:Int)(t:eC):Prop where
 s:JO t.sch
 lI:nk t.vs
 id:∀v∈t.vs,v.id<nid
 day:∀v∈t.vs,eo v.vd=true
 lo:∀v∈t.vs,v.rc.lo<=now+1
structure Lt (now nid:Int):Prop where
 n0:0<=now
 n1:now<=1000000
 i0:1<=nid
 i1:nid<=1000000000000
def dZ (w:Int)(v:bR):(dY w v).id=v.id/\(dY w v).rc=v.rc/\(dY w v).vd=v.vd:=by unfold dY;grind
def nk.pad (h:nk b)(w:Int):nk (b.map (dY w)):=by
 unfold nk;rw[acJ];exact h.imp λ {a c} d=>by rw[(dZ w a).1,(dZ w c).1];grind
def Hm {w:Int}{d:List Xp}{u:bR}(h:u∈cW (b.map (dY w)) c d a):∃v∈b,v.id=u.id/\v.rc=u.rc/\v.vd=u.vd/\u.rc.hi=1099511627776/\gi u.vd c=true:=by
 rw[cW,abc,aaO]at h;obtain⟨⟨v,j,rfl⟩,e⟩:=h;rw[nX]at e;obtain⟨f,g,i⟩:=dZ w v;grind
def vI:eo c=true↔0<=c.lo/\c.lo<c.hi/\c.hi<=1000000:=by
 rw[eo,aah,fo];grind
def uk {c:List az}{t id:Int}{b:aO}(h:b∈pc c a t id)(e:0<=a)(d:t<=1000000):eo b.p=true:=by
 rw[pc]at h;split at h
 .rw[aaD.1 h];exact vI.2 ⟨e,by grind,d⟩
 grind
def Nu {k:bR->Option (List az)}(h:∀v∈b,eo v.vd=true/\gi v.vd c=true):∀a∈fS c k b,eo a.p=true:=by
 intro a d;obtain⟨v,r,d⟩:=aaZ.1 d;obtain⟨o,i⟩:=h v r;obtain⟨m,t,f⟩:=vI.1 o;have u:cv v.vd c=⟨max v.vd.lo c.lo,min v.vd.hi c.hi⟩:=by rw[cv,if_pos i]
 have e:cv v.vd c=⟨max v.vd.lo c.lo,min v.vd.hi c.hi⟩/\0<=(cv v.vd c).lo/\(cv v.vd c).lo<=1000000/\0<=(cv v.vd c).hi/\(cv v.vd c).hi<=1000000:=by
  simp[gi]at i;grind
 obtain⟨-,q,g,j,s⟩:=e;cases n:k v with
 | none=>
  rw[n,pX,aar,aam]at d;rcases d with d | d
  .exact uk d m g
  .exact uk d j f
 | some b=>
  rw[n,pW,aam,aam]at d;rcases d with(d | d) | d
  .exact uk d m g
  .exact uk d q s
  .exact uk d j f
section
variable {now nid:Int}{t:eC}
def xX (h:Br now nid t)(c:Lt now nid){w:Int}{p:bc}{es:List Xp}{r:Int}{m:bR->Option (List az)}:
  Gx t.vs (oV (t.vs.map (dY w)) p es r) (fS p m (cW (t.vs.map (dY w)) p es r)) (now+1) nid:=by
 have s:=c.n0;have A:=c.n1;have y:=c.i0;have z:=c.i1;refine⟨h.lI,by omega,by omega,by omega,by omega,h.id,?_,?_,?_⟩
 .have o:=zn (p:=p) (es:=es) (r:=r) (h.lI.pad w);rw[oV,List.Nodup,acJ];exact List.Pairwise.imp (λ {a b} l e=>by omega) o
 .intro x k;rw[oV,aaO]at k;obtain⟨u,f,rfl⟩:=k;obtain⟨v,d,g,n,i,q,j⟩:=Hm f;exact⟨v,d,g,by grind,h.lo v d⟩
 .refine Nu λ u f=>?_;obtain⟨v,d,g,n,i,q,j⟩:=Hm f;exact⟨by rw[<-i];exact h.day v d,j⟩
def Lu (h:Br now nid t)(a:Lt now nid){b:List az}(e:eo c=true):Gx t.vs [] [⟨b,c,[]⟩] (now+1) nid:=by
 have i:=a.n0;have g:=a.n1;have d:=a.i0;have f:=a.i1;exact⟨h.lI,by omega,by omega,by omega,by omega,h.id,by simp,by simp,by grind⟩
def kZ {c:I'}{u:bR}(h:u∈cp c a b):∃v∈b,v.id=u.id/\v.vd=u.vd/\v.rc.lo=u.rc.lo:=by
 obtain⟨v,d,h⟩:=aaZ.1 h;rw[kR]at h;grind
def zW {c:I'}{x:Int}:∀{d:List bR},nk d->nk (cp c x d)
 |[],_=>by simp[cp,nk]
 | v::r,h=>by
  obtain⟨k,g⟩:=aaz.1 h;have e:cp c x (v::r)=kR c x v++cp c x r:=by rfl
  rw[e,nk,aaW];refine⟨?_,zW g,λ a f b i=>?_⟩
  .rw[kR];split<;>(try split)<;>simp
  .have l:a.id=v.id:=by
    rw[kR]at f;grind
   obtain⟨u,m,j,-⟩:=kZ i;grind
def lg {x:Int}:∀{l:List aO} {f:Int} {u:bR},u∈gN f x l->f<=u.id/\u.id<f+l.length/\u.rc=⟨x,1099511627776⟩/\∃a∈l,u.vd=a.p/\u.vals=a.vals
 |[],f,u,h=>by cases h
 | a::r,f,u,h=>by
  rcases aaw.1 h with rfl | h
  .grind
  .obtain⟨e,c,i,b,d,g⟩:=lg h;grind
def Hn {x:Int}:∀{l:List aO} {f:Int},nk (gN f x l)
 |[],f=>by simp[gN,nk]
 | a::r,f=>by
  rw[gN,nk,aaz];exact⟨λ u b=>by have:=(lg b).1;grind,Hn⟩
def Br.apply {i:I'}{g:List aO}(h:Br now nid t)(j:Gx t.vs i g (now+1) nid):Br now (nid+g.length) {t with vs:=jN t.vs i g (now+1) nid}:=by
 refine⟨h.s,?_,λ u c=>?_,λ u c=>?_,λ u c=>?_⟩
 .rw[jN,nk,aaW];refine⟨zW h.lI,Hn,λ a f b k=>?_⟩;obtain⟨v,d,e,-⟩:=kZ f;have:=h.id v d;have:=(lg k).1;omega
 all_goals
  rcases aam.1 (c)with c | c
 .obtain⟨v,d,e,-⟩:=kZ c;have:=h.id v d;omega
 .have:=(lg c).2.1;omega
 .obtain⟨v,d,-,e,-⟩:=kZ c;rw[<-e];exact h.day v d
 .obtain⟨-,-,-,a,f,e,-⟩:=lg c;rw[e];exact j.days a f
 .obtain⟨v,d,-,-,e⟩:=kZ c;rw[<-e];exact h.lo v d
 .have:=(lg c).2.2.1;grind
def Br.up (h:Br now nid t)(b:nid<=a):Br now a t:=⟨h.s,h.lI,λ v c=>Int.lt_of_lt_of_le (h.id v c) b,h.day,h.lo⟩
def JP {cl:I'}{ad:List aO}{x f:Int}{vs:List bR}:(jN vs cl ad x f).length<=vs.length+ad.length:=by
 rw[jN,aae,tU];have:=iJ (cl:=cl) (t:=x) (vs:=vs);omega
end
def rE (now:Int)(t:eC)(x:Ed):Int×I'×List aO:=
 if eo x.vd=false then(10,[],[])else if(expand ((cY (now+1) t.sch.vers).getD og).cols x.vals (width t.sch)).2≠0 then((expand ((cY (now+1) t.sch.vers).getD og).cols x.vals (width t.sch)).2,[],[])
 else(0,[],[⟨(expand ((cY (now+1) t.sch.vers).getD og).cols x.vals (width t.sch)).1,x.vd,[]⟩])
def iS (t:eC):List bR:=t.vs.map (dY (wd t.sch))
def Bs (now:Int)(t:eC)(x:Ed):Int×I'×List aO:=
 if rC x (br t.sch (now+1))≠0 then(rC x (br t.sch (now+1)),[],[])else(0,oV (iS t) x.vd (gO x) (jU x),PA (iS t) x.vd (gO x) (jU x))
def zX (now:Int)(t:eC)(x:Ed):Int×I'×List aO:=
 if rC x (br t.sch (now+1))≠0 then(rC x (br t.sch (now+1)),[],[])else if oW x.ex (br t.sch (now+1)) [] x.set≠0 then(oW x.ex (br t.sch (now+1)) [] x.set,[],[])
 else(0,oV (iS t) x.vd (gO x) (jU x),PB (iS t) x.vd (gO x) (jU x) x.set)
def iT (now:Int)(t:eC)(x:Ed):Int×I'×List aO:=if x.kind=1 then rE now t x else if x.kind=2 then Bs now t x else zX now t x
def mX {t:eC}{p:bc}{es:List Xp}{r:Int}:(cW (iS t) p es r).length<=t.vs.length:=by
 refine aax jz ?_;simp[iS]
def Ho {nid:Int}{t:eC}{x:Ed}(h:Br a nid t)(f:Lt a nid)(b:(iT a t x).1=0):Gx t.vs (iT a t x).2.1 (iT a t x).2.2 (a+1) nid/\(iT a t x).2.2.length<=3*t.vs.length+1:=by
 unfold iT at*;split at b
 .rename_i d;simp[if_pos d];unfold rE at*;split at b
  .grind
  .rename_i c;split at b
   .grind
   .rename_i e;simp only[if_neg c,if_neg e];exact⟨Lu h f (by grind),by simp⟩
 .rename_i d;simp[if_neg d];split at b
  .rename_i c;simp[if_pos c];unfold Bs at*;split
   .grind
   .exact⟨xX h f,aax jB (by have:=mX (t:=t) (p:=x.vd) (es:=gO x) (r:=jU x);omega)⟩
  .rename_i c;simp[if_neg c];unfold zX at*;split at b
   .grind
   .rename_i e;split at b
    .grind
    .rename_i g;simp[if_neg e,if_neg g];exact⟨xX h f,aax jB (by have:=mX (t:=t) (p:=x.vd) (es:=gO x) (r:=jU x);omega)⟩
end
section
def Row.vJ {T:Type}[Rep T]{H:Heap}{xs:G'}{l:List T}{i:Nat}(h:Row H xs l)(o:i<l.length):∃b,Rep.rel H b l[i]/\(∀k m,k+m<=Rep.sz T->Vc.win xs (i*Rep.sz T+k) m=(b.drop k).take m)/\
  (∀{d:Heap},Heap.le H d->∀k c t,k+c.length<=Rep.sz T->Rep.rel d (b.take k++c++b.drop (k+c.length)) t->Row d (Vc.av xs (i*Rep.sz T+k) c) (l.set i t)):=by
 obtain⟨b,n,j,v⟩:=h.mg o;have s:=Rep.len n;refine⟨b,n,j,λ {d} g k c t r u=>?_⟩;obtain⟨f,q,p,w⟩:=(h.mono g).mg o;have e:f=b:=by
  have a:=p 0 (Rep.sz T) (by omega);rw[j 0 (Rep.sz T) (by simp),abN,abN,aag (by omega),aag (by rw[Rep.len q];grind)]at a;grind
 grind
structure Db where
 now:Int
 nid:Int
 tabs:List eC
structure RL where
 hor:Int
 hA:D'
 hn:Nat
 hc:Nat
 cA:D'
 cn:Nat
 cc:Nat
abbrev JQ (now nid:Int)(n:Nat)(xs:G')(r:RL):List BC:=[.v (.int .i64 now),.v (.int .i64 nid),.row 53 n xs,.v (.int .i64 r.hor),.v (.slice r.hA r.hn r.hc),.v (.slice r.cA r.cn r.cc)]
abbrev Eu (b:Nat):List aI:=[.int .i64,.int .i64,.row b 53,.int .i64,.sl,.sl]
structure ou (H:Heap)(now nid:Int)(n:Nat)(xs:G')(d:Db):Prop where
 now:now=d.now
 nid:nid=d.nid
 len:n=d.tabs.length
 row:Row H xs d.tabs
def ou.mono {H b:Heap}{now nid:Int}{n:Nat}{xs:G'}{d:Db}(h:ou H now nid n xs d)(a:Heap.le H b):ou b now nid n xs d:=⟨h.now,h.nid,h.len,h.row.mono a⟩
def ow (d:Db)(r:RL)(g:Int):Int->Int->Nat->G'->Int->D'->Nat->Nat->D'->Nat->Nat->Int->Heap->aU->Prop:=
 λ now nid n xs a k l i j b f e h c=>ou h now nid n xs d/\(⟨a,k,l,i,j,b,f⟩:RL)=r/\ux=c/\e=g
def vK (d:Db)(j:Nat)(t:eC)(b:I')(a:List aO):Db:=⟨d.now,d.nid+a.length,d.tabs.set j ⟨t.sch,jN t.vs b a (d.now+1) d.nid⟩⟩
section
variable {H:Heap}{now nid:Int}{n:Nat}{xs:G'}{r:RL}{d:Db}{b j:Nat}{t:eC}
def zY {B E:D'}{m c k e:Nat}{s:I'}{l:List aO}(a:ou H now nid n xs d)(Z:d.tabs[j]?=some t)(hc:Sl H B m c s)(w:Sl H E k e l)(R:Gx t.vs s l (d.now+1) d.nid)
  (o:Lt d.now d.nid) (hb:t.vs.length+l.length<=100000000):
  ZD 198 [.me,.lx 2 (j*6),.v (.agg ⟨[S B m c,S E k e]⟩)] 30 (JQ now nid n xs r) H ux (Eu b) gL (ow (vK d j t s l) r 0):=by
 obtain⟨F,rfl⟩:=aap.1 Z;have Y:=a.now;have M:=a.nid;have e3:=a.len;have n0:=o.n0;have n1:=o.n1;have i0:=o.i0;have i1:=o.i1;have q:oI (JQ now nid n xs r) [.me,.lx 2 (j*6),.v (.agg ⟨[S B m c,S E k e]⟩)]:=⟨by grind,trivial⟩;refine uL 0 0 (aj [] [(1,[2,4,6]++ab 10 10 [9,31,32,34,36,38,40,0]),(4,ab 2 6 [15,16,18,20,23,0])] []) (λ a=>∀b:Nat,ΦR (now+1)/\ΦF ZM xs (j*6+5) 1 λ d f g=>C YN 259 [S d f g,ΦG [S B m c,S E k e],I (now+1),I nid] H λ h i l o p=>J (p=0) (j*6+5+1<=L xs/\ΦR (nid+O k)/\b=b/\a now (nid+O k) n (av xs (j*6+5) [S i l o]) r.hor r.hA r.hn r.hc r.cA r.cn r.cc p h ux) (b=b/\a now nid n xs r.hor r.hA r.hn r.hc r.cA r.cn r.cc p h ux)) q ?_;dsimp only[aQ,aR,eQ,C,ΦF,L,ΦR,O,J];intro a0;obtain⟨vs,⟨y,D,u,N,A2,G,P,X,z,V,Q,A,c4,A5,n5,c5,rfl,p⟩,f,i⟩:=a.row.vJ _;have s1:=p.vs.len;have a1:=w.len;subst Y M;refine⟨by simp[ae];omega,_,_,_,f 5 1 (by decide),_,Pv p.vs hc w R (by omega),?_⟩;rintro H1 g T U c6 er ⟨rfl,W⟩;have x:xs.length=d.tabs.length*6:=a.row.length;refine⟨λ _=>⟨by omega,by simp[ae];omega,rfl,⟨rfl,by rw[vK,a1],by rw[vK];grind,?_⟩,rfl,rfl,rfl⟩,λ h=>(by grind)⟩;exact i g 5 _ _ (by show 5+1<=6;simp) ⟨y,D,u,N,A2,G,P,X,z,V,Q,A,c4,T,U,c6,rfl,p.sch.mono g,W⟩
def Ev (d:Db)(j:Nat)(t:eC)(R:Int×I'×List aO):Db:=if R.1=0 then vK d j t R.2.1 R.2.2 else d
def Lv {R:Int×I'×List aO}(h:R.1=0):Ev d j t R=vK d j t R.2.1 R.2.2:=if_pos h
def xY {R:Int×I'×List aO}(h:R.1≠0):Ev d j t R=d:=if_neg h
def JR (s:bp)(x:Int):(br s x).length<=12:=by
 rw[br,sL];have:=CC s;omega
def JS {x:Ed}(h:Eo x):AP (gO x)/\0<=jU x/\jU x<(gO x).length/\Rx (gO x) x.set/\(gO x).length<=201:=by
 have e:=h.ex.len;rw[gO,jU];split
 .rename_i b;refine⟨λ i f=>?_,by omega,by simp;omega,λ a d=>?_,by simp;omega⟩
  .by_cases c:i<x.ex.length
   .rw[aaI c];exact h.ex.wf i c
   .have:i=x.ex.length:=by grind
    subst this;simp;exact⟨.inl rfl,λ h=>by simp[Hk,aZ]at h,λ h=>by simp[Hk,aZ]at h⟩
  .have:=h.set a d;grind
 .rename_i b;have:=h.pred.resolve_left b;exact⟨h.ex.wf,this.1,this.2,h.set,by omega⟩
variable {a:Iq}{x:Ed}
def Nv (k:ou H now nid n xs d)(O:d.tabs[j]?=some t)(w:qj H a x)(R:Br d.now d.nid t)(A:Lt d.now d.nid)(hb:t.vs.length<=10000000):
  ZD 131 [.me,.lx 2 (j*6),.v (.agg ⟨a.v⟩)] 30 (JQ now nid n xs r) H ux (Eu b) gL (ow (Ev d j t (rE d.now t x)) r (rE d.now t x).1):=by
 obtain⟨B,G⟩:=aap.1 O;have J:=k.now;have e2:=k.nid;have e3:=k.len;have n0:=A.n0;have n1:=A.n1;have T:=w.lo;have W:=w.hi;have D:oI (JQ now nid n xs r) [.me,.lx 2 (j*6),.v (.agg ⟨a.v⟩)]:=⟨by show 0<n;omega,trivial⟩;refine uL 0 1 {aj [13,36,49] [(3,[2,4,6,10,12,14,16,18,9,21,22,24,26,29,31,32,0,1,1,29,21,22,24,26,31,32,0,1,1,1,29,9,21,22,24,26,31,32,0]),(4,ab 2 6 [15,17,19,20,22,24,26,28,0])] []with bx:=λ | some 49,198=>some [.int .i64,.int .i64,.row 50 53,.int .i64,.sl,.sl] | _,_=>none} (λ b=>∀c:Nat,C ZO 138 [ΦG [I a.vf,I a.vt]] H λ d e=>ΦQ (!e) (c=c/\b now nid n xs r.hor r.hA r.hn r.hc r.cA r.cn r.cc 10 d ux) (ΦR (now+1)/\(let f:=λ f g (h i:Nat) k (l m:Nat) o (p q:Nat) s (t u:Nat)=>C YK 33 [ΦG [ΦT f,S g h i,S k l m,S o p q,S s t u],I (now+1)] d λ v w x y z a0 a1=>ΦF XP xs (j*6+0) 5 λ a2 a3 a4 a5 a6 a7 a8 a9 b0 b1 b2 b3 b4=>C ZP 106 [ΦG [ΦT a2,S a3 a4 a5,S a6 a7 a8,S a9 b0 b1,S b2 b3 b4]] v λ b5 b6=>C YN 197 [ΦG [I w,I x,S y z a0],S a.va a.vn a.vc,I b6] b5 λ b7 b8 b9 c0 c1=>V (c1=0) (c=c/\b now nid n xs r.hor r.hA r.hn r.hc r.cA r.cn r.cc c1 b7 ux) (C ZY 199 [S b8 b9 c0,ΦG [I a.vf,I a.vt]] b7 (λ c2 c3 c4 c5 c6 c7 c8=>tS XQ ZP 198 [BA.me,BA.lx 2 (j*6),BA.v (ΦG [S c3 c4 c5,S c6 c7 c8])] 30 [BC.v (I now),BC.v (I nid),BC.row 53 n xs,BC.v (I r.hor),BC.v (S r.hA r.hn r.hc),BC.v (S r.cA r.cn r.cc)] c2 ux λ c9 d0 d1 d2 d3 d4 d5 d6 d7 d8 d9 e0 e1 e2=>c=c/\b d1 d2 d3 d4 d5 d6 d7 d8 d9 e0 e1 e2 c9 d0));ΦF XP xs (j*6+0) 5 (λ g h i k l m o p q s t u v=>f g h i k l m o p q s t u v/\f g h i k l m o p q s t u v)/\ΦF XP xs (j*6+0) 5 λ g h i k l m o p q s t u v=>f g h i k l m o p q s t u v))) D ?_;dsimp only[aQ,aR,eQ,C,tS,ΦF,ΦQ,ΦR,V];intro a0;refine⟨_,fw,?_⟩;rintro H1 f _ rfl;rw[T,W];refine⟨λ h=>?_,λ h=>?_⟩
 .have y:rE d.now t x=(10,[],[]):=if_pos (oL h);rw[y];exact⟨rfl,k.mono f,rfl,rfl,rfl⟩
 have N:eo x.vd=true:=np h;obtain⟨vs,⟨nm,A1,m1,c1,A2,m2,c2,A3,m3,c3,A4,m4,c4,A5,m5,c5,rfl,E⟩,u,-⟩:=(k.row.mono f).vJ B;rw[G]at E;have F:=u 0 5 (by decide);rw[J];refine⟨by simp only[ae];omega,⟨_,_,_,_,_,_,_,_,_,_,_,_,_,F,?_,?_⟩,_,_,_,_,_,_,_,_,_,_,_,_,_,F,?_⟩;all_goals
  refine⟨_,kF (x:=d.now+1) E.sch,?_⟩;rintro H2 q a2 b2 A9 n9 c9 ok ⟨-,-,-,s,m,g⟩;have g:((cY (d.now+1) t.sch.vers).getD og).cols=s:=by grind
  refine⟨_,_,_,_,_,_,_,_,_,_,_,_,_,F,_,oh (E.sch.mono q),?_⟩;rintro H3 e _ ⟨rfl,-⟩;have e:=aa q e;refine⟨_,Bl (m.mono (by grind)) (w.vals.mono (aa f e)),?_⟩;rintro H4 c X P U Q ⟨i,o⟩;rw[<-g]at i o;have c:=aa f (aa e c);refine⟨λ z=>?_,λ z=>?_⟩
  .have z:=aac (oL z);have y:rE d.now t x=(Q,[],[]):=by rw[rE,if_neg (by grind),if_pos (by grind),o]
   rw[y,xY z];exact⟨rfl,by rw[<-J];exact k.mono c,rfl,rfl,rfl⟩
  .have y:rE d.now t x=(0,[],[⟨(expand ((cY (d.now+1) t.sch.vers).getD og).cols x.vals (width t.sch)).1,x.vd,[]⟩]):=by rw[rE,if_neg (by grind),if_neg (by grind)]
   refine⟨_,MF i N w.r1 w.r2,?_⟩;rintro H5 l B5 Y d5 E5 k5 Z ⟨L,M⟩;have l:=aa c l;have p:=zY (r:=r) (b:=50) (k.mono l) O L M (Lu R A N) A (by grind);rw[J]at p;refine⟨_,p,?_⟩;rw[y,Lv rfl];simp
def Nw (o:ou H now nid n xs d)(N:d.tabs[j]?=some t)(m:qj H a x)(A:Eo x)(L:Br d.now d.nid t)(y:Lt d.now d.nid)(hb:t.vs.length<=10000000):
  ZD 132 [.me,.lx 2 (j*6),.v (.agg ⟨a.v⟩)] 30 (JQ now nid n xs r) H ux (Eu b) gL (ow (Ev d j t (Bs d.now t x)) r (Bs d.now t x).1):=by
 obtain⟨z,G⟩:=aap.1 N;have B:=o.now;have e2:=o.nid;have e3:=o.len;have n0:=y.n0;have n1:=y.n1;have f1:=m.lo;have W:=m.hi;obtain⟨g1,g2,g3,g4,g5⟩:=JS A;have F:oI (JQ now nid n xs r) [.me,.lx 2 (j*6),.v (.agg ⟨a.v⟩)]:=⟨by show 0<n;omega,trivial⟩;refine uL 0 1 {aj [20,40] [(1,[2,4,6,10,12,14,16,18,9,21,23,24,0]),(5,[2,4,6,8,14,16,18,20,11,13,23,25,26,0])] []with bx:=λ | some 40,198=>some [.int .i64,.int .i64,.row 41 53,.int .i64,.sl,.sl] | _,_=>none} (λ b=>∀c:Nat,ΦR (now+1)/\ΦF XM xs (j*6) 6 λ d e f g h i k l m o p q s t u v=>C ZT 201 [ΦG [ΦT d,S e f g,S h i k,S l m o,S p q s,S t u v],I (now+1)] H λ w x y z=>let a0:=[I a.ek,ΦT a.et,S a.va a.vn a.vc,I a.vf,I a.vt,S a.xa a.xn a.xc,I a.ep,S a.sa a.sn a.sc,ΦT a.nm,S a.A a.n a.c,S a.B a.m a.d,S a.E a.k a.e,S a.F a.l a.f,I a.ci,ΦT a.cn,I a.ck];C ZP 200 [ΦG a0,S x y z] w λ a1 a2=>V (a2=0) (c=c/\b now nid n xs r.hor r.hA r.hn r.hc r.cA r.cn r.cc a2 a1 ux) (C YN 202 [ΦG a0] a1 (λ a3 a4 a5 a6 a7=>ΦF XM xs (j*6) 6 λ a8 a9 b0 b1 b2 b3 b4 b5 b6 b7 b8 b9 c0 c1 c2 c3=>C ZT 204 [ΦG [ΦT a8,S a9 b0 b1,S b2 b3 b4,S b5 b6 b7,S b8 b9 c0,S c1 c2 c3]] a3 λ c4 c5 c6 c7=>C ZY 203 [S c5 c6 c7,ΦG [I a.vf,I a.vt],S a4 a5 a6,I a7] c4 λ c8 c9 d0 d1 d2 d3 d4=>tS XR ZP 198 [BA.me,BA.lx 2 (j*6),BA.v (ΦG [S c9 d0 d1,S d2 d3 d4])] 30 [BC.v (I now),BC.v (I nid),BC.row 53 n xs,BC.v (I r.hor),BC.v (S r.hA r.hn r.hc),BC.v (S r.cA r.cn r.cc)] c8 ux λ d5 d6 d7 d8 d9 e0 e1 e2 e3 e4 e5 e6 e7 e8=>c=c/\b d7 d8 d9 e0 e1 e2 e3 e4 e5 e6 e7 e8 d5 d6))) F ?_;dsimp only[aQ,aR,eQ,C,tS,ΦF,ΦR,V];intro a0;obtain⟨vs,⟨nm,A1,m1,c1,A2,m2,c2,A3,m3,c3,A4,m4,c4,A5,m5,c5,rfl,E⟩,w,-⟩:=o.row.vJ z;rw[G]at E;have O:=w 0 6 (by decide);rw[B];refine⟨by simp only[ae];omega,_,_,_,_,_,_,_,_,_,_,_,_,_,_,_,_,O,_,Hj (x:=d.now+1) E,?_⟩;rintro H1 q c kn kc hK;refine⟨_,qk (m.mono q) A hK,?_⟩;rintro H2 g _ rfl;have g:=aa q g;refine⟨λ i=>?_,λ i=>?_⟩
 .have i:=aac (oL i);rw[Bs,if_pos i,xY i];exact⟨rfl,by rw[<-B];exact o.mono g,rfl,rfl,rfl⟩
 have i:=aab (np i);have hR:Bs d.now t x=(0,oV (iS t) x.vd (gO x) (jU x),PA (iS t) x.vd (gO x) (jU x)):=by rw[Bs,if_neg (by omega)]
 refine⟨_,CH (m.mono g) A.ex.len,?_⟩;rintro H3 h X xn xc pr ⟨U,rfl⟩;have h:=aa g h;refine⟨_,_,_,_,_,_,_,_,_,_,_,_,_,_,_,_,O,_,CD (E.mono h),?_⟩;rintro H4 u f vn vc R;have s4:=R.len;simp at s4;rw[f1,W];refine⟨_,MJ R (L.lI.pad _) (U.mono u) g1 g2 g3 (by omega) (by omega) m.r1 m.r2,?_⟩;rintro H5 k B5 a1 d5 E5 k5 e5 ⟨J,D⟩;have k:=aa h (aa u k);have M:=aax (jB (p:=x.vd) (ch:=λ _=>none)) (acx 3 (mX (t:=t) (p:=x.vd) (es:=gO x) (r:=jU x)));have s:=zY (r:=r) (b:=41) (o.mono k) N J D (xX L y) y (by show t.vs.length+(fS x.vd _ (cW (iS t) x.vd _ _)).length<=100000000;omega);rw[B]at s;refine⟨_,s,?_⟩;rintro H6 a3 O6 P T n' a2 Q a7 Z Y a6 a4 a5 e l;rw[hR];exact⟨rfl,l⟩
def Nx (o:ou H now nid n xs d)(P:d.tabs[j]?=some t)(k:qj H a x)(A:Eo x)(N:Br d.now d.nid t)(D:Lt d.now d.nid)(hb:t.vs.length<=10000000):
  ZD 133 [.me,.lx 2 (j*6),.v (.agg ⟨a.v⟩)] 30 (JQ now nid n xs r) H ux (Eu b) gL (ow (Ev d j t (zX d.now t x)) r (zX d.now t x).1):=by
 obtain⟨E,L⟩:=aap.1 P;have B:=o.now;have e2:=o.nid;have e3:=o.len;have n0:=D.n0;have n1:=D.n1;have f1:=k.lo;have f2:=k.hi;obtain⟨g1,g2,g3,g4,g5⟩:=JS A;have J:oI (JQ now nid n xs r) [.me,.lx 2 (j*6),.v (.agg ⟨a.v⟩)]:=⟨by show 0<n;omega,trivial⟩;refine uL 0 1 {aj [23,29,51] [(1,[2,4,8,10,12,14,16,7,19,20,0]),(9,[2,4,6,8]++ab 14 6 [11,13,27,29,30,0])] []with bx:=λ | some 51,198=>some [.int .i64,.int .i64,.row 52 53,.int .i64,.sl,.sl] | _,_=>none} (λ b=>∀c:Nat,ΦR (now+1)/\ΦF XM xs (j*6) 6 λ d e f g h i k l m o p q s t u v=>C ZT 201 [ΦG [ΦT d,S e f g,S h i k,S l m o,S p q s,S t u v],I (now+1)] H λ w x y z=>let a0:=[I a.ek,ΦT a.et,S a.va a.vn a.vc,I a.vf,I a.vt,S a.xa a.xn a.xc,I a.ep,S a.sa a.sn a.sc,ΦT a.nm,S a.A a.n a.c,S a.B a.m a.d,S a.E a.k a.e,S a.F a.l a.f,I a.ci,ΦT a.cn,I a.ck];C ZP 200 [ΦG a0,S x y z] w λ a1 a2=>let a3:=λ(a3:Int) a4=>c=c/\b now nid n xs r.hor r.hA r.hn r.hc r.cA r.cn r.cc a3 a4 ux;V (a2=0) (a3 a2 a1) (C ZP 205 [ΦG a0,S x y z] a1 (λ a4 a5=>V (a5=0) (a3 a5 a4) (C YN 202 [ΦG a0] a4 (λ a6 a7 a8 a9 b0=>ΦF XM xs (j*6) 6 λ b1 b2 b3 b4 b5 b6 b7 b8 b9 c0 c1 c2 c3 c4 c5 c6=>C ZT 204 [ΦG [ΦT b1,S b2 b3 b4,S b5 b6 b7,S b8 b9 c0,S c1 c2 c3,S c4 c5 c6]] a6 λ c7 c8 c9 d0=>C ZY 206 [S c8 c9 d0,ΦG [I a.vf,I a.vt],S a7 a8 a9,I b0,S a.sa a.sn a.sc] c7 λ d1 d2 d3 d4 d5 d6 d7=>tS XS ZP 198 [BA.me,BA.lx 2 (j*6),BA.v (ΦG [S d2 d3 d4,S d5 d6 d7])] 30 [BC.v (I now),BC.v (I nid),BC.row 53 n xs,BC.v (I r.hor),BC.v (S r.hA r.hn r.hc),BC.v (S r.cA r.cn r.cc)] d1 ux λ d8 d9 e0 e1 e2 e3 e4 e5 e6 e7 e8 e9 f0 f1=>c=c/\b e0 e1 e2 e3 e4 e5 e6 e7 e8 e9 f0 f1 d8 d9))))) J ?_;dsimp only[aQ,aR,eQ,C,tS,ΦF,ΦR,V];intro a0;obtain⟨vs,⟨nm,A1,m1,c1,A2,m2,c2,A3,m3,c3,A4,m4,c4,A5,m5,c5,rfl,G⟩,z,-⟩:=o.row.vJ E;rw[L]at G;have Q:=z 0 6 (by decide);rw[B];refine⟨by simp only[ae];omega,_,_,_,_,_,_,_,_,_,_,_,_,_,_,_,_,Q,_,Hj (x:=d.now+1) G,?_⟩;rintro H1 w c kn kc W;refine⟨_,qk (k.mono w) A W,?_⟩;rintro H2 g _ rfl;have h:=aa w g;refine⟨λ q=>?_,λ q=>⟨_,rD (k.mono h) A (W.mono g) (JR _ _),?_⟩⟩
 .have q:=aac (oL q);rw[zX,if_pos q,xY q];exact⟨rfl,by rw[<-B];exact o.mono h,rfl,rfl,rfl⟩
 have q:=aab (np q);rintro H2 g _ rfl;have g:=aa h g;refine⟨λ l=>?_,λ l=>?_⟩
 .have l:=aac (oL l);rw[zX,if_neg (by omega),if_pos l,xY l];exact⟨rfl,by rw[<-B];exact o.mono g,rfl,rfl,rfl⟩
 have l:=aab (np l);have hR:zX d.now t x=(0,oV (iS t) x.vd (gO x) (jU x),PB (iS t) x.vd (gO x) (jU x) x.set):=by rw[zX,if_neg (by omega),if_neg (by omega)]
 refine⟨_,CH (k.mono g) A.ex.len,?_⟩;rintro H3 i X xn xc pr ⟨Z,rfl⟩;have i:=aa g i;refine⟨_,_,_,_,_,_,_,_,_,_,_,_,_,_,_,_,Q,_,CD (G.mono i),?_⟩;rintro H4 m f vn vc U;have s4:=U.len;simp at s4;rw[f1,f2];refine⟨_,MK U (N.lI.pad _) (Z.mono m) g1 g2 g3 (by omega) (by omega) k.r1 k.r2 (k.set.mono (aa i m)) g4,?_⟩;rintro H5 s B5 a3 d5 E5 k5 e5 ⟨M,F⟩;have s:=aa i (aa m s);have O:=aax (jB (p:=x.vd) (ch:=λ v=>some (iw (gO x) v.vals x.set))) (acx 3 (mX (t:=t) (p:=x.vd) (es:=gO x) (r:=jU x)));have y:=zY (r:=r) (b:=52) (o.mono s) P M F (xX N D) D (by show t.vs.length+(fS x.vd _ (cW (iS t) x.vd _ _)).length<=100000000;omega);rw[B]at y;refine⟨_,y,?_⟩;rintro H6 a5 O6 R Y n' a4 T a9 a2 a1 a8 a6 a7 e u;rw[hR];exact⟨rfl,u⟩
end
end
section
def zZ (d:Db)(j:Nat)(t:eC)(s:bp):Db:=⟨d.now,d.nid,d.tabs.set j ⟨s,t.vs⟩⟩
def Ew (now:Int)(t:eC)(c:cz):Int×bp:=((eW t.sch c (now+1)).2,(eW t.sch c (now+1)).1)
def mY (a:ByteArray)(id:Int)(f:nz):Bool:=decide (f.table=a)&&f.refs.contains id
def gm (a:List eC)(b:ByteArray)(id:Int):Bool:=a.any λ u=>u.sch.fks.any (mY b id)
def Hq {u:eC}{b:List eC}{a:ByteArray}{id:Int}:gm (u::b) a id=(u.sch.fks.any (mY a id)||gm b a id):=aaS
def sR (now:Int)(a:List eC)(t:eC)(id:Int):Int×bp:=
 if(bN t.sch id (now+1)).2≠0 then((bN t.sch id (now+1)).2,kr)else if gm a t.sch.name id=true then(18,kr)else(0,(bN t.sch id (now+1)).1)
def rF (d:Db)(j:Nat)(t:eC)(R:Int×bp):Db:=if R.1=0 then zZ d j t R.2 else d
section
variable {H:Heap}{now nid:Int}{n:Nat}{xs:G'}{r:RL}{d:Db}{b j:Nat}{t:eC}
def ou.Qn {g q p k:D'}{o h e l f m r i:Nat}{c:ByteArray}{s:bp}(a:ou H now nid n xs d)(B:d.tabs[j]?=some t)(A:aV H c g o h q e l p f m k r i s):
  ou H now nid n (av xs (j*6+0) [ΦT c,S g o h,S q e l,S p f m,S k r i]) (zZ d j t s)/\j*6+0+5<=xs.length:=by
 obtain⟨y,rfl⟩:=aap.1 B;obtain⟨F,⟨x,Q,E,T,B2,R,K,P,G,X,Z,k4,Y,D,z,v,rfl,w⟩,-,b⟩:=a.row.vJ _;have u:xs.length=d.tabs.length*6:=a.row.length;refine⟨⟨a.now,a.nid,by rw[zZ,abd];exact a.len,?_⟩,by omega⟩;exact b (ah H) 0 _ _ (by show 0+5<=6;simp) ⟨c,g,o,h,q,e,l,p,f,m,k,r,i,D,z,v,rfl,A,w.vs⟩
def Ex {c:cz}(f:ou H now nid n xs d)(q:d.tabs[j]?=some t)(p:Lt d.now d.nid)(hv:t.sch.vers.length<=1000000)(w:str c.name)(s:ae .i64 c.kind):
  ZD 134 [.me,.lx 2 (j*6),.v (.agg ⟨[Φi c.id,ΦT c.name,Φi c.kind]⟩)] 30 (JQ now nid n xs r) H ux (Eu b) gL (ow (rF d j t (Ew d.now t c)) r (Ew d.now t c).1):=by
 obtain⟨i,l⟩:=aap.1 q;have y:=f.now;have R:=f.nid;have e3:=f.len;have Q:=p.n0;have n1:=p.n1;have k:oI (JQ now nid n xs r) [.me,.lx 2 (j*6),.v (.agg ⟨[Φi c.id,ΦT c.name,Φi c.kind]⟩)]:=⟨by show 0<n;omega,trivial⟩;refine uL 0 0 (aj [] [(1,fz)] []) (λ a=>∀b:Nat,ΦR (now+1)/\let d:=λ d e (f g:Nat) h (i k:Nat) l (m o:Nat) p (q s:Nat)=>C YO 207 [ΦG [ΦT d,S e f g,S h i k,S l m o,S p q s],ΦG [I c.id,ΦT c.name,I c.kind],I (now+1)] H λ t u v w x y z a0 a1 a2 a3 a4 a5 a6 a7=>J (a7=0) (j*6+0+5<=L xs/\b=b/\a now nid n (av xs (j*6+0) [ΦT u,S v w x,S y z a0,S a1 a2 a3,S a4 a5 a6]) r.hor r.hA r.hn r.hc r.cA r.cn r.cc a7 t ux) (b=b/\a now nid n xs r.hor r.hA r.hn r.hc r.cA r.cn r.cc a7 t ux);ΦF XP xs (j*6+0) 5 (λ e f g h i k l m o p q s t=>d e f g h i k l m o p q s t/\d e f g h i k l m o p q s t)/\ΦF XP xs (j*6+0) 5 λ e f g h i k l m o p q s t=>d e f g h i k l m o p q s t) k ?_;dsimp only[aQ,aR,eQ,C,ΦF,L,ΦR,J];intro a0;obtain⟨M,⟨B,G,m1,T,A2,D,W,A3,E,X,V,m4,U,P,m5,Z,rfl,m⟩,h,-⟩:=f.row.vJ i;rw[l]at m;have o:=h 0 5 (by decide);subst y;refine⟨by omega,⟨_,_,_,_,_,_,_,_,_,_,_,_,_,o,?_,?_⟩,_,_,_,_,_,_,_,_,_,_,_,_,_,o,?_⟩;all_goals
  refine⟨_,vm (x:=d.now+1) m.sch w s (by omega) (by omega),?_⟩;rintro H2 g u B1 A N B2 k2 f2 Y O f3 B4 k4 f4 F ⟨z,rfl⟩;have a:=(f.mono g).Qn q z;refine⟨λ e=>⟨a.2,rfl,?_⟩,λ e=>⟨rfl,?_⟩⟩
  .have e:=aab e;rw[rF,if_pos (show(Ew _ t c).1=0 from e)];exact⟨a.1,rfl,rfl,rfl⟩
  .have e:=aac e;rw[rF,if_neg (show¬(Ew _ t c).1=0 from e)];exact⟨f.mono g,rfl,rfl,rfl⟩
def Bt {id:Int}(f:ou H now nid n xs d)(X:d.tabs[j]?=some t)(hn:Lt d.now d.nid)(hv:t.sch.vers.length<=1000000)(a3:n<=1000):
  ZD 135 [.me,.lx 2 (j*6),.v (.int .i64 id)] 30 (JQ now nid n xs r) H ux (Eu b) gL (ow (rF d j t (sR d.now d.tabs t id)) r (sR d.now d.tabs t id).1):=by
 obtain⟨B,P⟩:=aap.1 X;have e1:=f.now;have e2:=f.nid;have e3:=f.len;have n0:=hn.n0;have n1:=hn.n1;have M:oI (JQ now nid n xs r) [.me,.lx 2 (j*6),.v (.int .i64 id)]:=⟨by show 0<n;omega,trivial⟩;refine uL 0 0 (aj [59] [(1,fz),(10,ab 2 6 [15,16,18,20,22,24,27,28,0])] [(5,[ag 35]),(8,[ag 43])]) (λ a=>∀b:Nat,ΦR (now+1)/\let c:=λ c d (e f:Nat) g (h i:Nat) k (l m:Nat) o (p q:Nat)=>C YO 208 [ΦG [ΦT c,S d e f,S g h i,S k l m,S o p q],I id,I (now+1)] H λ s t u v w x y z a0 a1 a2 a3 a4 a5 a6=>V (a6=0) (b=b/\a now nid n xs r.hor r.hA r.hn r.hc r.cA r.cn r.cc a6 s ux) (W ZE s (λ a7=>a7 0 s) (λ a7 a8 a9 b0=>J (b0<O n) (ΦY b0 n (ΦF XM xs (N b0*6) 6 (λ b1 b2 b3 b4 b5 b6 b7 b8 b9 c0 c1 c2 c3 c4 c5 c6=>W ZE a9 (λ c7=>c7 0 a9) λ c7 c8 c9 d0=>let d1:=λ(d1:Int) d2 d3 d4=>ΦR (d1+1)/\d2 (d1+1) d3/\d4 (d1+1)<d4 d1;J (d0<O b9) (ΦX b8 d0 b9 (ΦE Xu c9 b8 (N d0*3) (λ d2 d3 d4 d5 d6 d7 d8=>ΦF Xr xs (j*6+0+0) 1 λ d9=>J (d5=d9) (C ZO 209 [S d6 d7 d8,I id] c9 (λ e0 e1=>ΦQ e1 (b=b/\a now nid n xs r.hor r.hA r.hn r.hc r.cA r.cn r.cc 18 e0 ux) (d1 d0 c7 e0 c8))) (d1 d0 c7 c9 c8)))) (d1 b0 a7 c9 a8)))) (j*6+0+5<=L xs/\b=b/\a now nid n (av xs (j*6+0) [ΦT t,S u v w,S x y z,S a0 a1 a2,S a3 a4 a5]) r.hor r.hA r.hn r.hc r.cA r.cn r.cc 0 a9 ux)));ΦF XP xs (j*6+0) 5 (λ d e f g h i k l m o p q s=>c d e f g h i k l m o p q s/\c d e f g h i k l m o p q s)/\ΦF XP xs (j*6+0) 5 λ d e f g h i k l m o p q s=>c d e f g h i k l m o p q s) M ?_;dsimp only[PL,aQ,aR,aW,eQ,C,ΦE,ΦF,L,N,ΦQ,ΦR,W,ΦX,ΦY,O,V,J];intro a0;obtain⟨vs,⟨nm,A1,m1,c1,A2,m2,c2,A3,m3,c3,A4,m4,c4,A5,m5,c5,rfl,F⟩,g,-⟩:=f.row.vJ B;rw[P]at F;have w5:=g 0 5 (by decide);have w1:=g 0 1 (by decide);have q:=F.sch.name;subst e1;refine⟨by omega,⟨_,_,_,_,_,_,_,_,_,_,_,_,_,w5,?_,?_⟩,_,_,_,_,_,_,_,_,_,_,_,_,_,w5,?_⟩;all_goals
  refine⟨_,ue (x:=d.now+1) F.sch (by omega) (by omega),?_⟩;rintro H2 s a1 B1 k1 f1 B2 k2 f2 B3 k3 f3 B4 k4 f4 er ⟨hS,rfl⟩;refine⟨λ o=>⟨rfl,?_⟩,λ o=>?_⟩
  .have o:=aac (oL o);have A:sR d.now d.tabs t id=((bN t.sch id (d.now+1)).2,kr):=if_pos o;rw[A,rF,if_neg o];exact⟨f.mono s,rfl,rfl,rfl⟩
  have o:=aab (np o);have A:sR d.now d.tabs t id=if gm d.tabs t.sch.name id=true then(18,kr)else(0,(bN t.sch id (d.now+1)).1):=if_neg (by omega);refine⟨λ i _=>0<=i/\i<=n/\gm d.tabs t.sch.name id=gm (d.tabs.drop i.toNat) t.sch.name id,λ i=>n-i.toNat,⟨by omega,by omega,rfl⟩,?_⟩;rintro H3 a i ⟨Y,i1,w⟩;dsimp only;simp only[aad,aaf];have a:=aa s a;refine⟨λ E=>?_,λ R=>?_⟩
  .have y:i.toNat<d.tabs.length:=by omega
   obtain⟨us,⟨a2,D1,q1,g1,D2,q2,g2,D3,p,g3,D4,q4,g4,D5,q5,g5,rfl,hU⟩,m,-⟩:=(f.row.mono a).vJ y;have w6:=m 0 6 (by decide);rw[ak Y y,Hq]at w;have G:=hU.sch.fks;have s2:=G.len;have s3:=G.bn;refine⟨Y,E,_,_,_,_,_,_,_,_,_,_,_,_,_,_,_,_,w6,?_⟩;refine⟨λ k _=>0<=k/\k<=p/\d.tabs[i.toNat].sch.fks.any (mY t.sch.name id)=(d.tabs[i.toNat].sch.fks.drop k.toNat).any (mY t.sch.name id),λ k=>p-k.toNat,⟨by omega,by omega,rfl⟩,?_⟩;rintro H4 u k ⟨U,k1,z⟩;dsimp only;refine⟨λ c=>?_,λ c=>?_⟩
   .obtain⟨h5,hA,_,T,E1,p1,o1,E2,p2,o2,rfl,v1,v2,v3⟩:=G.at u U c;rw[ak U h5,aaS]at z;generalize d.tabs[i.toNat].sch.fks[k.toNat]=Z at*;have go:mY t.sch.name id Z=false->ae .i64 (k+1)/\(0<=k+1/\k+1<=p/\d.tabs[i.toNat].sch.fks.any (mY t.sch.name id)=(d.tabs[i.toNat].sch.fks.drop (k+1).toNat).any (mY t.sch.name id))/\p-(k+1).toNat<p-k.toNat:=λ h=>by
     grind
    refine⟨hA,U,c,_,_,_,_,_,_,_,T,_,w1,λ l=>⟨_,hI v3,?_⟩,λ l=>go ?_⟩
    .rintro H6 Q _ rfl;refine⟨λ D=>⟨trivial,?_⟩,λ D=>go ?_⟩
     .have:mY t.sch.name id Z=true:=by rw[mY,<-q,aau l,D];rfl
      rw[this,abE]at z;rw[z,abE]at w;rw[A,if_pos w,rF,if_neg (by simp)];exact⟨f.mono (aa a (aa u Q)),rfl,rfl,rfl⟩
     .rw[mY,D,acT]
    .rw[mY,<-q,aao l];rfl
   .rw[ai c s2]at z;grind
  .rw[ai (n:=n) R e3.symm]at w;have e:=(f.mono a).Qn X (hS.mono (by grind));rw[A,if_neg (by rw[w];simp[gm])];exact⟨e.2,trivial,e.1,rfl,rfl,rfl⟩
end
end
section
variable {a:Heap}{b:ByteArray}
def JT {n r c:Nat}{A:D'}{d b:G'}(i:(n+1)*136<=140737488355328)(f:b.length=6)(h:Cells a A 0 b)(e:1<=c):
  ZC 196 [.slice none 0 0,Φi n,S A 1 c] 0 53 n d false a ⟨false,[(false,[.row r 53])]⟩ (λ _ m g _=>m=n+1/\g=d++b):=by
 refine RY 0 {aj [67] [(11,[2,4,6,8,12,14,16,11,19,0]),(15,ab 2 8 [19,0])] []with kb:=ir [22] [16]} (λ b=>let c:=(↑n:Int);0<=c/\c<=O n/\O n<=O n/\decide (O 1=0)=false/\decide (c=O n)=true/\∃e:G',Cells a A 0 e/\L e=1*6/\(n+1)*136<=M/\b (n+1) (d++e) a) ?_;dsimp only[L,M,O];grind
def Ey (a b:ByteArray):Prop:=Op.bytesLess a.toList b.toList=true
def Aa:ZB 255 [ΦT b] a fg (λ r _=>r=false):=by
 refine ΦK 0 bE (λ c=>c (!decide (b=b)) a) ?_;simp
def Ez {y:ByteArray}(h:Ey b y):ZB 195 [ΦT b,ΦT y] a gL (λ r _=>r= -1):=by
 refine ΦK 0 (aj [8,10] [] []) (λ c=>C ZO 255 [ΦT b] a λ d e=>C ZO 255 [ΦT y] d λ f g=>ΦQ e (ΦQ g (c 0 f) (c (-1) f)) (ΦQ g (c 1 f) (ΦQ (Op.bytesLess (ByteArray.toList b) (ByteArray.toList y)) (c (-1) f) False))) ?_;dsimp only[aQ,aR,C,ΦQ];refine⟨_,Aa,?_⟩;rintro e _ _ rfl;refine⟨_,Aa,?_⟩;rintro d _ _ rfl;exact⟨λ h=>(by simp),λ _=>⟨λ h=>(by grind),λ _=>⟨λ _=>rfl,λ c=>(by rw[h]at c;grind)⟩⟩⟩
def JU {c:G'}{t:eC}(e:Rep.rel a c t)(d:Ey t.sch.name b):ZB 194 [.agg ⟨c⟩,ΦT b] a gL (λ r _=>r= -1):=by
 obtain⟨f,k,w,m,v,y,p,u,i,q,o,j,n,l,g,s,rfl,h⟩:=e;rw[<-h.sch.name]at d;refine ΦK 0 (aj [9] [] []) (λ c=>C ZP 195 [ΦT f,ΦT b] a λ d e=>c e d) ?_;dsimp only[aQ,aR,C];exact⟨_,Ez d,λ _ _ _ h=>h⟩
def Uh {A:D'}{n c:Nat}{m:List eC}{x:ByteArray}(k:Sl a A n c m)(q:∀t∈m,Ey t.sch.name x):
  ZB 193 [S A n c,ΦT x,.func (.func 194) #[] #[]] a ⟨true,[(false,[.int .i64]),(false,[.bool])]⟩ (λ r _ _=>r=n):=by
 refine ΦK 0 (aj [30,46] [] [(3,[ag 9,ag 10])]) (λ b=>W ZK a (λ c=>c 0 (O n) a) λ c d e f g=>J (f<g) (ΦR (f+g)/\(∃h:Int,IntKind.wrap IntKind.u64 (f+g)=h/\(1:Int)=1/\∃i:Int,IntKind.wrap IntKind.i64 (Int.fdiv h 2)=i/\ΦX A i n (ΦE XM e A (N i*6) (λ j k l m o p q r s t u v w y z a0=>C ZP 194 [ΦG [ΦT j,S k l m,S o p q,S r s t,S u v w,S y z a0],ΦT x] e λ a1 a2=>J (a2<0) (ΦR (i+1)/\c (i+1) g a1/\d (i+1) g<d f g) (c f i a1/\d f i<d f g))))) (J (f<O n) (ΦX A f n (ΦE XM e A (N f*6) (λ h i j k l m o p q r s t u v w y=>C ZP 194 [ΦG [ΦT h,S i j k,S l m o,S p q r,S s t u,S v w y],ΦT x] e λ z a0=>b f (decide (a0=0)) z))) (b f false e))) ?_;dsimp only[PL,aQ,aR,aW,eQ,C,ΦE,N,ΦR,W,ΦX,O,J];have R:=k.len;have B:=k.bn;refine⟨λ i j _=>0<=i/\i<=n/\j=n,λ i j=>(j-i).toNat,⟨by omega,by omega,rfl⟩,?_⟩;rintro M l i j ⟨G,U,rfl⟩;dsimp only;simp only[aad,aaf];refine⟨λ o=>⟨by omega,_,rfl,trivial,_,rfl,?_⟩,λ g=>⟨λ h=>absurd h g,λ _=>(by omega)⟩⟩;rw[sG (by omega) (by omega)];have d:0<=(i+n)/2:=by omega
 have e:(i+(n))/2<n:=by omega
 obtain⟨T,p,_,s,b⟩:=k.at l d e;have f:=JU b (q _ (aan _));obtain⟨u,z,X,F,Y,D,I,V,w,P,L,y,Z,E,v,Q,rfl,-⟩:=b;refine⟨p,d,e,_,_,_,_,_,_,_,_,_,_,_,_,_,_,_,_,s,_,f,?_⟩;grind
def Hr {a:List eC}(h:∀t∈a,t.sch.name≠b):cO b a= -1:=by
 have c:∀(a:List eC) (i:Int),(∀t∈a,t.sch.name≠b)->idxOf (λ t=>decide (t.sch.name=b)) i a= -1:=by
  intro a;induction a with
  | nil=>intro i _;rfl
  | cons t r d=>intro i h;rw[idxOf];grind
 exact c _ 0 h
def Lx {c:ByteArray}(h:Ey b c):b≠c:=by
 have:∀l:List _,Op.bytesLess l l=false:=by
  intro l;induction l with
  | nil=>rfl
  | cons x r d=>simp[Op.bytesLess,d]
 rw[Ey]at h;grind
end
section
variable {a:Nat}{g:Int}
def wV {T:Type}{p:T->Bool}:∀{l:List T} {i:Int} {c:T},l.find? p=some c->∃(j:Nat) (a:j<l.length),idxOf p i l=i+j/\l[j]=c
 |[],_,_,h=>by grind
 | x::l,i,c,h=>by
  rw[abG]at h;split at h
  .rename_i b;cases h;exact⟨0,by simp,by rw[idxOf,if_pos b];simp,rfl⟩
  .obtain⟨j,a,e,d⟩:=wV (i:=i+1) h;exact⟨j+1,by grind,by rw[idxOf,if_neg (by grind)];omega,by grind⟩
def JV {H:Heap}(d:Cells H (some ⟨a,0,none⟩) 0 [Φi g]):Ea H 334 (.pointer (some ⟨a,0,none⟩)) (λ c=>decide (c.id=g)):=by
 intro e c b;refine ΦK 0 bE (λ b=>ΦE ZE e (some ⟨a,0,none⟩) 0 λ d=>b (decide (c.id=d)) e) ?_;dsimp only[eQ,ΦE];exact⟨g,d.mono b,rfl⟩
def CJ {H:Heap}{A:D'}{c:Nat}{l:List cz}{b x:Int}{y:cz}(e:Sl H A a c l)(q:l.find? (λ c=>decide (c.id=x))=some y):
  ZB 254 [.agg ⟨[Φi g,Φi b,S A a c]⟩,Φi x] H ⟨true,[(true,[.int .i64,.str,.int .i64]),(false,[.bool])]⟩ (λ _ _ k p _=>k=y.kind/\p=true):=by
 refine ΦK 0 (aj [10] [] []) (λ b=>∃d:Int->Heap->Prop,(∀(e:Nat)(f:Heap),Heap.le H f->Cells f (some ⟨e,0,none⟩) 0 [I x]->af Tryz.prog 333 [S A a c,.func (.func 334) ⟨[]⟩ ⟨[.pointer (some ⟨e,0,none⟩)]⟩] f ⟨false,[(false,[.int .i64])]⟩ d)/\∀(e:Heap)(f:Int),d f e->J (f<0) (b 0 ⟨⟨[]⟩⟩ 0 false H) (ΦX A f a (ΦE Xq H A (N f*3) (λ g h i=>b g h i true H)))) ?_;dsimp only[eQ,ΦE,N,ΦX,J];obtain⟨j,C,s,v⟩:=wV (i:=0) q;have w:=e.len;refine⟨λ r _=>r=idxOf _ 0 l,λ d B f m=>je (e.mono f) (JV m),?_⟩;rintro u r rfl;rw[s];refine⟨λ h=>(by grind),λ _=>?_⟩;obtain⟨z,o,_,t,rfl,-⟩:=e.at (i:=(0)+j) (ah H) (by simp) (by omega);refine⟨o,by simp,by omega,_,_,_,t,?_,rfl⟩;grind
structure C1 (s:bp)(x:Int):Prop where
 c:∃y,((cY x s.vers).getD og).cols.find? (λ c=>decide (c.id=1))=some y/\y.kind=1
 k:(br s x)[0]?=some 1
structure VL (ts:List eC)(s:bp)(f:nz)(x:Int):Prop where
 cols:f.cols=[1]
 refs:f.refs=[1]
 own:C1 s x
 par:f.table=s.name\/∃(k:Nat) (t:eC),cO f.table ts=k/\ts[k]?=some t/\C1 t.sch x
section
variable {H:Heap}{now nid:Int}{n:Nat}{xs:G'}{r:RL}{d:Db}{b:Nat}{nm:ByteArray}{A:D'}{m c:Nat}{B:D'}{m2 c2:Nat}{E:D'}{k e:Nat}{F:D'}{l f:Nat}{s:bp}
def JW {X Y:D'}{xc yn yc:Nat}{u:ByteArray}{Q:nz}(hd:ou H now nid n xs d)(Z:aV H nm A m c B m2 c2 E k e F l f s)(hX:Sl H X a xc Q.cols)(hY:Sl H Y yn yc Q.refs)(hu:u=Q.table)(hf:VL d.tabs s Q g)(b8:n<=1000):
  ZD 192 [.me,.v (.agg ⟨[ΦT nm,S A m c,S B m2 c2,S E k e,S F l f]⟩),.v (.agg ⟨[S X a xc,ΦT u,S Y yn yc]⟩),.v (Φi g)] 30 (JQ now nid n xs r) H ux (Eu b) gL (ow d r 0):=by
 obtain⟨fc,fr,G,a1⟩:=hf;rw[fc]at hX;rw[fr]at hY;have e3:=hd.len;have x1:a=1:=by simpa using hX.len.symm
 have y1:yn=1:=by simpa using hY.len.symm
 have a2:=Z.name;obtain⟨oy,o1,o2⟩:=G.c;subst x1 y1 hu;refine uL 0 0 (aj [32] [(3,[2,4,6,8,10,13,14,0]),(13,lb)] [(10,[ag 58])]) (λ a=>∀b:Nat,let d:=λ d (h i:Int) j (o p:Nat)(q s:Int) t (u v:Nat)=>W ZE d (λ w=>w 0 d) λ w x y z=>J (z<O 1) (ΦX Y z 1 (ΦE ZE y Y (N z*1) (λ a0=>C YP 254 [ΦG [I h,I i,S j o p],I a0] y λ a1 a2 a3 a4 a5=>ΦX X z 1 (ΦE ZE a1 X (N z*1) (λ a6=>let a7:=C YP 254 [ΦG [I q,I s,S t u v],I a6] a1 λ a7 a8 a9 b0 b1=>let b2:=b=b/\a now nid n xs r.hor r.hA r.hn r.hc r.cA r.cn r.cc 7 a7 ux;ΦQ (!a5) b2 (ΦQ (!b1) b2 (V (a4=b0) b2 (ΦR (z+1)/\w (z+1) a7/\x (z+1)<x z)));a7/\a7))))) (b=b/\a now nid n xs r.hor r.hA r.hn r.hc r.cA r.cn r.cc 0 y ux);let h:=[ΦG [ΦT nm,S A m c,S B m2 c2,S E k e,S F l f],I g];V (Q.table=nm) (∃i:Int->Heap->Prop,U H xs n (λ j o p=>af Tryz.prog 16 [ΦG [I now,I nid,S j n o,I r.hor,S r.hA r.hn r.hc,S r.cA r.cn r.cc],ΦT Q.table] p ⟨false,[(false,[.int .i64])]⟩ i)/\∀(j:Heap)(o:Int),i o j->J (o<0) (b=b/\a now nid n xs r.hor r.hA r.hn r.hc r.cA r.cn r.cc 8 H ux) (ΦY o n (ΦF XP xs (N o*6+0) 5 (λ p q s t u v w x y z a0 a1 a2=>C YK 33 h H λ a3 a4 a5 a6 a7 a8 a9=>C YK 33 [ΦG [ΦT p,S q s t,S u v w,S x y z,S a0 a1 a2],I g] a3 λ b0 b1 b2 b3 b4 b5 b6=>d b0 b1 b2 b3 b4 b5 a4 a5 a6 a7 a8)))) (C YK 33 h H (λ i j o p q s t=>C YK 33 h i λ u v w x y z a0=>d u v w x y z j o p q s))) trivial ?_;dsimp only[PL,aQ,aR,aW,eQ,C,ΦE,ΦF,N,ΦQ,ΦR,W,ΦX,ΦY,O,V,J];intro a0;refine⟨λ q=>?_,λ b6=>?_⟩
 focus
  have q:=aac (oL q);rw[a2]at q;obtain⟨p,t,hp,ht,hC⟩:=a1.resolve_left q;obtain⟨pl,a8⟩:=aap.1 ht;obtain⟨py,p1,p2⟩:=hC.c;refine⟨λ r _=>r=cO Q.table d.tabs,λ A2 d2 H2 a7 a3 b0=>qY (hd.row.sl a7 a3 e3.symm b0 (by show n*136<=_;omega) (by omega)),?_⟩;rintro H3 r3 rfl;rw[hp];refine⟨λ h=>(by have:=aab h;omega),λ _=>⟨by omega,by omega,?_⟩⟩;obtain⟨vs,⟨b1,A1,q1,g1,A2,q2,g2,A3,q3,g3,A4,q4,g4,A5,q5,g5,rfl,hT⟩,R,-⟩:=hd.row.vJ pl;rw[a8]at hT;have w5:=R 0 5 (by decide);rw[aaV];refine⟨_,_,_,_,_,_,_,_,_,_,_,_,_,w5,_,kF Z,?_⟩;rintro H4 w a4 b4 O4 n4 c4 a6 ⟨-,-,-,oc,y,T⟩;refine⟨_,kF (hT.sch.mono w),?_⟩;rintro H5 D a5 b5 P5 n5 c5 a9 ⟨-,-,-,pc,M,j⟩;have j:((cY g t.sch.vers).getD og).cols=pc:=by rw[<-j]
  rw[j]at p1
 rotate_left
 focus
  obtain⟨py,p1,p2⟩:=G.c;refine⟨_,kF Z,?_⟩;rintro H4 w a4 b4 O4 n4 c4 a6 ⟨-,-,-,oc,y,T⟩;refine⟨_,kF (Z.mono w),?_⟩;rintro H5 D a5 b5 P5 n5 c5 a9 ⟨-,-,-,pc,M,j⟩;have j:((cY g s.vers).getD og).cols=pc:=by rw[<-j]
  rw[j]at p1
 all_goals
  have T:((cY g s.vers).getD og).cols=oc:=by rw[<-T]
  rw[T]at o1;have L:=aa w D;have y:=y.mono D;refine⟨λ i _=>0<=i/\i<=1,λ i=>1-i.toNat,⟨by simp,by simp⟩,?_⟩;rintro H6 z i ⟨i0,i1⟩;simp only[aad,aaf];have o:=aa L z;refine⟨λ b2=>?_,λ b7=>⟨trivial,hd.mono o,rfl,rfl,rfl⟩⟩;have hi:i=0:=by omega
  subst hi;obtain⟨u1,gA,_,gc,rfl,-⟩:=hY.at (i:=0) o (by simp) (by simp);obtain⟨u2,hA,_,hc,rfl,-⟩:=hX.at (i:=0) o (by simp) (by simp);refine⟨gA,by simp,by simp,_,gc,_,CJ (M.mono z) p1,?_⟩;rintro H7 P i7 n7 k7 b3 ⟨rfl,rfl⟩;refine⟨hA,by simp,by simp,_,hc.mono P,?_,?_⟩;all_goals
   refine⟨_,CJ (y.mono (aa z P)) o1,?_⟩;grind
end
end
section
structure WN (d:Db)(s s':bp):Prop where
 sch:bt s (d.now+1)=(s',0)
 Bp:d.tabs.length<16
 lt:∀t∈d.tabs,Ey t.sch.name s'.name
 fk:∀f∈s'.fks,VL d.tabs s' f (d.now+1)
def Hs (d:Db)(s':bp):Db:=⟨d.now,d.nid,d.tabs++[⟨s',[]⟩]⟩
section
variable {H:Heap}{now nid:Int}{n:Nat}{xs:G'}{r:RL}{d:Db}{b:Nat}{nm:ByteArray}{A:D'}{m c:Nat}{B:D'}{m2 c2:Nat}{E:D'}{k e:Nat}{F:D'}{l f:Nat}{s s':bp}
def NA (R:ou H now nid n xs d)(hs:aV H nm A m c B m2 c2 E k e F l f s)(w:Lt d.now d.nid)(z:WN d s s'):
  ZD 130 [.me,.v (.agg ⟨[ΦT nm,S A m c,S B m2 c2,S E k e,S F l f]⟩)] 30 (JQ now nid n xs r) H ux (Eu b) gL (ow (Hs d s') r 0):=by
 obtain⟨G,d0,g,a5⟩:=z;have e1:=R.now;have e3:=R.len;have n0:=w.n0;have n1:=w.n1;refine uL 0 3 {aj [33,53,65] [(5,[2,4,6,8,10,13,14,16,0]),(16,ab 2 6 [15,16,18,20,22,24,0]),(17,ab 2 8 [19,21,22,24,27,0])] [(10,[ag 45,.box 83 30 [.int .i64,.int .i64,.row 82 53,.int .i64,.sl,.sl]])]with res:=wj [(77,⟨false,[(false,[.row 81 53])]⟩)],mt:=ir [] [196],bx:=λ | some 53,192=>some [.int .i64,.int .i64,.row 80 53,.int .i64,.sl,.sl] | _,_=>none} (λ a=>∀b:Nat,ΦR (now+1)/\C YO 191 [ΦG [ΦT nm,S A m c,S B m2 c2,S E k e,S F l f],I (now+1)] H λ d g h i j o p q s t u v w x y=>V (y=0) (b=b/\a now nid n xs r.hor r.hA r.hn r.hc r.cA r.cn r.cc y d ux) (∃z:Int->Heap->Prop,U d xs n (λ a0 a1 a2=>af Tryz.prog 16 [ΦG [I now,I nid,S a0 n a1,I r.hor,S r.hA r.hn r.hc,S r.cA r.cn r.cc],ΦT g] a2 ⟨false,[(false,[.int .i64])]⟩ z)/\∀(a0:Heap)(a1:Int),z a1 a0->J (0<=a1) (b=b/\a now nid n xs r.hor r.hA r.hn r.hc r.cA r.cn r.cc 9 d ux) (J (16<=O n) (b=b/\a now nid n xs r.hor r.hA r.hn r.hc r.cA r.cn r.cc 12 d ux) (W XT d (λ a2=>a2 0 now nid n xs r.hor r.hA r.hn r.hc r.cA r.cn r.cc d) (λ a2 a3 a4 a5 a6 a7 a8 a9 b0 b1 b2 b3 b4 b5 b6=>J (a5<O t) (ΦX s a5 t (ΦE Xu a4 s (N a5*3) (λ b7 b8 b9 c0 c1 c3 c4=>tS XU ZP 192 [BA.me,BA.v (ΦG [ΦT g,S h i j,S o p q,S s t u,S v w x]),BA.v (ΦG [S b7 b8 b9,ΦT c0,S c1 c3 c4]),BA.v (I (now+1))] 30 [BC.v (I a6),BC.v (I a7),BC.row 53 a8 a9,BC.v (I b0),BC.v (S b1 b2 b3),BC.v (S b4 b5 b6)] a4 ux λ c5 c6 c7 c8 c9 d0 d1 d2 d3 d4 d5 d6 d7 d8=>V (d8=0) (b=b/\a c7 c8 c9 d0 d1 d2 d3 d4 d5 d6 d7 d8 c5 c6) (ΦR (a5+1)/\a2 (a5+1) c7 c8 c9 d0 d1 d2 d3 d4 d5 d6 d7 c5/\a3 (a5+1) c7 c8 c9 d0 d1 d2 d3 d4 d5 d6 d7<a3 a5 a6 a7 a8 a9 b0 b1 b2 b3 b4 b5 b6)))) (∃b7:Int->Bool->Heap->Prop,U a4 a9 a8 (λ b8 b9 c0=>af Tryz.prog 193 [S b8 a8 b9,ΦT g,.func (.func 194) ⟨[]⟩ ⟨[]⟩] c0 ⟨true,[(false,[.int .i64]),(false,[.bool])]⟩ b7)/\∀(b8:Heap)(b9:Int)(c0:Bool),b7 b9 c0 b8->U a4 [ΦT g,S h i j,S o p q,S s t u,S v w x,S none 0 0] 1 λ c1 c3 c4=>ZZ YQ 196 [S none 0 0,I b9,S c1 1 c3] 0 53 a8 a9 false c4 λ c5 c6 c7 c8=>b=b/\a a6 a7 c7 c8 b0 b1 b2 b3 b4 b5 b6 0 c5 ux)))))) trivial ?_;dsimp only[PL,aQ,aR,aW,eQ,C,tS,ZZ,ΦE,N,ΦR,W,ΦX,O,V,J];intro a0;subst e1;refine⟨by omega,_,Bk hs,?_⟩;rintro H1 y T A1 b6 c1 A2 Q c0 A3 n3 c3 A4 n4 c4 er ⟨p,rfl⟩;rw[G]at p;dsimp only at p;simp only[G];refine⟨λ h=>(by simp at h),λ _=>?_⟩;refine⟨λ r _=>r=cO s'.name d.tabs,λ A5 c5 H2 a3 a1 a9=>?_,?_⟩
 .rw[p.name];exact qY ((R.row.mono y).sl a3 a1 e3.symm a9 (by show n*136<=_;omega) (by omega))
 rintro H2 r2 rfl;rw[Hr λ t ht=>Lx (g t ht)];refine⟨λ h=>(by grind),λ _=>⟨λ h=>(by grind),λ _=>?_⟩⟩;have s3:=p.fks.bn;refine⟨λ i j o Q D q Y w z cA cn X H'=>0<=i/\i<=n3/\ou H' j o Q D d/\(⟨q,Y,w,z,cA,cn,X⟩)=r,λ i _ _ _ _ _ _ _ _ _ _ _=>n3-i.toNat,⟨by simp,by simp,R.mono y,rfl⟩,?_⟩;rintro H3 u i j o Q D q Y w z cA cn X ⟨i0,i1,a,hr⟩;have e4:=a.now;have e5:=a.len;simp only[aad,aaf];refine⟨λ g=>?_,λ d4=>?_⟩
 .obtain⟨h5,hX,_,a7,E1,p1,o1,E2,p2,o2,rfl,v1,v2,v3⟩:=p.fks.at u i0 g;have hf:=a5 _ (aan h5);refine⟨hX,i0,g,_,_,_,_,_,_,_,a7,_,JW (r:=⟨q,Y,w,z,cA,cn,X⟩) a (p.mono u) v1 v3 rfl hf (by omega),?_⟩;rintro H4 L O4 b0 b2 d5 b5 b1 d1 c7 c9 b9 d3 b8 d2 ⟨b3,c8,rfl,rfl⟩;grind
 .refine⟨_,λ A5 c5 H4 L Z a6=>Uh (x:=T) ((a.row.sl L Z e5.symm a6 (by show Q*136<=_;omega) (by omega))) (by rw[p.name];grind),?_⟩;rintro H4 _ b4 rfl;rintro A6 c6 H6 M a2 a4;refine⟨_,JT (by omega) rfl a2 a4,?_⟩;rintro H7 P ys m7 b7 ⟨rfl,rfl⟩;have a8:=p.mono (aa u (aa M P));refine⟨trivial,⟨e4,a.nid,by rw[Hs,aae,e5];rfl,?_⟩,hr,rfl,rfl⟩;exact(a.row.mono (aa M P)).append (Row.one (t:=(⟨s',[]⟩:eC)) ⟨_,_,_,_,_,_,_,_,_,_,_,_,_,_,_,_,rfl,a8,Sl.nil⟩)
end
end
section
def Bu {p:Prop}(h:p):p/\p:=⟨h,h⟩
section
variable {H:Heap}{nm:ByteArray}{A:D'}{n c:Nat}{B:D'}{m m2 c2 d:Nat}{E:D'}{k e:Nat}{F:D'}{l f:Nat}{s:bp}
def CK (b:aV H nm A m c B m2 c2 E k e F l f s):ZB 127 [.agg ⟨[ΦT nm,S A m c,S B m2 c2,S E k e,S F l f]⟩] H Jv (λ b3 A' m' c' B' b6 b4 E' k' e' F' l' f' d=>aV d b3 A' m' c' B' b6 b4 E' k' e' F' l' f' s):=by
 refine ΦK 9 (aj [] [(1,oj),(5,nZ),(10,oi),(15,nZ)] [(3,[ag 19,.box 3 44 [.str,.row 77 87,.sl,.row 78 68,.row 79 71]]),(8,[ag 38,.box 3 44 [.str,.row 80 87,.sl,.row 81 68,.row 82 71]]),(13,[ag 60,.box 3 44 [.str,.row 83 87,.sl,.row 84 68,.row 85 71]])]) (λ a=>let b:=C ZT 186 [S B m2 c2] H λ b c d e=>W Xx b (λ f=>f 0 nm 0 [] c d e 0 [] 0 [] b) λ f g h i j n o p q r s t u v=>J (i<O m) (ΦX A i m (ΦE Xs h A (N i*3) (λ w x y z a0=>C ZT 140 [S y z a0] h λ a1 a2 a3 a4=>(n+1)*40<=M/\ΦR (i+1)/\let a5:=o++[Value.int .i64 w,I x,S a2 a3 a4];f (i+1) j (n+1) a5 p q r s t u v a1/\g (i+1) j (n+1) a5 p q r s t u v<g i j n o p q r s t u v))) (W Xx h (λ w=>w 0 j n o p q r s t u v h) (λ w x y z a0 a1 a2 a3 a4 a5 a6 a7 a8 a9=>J (z<O k) (ΦX E z k (ΦE Xu y E (N z*3) (λ b0 b1 b2 b3 b4 b5 b6=>C ZT 186 [S b0 b1 b2] y λ b7 b8 b9 c0=>C ZT 186 [S b4 b5 b6] b7 λ c1 c3 c4 c5=>(a6+1)*64<=M/\ΦR (z+1)/\let c6:=a7++[Value.slice b8 b9 c0,ΦT b3,S c3 c4 c5];w (z+1) a0 a1 a2 a3 a4 a5 (a6+1) c6 a8 a9 c1/\x (z+1) a0 a1 a2 a3 a4 a5 (a6+1) c6 a8 a9<x z a0 a1 a2 a3 a4 a5 a6 a7 a8 a9))) (W Xx y (λ b0=>b0 0 a0 a1 a2 a3 a4 a5 a6 a7 a8 a9 y) (λ b0 b1 b2 b3 b4 b5 b6 b7 b8 b9 c0 c1 c3 c4=>J (b3<O l) (ΦX F b3 l (ΦE Xv b2 F (N b3*2) (λ c5 c6 c7 c8=>C ZT 186 [S c6 c7 c8] b2 λ c9 d0 d1 d2=>(c3+1)*32<=M/\ΦR (b3+1)/\let d3:=c4++[Value.int .i64 c5,S d0 d1 d2];b0 (b3+1) b4 b5 b6 b7 b8 b9 c0 c1 (c3+1) d3 c9/\b1 (b3+1) b4 b5 b6 b7 b8 b9 c0 c1 (c3+1) d3<b1 b3 b4 b5 b6 b7 b8 b9 c0 c1 c3 c4))) (U b2 b6 b5 (λ c5 c6 c7=>U c7 c1 c0 λ c8 c9 d0=>U d0 c4 c3 λ d1 d2 d3=>a b4 c5 b5 c6 b7 b8 b9 c8 c0 c9 d1 c3 d2 d3))))));b/\b) ?_;dsimp only[PL,aQ,aR,aW,eQ,C,ΦE,M,N,ΦR,W,ΦX,O,J];have v1:=b.vers.len;have v2:=b.vers.bn;have v3:=b.vers.bnd;have f1:=b.fks.len;have f2:=b.fks.bn;have f3:=b.fks.bnd;have k1:=b.csts.len;have k2:=b.csts.bn;have k3:=b.csts.bnd;refine Bu ⟨_,eF b.key,?_⟩;rintro H1 Y B1 n1 c1 hB;refine⟨λ i x p ys R L c2 q Q u z d=>0<=i/\i<=m/\nm=x/\i=p/\Row d ys (s.vers.take i.toNat)/\Sl d R L c2 s.key/\0=q/\[]=Q/\0=u/\[]=z,λ i _ _ _ _ _ _ _ _ _ _=>m-i.toNat,⟨by omega,by omega,rfl,rfl,rfl,hB,rfl,rfl,rfl,rfl⟩,?_⟩;rintro H2 a6 i x p ys R L c2 q Q u z ⟨i0,i1,rfl,ip,hr,X,rfl,rfl,rfl,rfl⟩;dsimp only;simp only[aad,aaf];refine⟨λ a=>?_,λ o=>?_⟩
 .obtain⟨hi,T,_,r,P,q1,o1,rfl,w1,w2,w3⟩:=b.vers.at (aa Y a6) i0 a;refine⟨T,i0,a,_,_,_,_,_,r,_,Cs w3,?_⟩;rintro H3 a1 P3 q3 o3 h3;refine⟨by have:m*40<=140737488355328:=v3;omega,by omega,⟨by omega,by omega,trivial,by omega,?_,X.mono a1,trivial,trivial,trivial,trivial⟩,by omega⟩;rw[bu i0 hi];exact(hr.mono a1).append (Row.one ⟨_,_,_,rfl,w1,w2,h3⟩)
 rw[ez o v1]at hr;refine⟨λ i x p' n R L c2 q Q u z d=>0<=i/\i<=k/\nm=x/\p=p'/\ys=n/\Row d ys s.vers/\Sl d R L c2 s.key/\i=q/\Row d Q (s.fks.take i.toNat)/\0=u/\[]=z,λ i _ _ _ _ _ _ _ _ _ _=>k-i.toNat,⟨by omega,by omega,rfl,rfl,rfl,hr,X,rfl,rfl,rfl,rfl⟩,?_⟩;rintro H4 b7 j x p' n A4 n4 c4 q Q u z ⟨j0,j1,rfl,rfl,rfl,b1,b0,jq,hf,rfl,rfl⟩;dsimp only;have D:=aa Y (aa a6 b7);refine⟨λ a=>?_,λ o=>?_⟩
 .obtain⟨hi,T,_,r,P,q1,o1,P2,q2,o2,rfl,w1,w2,w3⟩:=b.fks.at D j0 a;refine⟨T,j0,a,_,_,_,_,_,_,_,r,_,eF w1,?_⟩;rintro H5 b2 P5 q5 o5 h5;refine⟨_,eF (w3.mono b2),?_⟩;rintro H6 a8 P6 q6 o6 h6;have g:=aa b2 a8;refine⟨by have:k*64<=140737488355328:=f3;omega,by omega,⟨by omega,by omega,rfl,rfl,rfl,b1.mono g,b0.mono g,by omega,?_,rfl,rfl⟩,by omega⟩;rw[bu j0 hi];exact(hf.mono g).append (Row.one ⟨_,_,_,_,_,_,rfl,h5.mono a8,w2,h6⟩)
 rw[ez o f1]at hf;refine⟨λ i x p' n R L c2 q' a5 u z d=>0<=i/\i<=l/\nm=x/\p=p'/\ys=n/\Row d _ _/\Sl d R L c2 _/\q=q'/\Q=a5/\Row d _ _/\i=u/\Row d z (s.csts.take i.toNat),λ i _ _ _ _ _ _ _ _ _ _=>l-i.toNat,⟨by simp,by simp,rfl,rfl,rfl,b1,b0,rfl,rfl,hf,rfl,rfl⟩,?_⟩;rintro H7 b8 i x p' n A7 n7 c7 q' a5 u z ⟨G,c6,rfl,rfl,rfl,Z,a2,rfl,rfl,a4,iu,hk⟩;dsimp only;have a3:=aa D b8;refine⟨λ a=>?_,λ o=>?_⟩
 .obtain⟨hi,T,_,r,P,q1,o1,rfl,w1,w2⟩:=b.csts.at a3 G a;refine⟨T,G,a,_,_,_,_,r,_,eF w2,?_⟩;rintro H8 t P8 q8 o8 h8;refine⟨by have:l*32<=140737488355328:=k3;omega,by omega,⟨by omega,by omega,rfl,rfl,rfl,Z.mono t,a2.mono t,rfl,rfl,a4.mono t,by omega,?_⟩,by omega⟩;rw[bu G hi];exact(hk.mono t).append (Row.one ⟨_,_,_,rfl,w1,h8⟩)
 rw[ez o k1]at hk;intro A9 c9 H9 v b5 b9 c8 c3 d0 y a9 a7 c5 d1 c0 w a0 V;have h:=aa y w;exact⟨b.name,b.str,(Z.sl v b5 (by omega) b9 (by grind) (by omega)).mono h,a2.mono (aa v h),
  (a4.sl (aa v y) a9 (by omega) a7 (by grind) (by omega)).mono w,
  hk.sl (aa v h) a0 (by omega) V (by grind) (by omega)⟩
structure um (H:Heap)(now nid:Int)(A:D')(n c:Nat)(hn cn:Nat)(d:Db):Prop where
 now:now=d.now
 nid:nid=d.nid
 tabs:Sl H A n c d.tabs
 holds:hn=0
 cits:cn=0
def um.mono {H g:Heap}{b a:Int}{A:D'}{n c i f:Nat}{d:Db}(h:um H b a A n c i f d)(e:Heap.le H g):um g b a A n c i f d:=⟨h.now,h.nid,h.tabs.mono e,h.holds,h.cits⟩
def Ht {H:Heap}{A:D'}{c:Nat}:
  ZB 126 [S A 0 c] H fi (λ f a d e=>a=0):=by
 refine ΦK 0 bE (λ a=>ΦQ (Option.isNone A) (a none 0 0 H) (∃b:G',Cells H A 0 b/\L b=0*3/\(0+0)*24<=M/\U H ([]++b) (0+0) λ c d e=>a c (0+0) d e)) ?_;dsimp only[L,M,ΦQ];exact⟨λ b=>rfl,λ b=>⟨[],.inl rfl,rfl,by simp,λ _ _ _ _ _ _=>rfl⟩⟩
abbrev WO (q:Nat):cj:=⟨false,[(true,[.int .i64,.int .i64,.row q 53,.int .i64,.sl,.sl])]⟩
abbrev Ir (b a:Int)(A:D')(n c:Nat)(d:Int)(B:D')(h g:Nat)(E:D')(e f:Nat):Value:= .agg ⟨[.int .i64 b,.int .i64 a,.slice A n c,.int .i64 d,.slice B h g,.slice E e f]⟩
def Qq {Q T g:Int}{hn hc cn cc q:Nat}{D:Db}(R:um H Q T A n c hn cn D):ZB 75 [Ir Q T A n c g B hn hc E cn cc] H (WO q) (λ x a1 n' a7 z B' a6 b7 E' a9 c3 m=>ou m x a1 n' a7 D/\g=z/\a6=0/\a9=0):=by
 have e1:=R.now;have e2:=R.nid;have h0:=R.holds;have c0:=R.cits;have hs:=R.tabs;have s1:=hs.len;have s2:=hs.bn;have s3:=hs.bnd;subst e1 e2 h0 c0;refine ΦK 6 {aj [] [(1,ab 2 8 [19,20,23,25,0,1,1,23,19,20,25,0]),(5,[2,4,8,10,7,13,14,17,19,0,1,1,17,13,14,19,0,1,1,1,17,7,13,14,19,0]),(9,ab 2 6 [15,16,19,21,23,24,27,0])] [(3,[ag 23,.box 3 30 [.int .i64,.int .i64,.row 80 53,.int .i64,.sl,.row 81 157]]),(7,[ag 37,.box 6 53 [.str,.sl,.sl,.sl,.sl,.row 82 75]]),(14,[ag 63,.box 3 30 [.int .i64,.int .i64,.row 83 53,.int .i64,.sl,.row 84 157]])]with res:=wj [(32,⟨false,[(false,[.row 79 75])]⟩)]} (λ a=>let b:=λ b (c d:Nat) e f h (i j:Nat) k (l m:Nat) o (p q:Nat) r (s t u:Nat)(v:Int) w (x y:Int) z (a0:Int) a1 (a2 a3 a4:Nat) a5 a6=>C YR 128 [S b c d] e λ a7 a8 a9=>W XW a7 (λ b0=>b0 0 f h i j k l m o p q r s t a8 a9 a7) λ b0 b1 b2 b3 b4 b5 b6 b7 b8 b9 c0 c1 c2 c3 c4 c5 c6 c7 c8=>J (b3<O a8) (ΦY b3 c7 (ΦF ZM c8 (N b3*6+1) 1 (λ c9 d0 d1=>C ZT 82 [S c9 d0 d1] b2 λ d2 d3 d4 d5=>ΦY b3 c7 (N b3*6+1+1<=L c8/\ΦR (b3+1)/\(let d6:=av c8 (N b3*6+1) [S d3 d4 d5];b0 (b3+1) b4 b5 b6 b7 b8 b9 c0 c1 c2 c3 c4 c5 c6 c7 d6 d2/\b1 (b3+1) b4 b5 b6 b7 b8 b9 c0 c1 c2 c3 c4 c5 c6 c7 d6<b1 b3 b4 b5 b6 b7 b8 b9 c0 c1 c2 c3 c4 c5 c6 c7 c8))))) (U b2 c8 c7 (λ c9 d0 d1=>(u+1)*136<=M/\ΦR (v+1)/\let d2:=z++[Value.string b4,S b5 b6 b7,S b8 b9 c0,S c1 c2 c3,S c4 c5 c6,S c9 c7 d0];w (v+1) x y (u+1) d2 a0 a1 a2 a3 a4 a5 d1/\a6 (v+1) x y (u+1) d2 a0 a1 a2 a3 a4 a5<a6 v x y u z a0 a1 a2 a3 a4 a5));let c:=C ZT 126 [S B 0 hc] H λ c d e f=>W XV c (λ h=>h 0 D.now D.nid 0 [] g d e f 0 [] c) λ h i j k l m o p q r s t u v=>J (k<O n) (ΦX A k n (ΦE XM j A (N k*6) (λ w x y z a0 a1 a2 a3 a4 a5 a6 a7 a8 a9 b0 b1=>let b2:=[ΦG [ΦT w,S x y z,S a0 a1 a2,S a3 a4 a5,S a6 a7 a8]];C YC 127 b2 j (λ b3 b4 b5 b6 b7 b8 b9 c0 c1 c2 c3 c4 c5 c6=>b a9 b0 b1 b3 b4 b5 b6 b7 b8 b9 c0 c1 c2 c3 c4 c5 c6 o k h l m p q r s t u v i/\b a9 b0 b1 b3 b4 b5 b6 b7 b8 b9 c0 c1 c2 c3 c4 c5 c6 o k h l m p q r s t u v i)/\C YC 127 b2 j λ b3 b4 b5 b6 b7 b8 b9 c0 c1 c2 c3 c4 c5 c6=>b a9 b0 b1 b3 b4 b5 b6 b7 b8 b9 c0 c1 c2 c3 c4 c5 c6 o k h l m p q r s t u v i))) (W XV j (λ w=>w 0 l m o p q r s t u v j) (λ w x y z a0 a1 a2 a3 a4 a5 a6 a7 a8 a9=>J (z<O 0) (ΦX E z 0 (ΦE XX y E (N z*6) (λ b0 b1 b2 b3 b4 b5 b6 b7=>C ZT 129 [S b5 b6 b7] y λ b8 b9 c0 c1=>(a8+1)*72<=M/\ΦR (z+1)/\let c2:=a9++[Value.int .i64 b0,I b1,I b2,I b3,ΦT b4,S b9 c0 c1];w (z+1) a0 a1 a2 a3 a4 a5 a6 a7 (a8+1) c2 b8/\x (z+1) a0 a1 a2 a3 a4 a5 a6 a7 (a8+1) c2<x z a0 a1 a2 a3 a4 a5 a6 a7 a8 a9))) (U y a9 a8 (λ b0 b1 b2=>a a0 a1 a2 a3 a4 a5 a6 a7 b0 a8 b1 b2))));c/\c) ?_;dsimp only[PL,aQ,aR,aW,eQ,C,ΦE,ΦF,L,M,N,ΦR,W,ΦX,ΦY,O,J];refine Bu ⟨_,Ht,?_⟩;rintro H1 a4 B1 n1 c1 rfl;refine⟨λ i a b p ys v B2 y c2 q zs m=>0<=i/\i<=n/\D.now=a/\D.nid=b/\i=p/\Row m ys (D.tabs.take i.toNat)/\g=v/\0=y/\0=q/\[]=zs,λ i _ _ _ _ _ _ _ _ _ _=>n-i.toNat,⟨by omega,by omega,rfl,rfl,rfl,rfl,rfl,rfl,rfl,rfl⟩,?_⟩;rintro H2 a8 i a b p ys v B2 y c2 q zs ⟨i0,i1,rfl,rfl,ip,Y,rfl,rfl,rfl,rfl⟩;dsimp only;refine⟨λ f=>?_,λ r=>?_⟩
 .have f:=aab f;obtain⟨hi,hX,_,b0,nm,A1,m1,g1,A2,m2,g2,A3,m3,g3,A4,m4,g4,A5,m5,g5,rfl,hT⟩:=hs.at (aa a4 a8) i0 f;refine⟨hX,i0,f,_,_,_,_,_,_,_,_,_,_,_,_,_,_,_,_,b0,⟨_,CK hT.sch,?_⟩,⟨_,CK hT.sch,?_⟩⟩
  focus
   rintro H3 k a5 B1 k1 f1 B3 k3 f3 B4 k4 f4 B5 k5 f5 hS;refine Bu ?_
  rotate_left
  focus
   rintro H3 k a5 B1 k1 f1 B3 k3 f3 B4 k4 f4 B5 k5 f5 hS
  all_goals
   have e:=hT.vs.mono k;have b1:=e.len;have b2:=e.bn;have b3:=e.bnd;refine⟨_,zO e,?_⟩;rintro H4 G mm xs ⟨rfl,hR⟩;refine⟨λ j X C1 o1 h1 C2 o2 h2 C3 o3 h3 C4 o4 h4 u ws m=>0<=j/\j<=D.tabs[i.toNat].vs.length/\D.tabs[i.toNat].vs.length=u/\aV m X C1 o1 h1 C2 o2 h2 C3 o3 h3 C4 o4 h4 D.tabs[i.toNat].sch/\Row m ws D.tabs[i.toNat].vs,λ j _ _ _ _ _ _ _ _ _ _ _ _ _ _ _=>D.tabs[i.toNat].vs.length-j.toNat,⟨by omega,by omega,rfl,hS.mono G,hR⟩,?_⟩;rintro H5 b5 j X C1 o1 h1 C2 o2 h2 C3 o3 h3 C4 o4 h4 u ws ⟨j0,j1,rfl,w,s⟩;dsimp only;refine⟨λ d=>?_,λ c4=>?_⟩
   focus
    have d:=aab d;have a2:j.toNat<D.tabs[i.toNat].vs.length:=by omega
    obtain⟨us,⟨P,q1,o9,rfl,r1,r2,r3⟩,Z,a0⟩:=s.vJ a2;have V:=s.length;have V:ws.length=D.tabs[i.toNat].vs.length*6:=V;refine⟨j0,d,_,_,_,Z 1 1 (by decide),_,fx r2,?_⟩;rintro H6 l P6 q6 o6 h6;refine⟨j0,d,by omega,by omega,⟨by omega,by omega,rfl,w.mono l,?_⟩,by omega⟩;have:=a0 l 1 [S _ _ _] _ (by show 1+1<=6;simp) ⟨P6,q6,o6,rfl,r1,h6,r3⟩
    rwa[List.set_getElem_self]at this
   intro A7 c7 H7 o a3 b6;have b4:D.tabs[i.toNat].vs.length*64<=140737488355328:=by rw[b1];omega
   refine⟨by have:n*136<=140737488355328:=s3;omega,by omega,⟨by omega,by omega,rfl,rfl,by omega,?_,rfl,rfl,rfl,rfl⟩,by omega⟩;rw[bu i0 hi];exact(Y.mono (aa k (aa G (aa b5 o)))).append (Row.one (t:=D.tabs[i.toNat]) ⟨_,_,_,_,_,_,_,_,_,_,_,_,_,_,_,_,rfl,w.mono o,s.sl o a3 rfl b6 b4 (by omega)⟩)
 have r:=aac r;rw[ez r s1]at Y;refine⟨λ i a b p' F v B2 y c2 q zs m=>0=i/\D.now=a/\D.nid=b/\p=p'/\ys=F/\Row m _ _/\g=v/\0=y/\0=q,λ i _ _ _ _ _ _ _ _ _ _=>0,⟨rfl,rfl,rfl,rfl,rfl,Y,rfl,rfl,rfl⟩,?_⟩;rintro H3 k i a b p' F v B2 y c2 q zs ⟨rfl,rfl,rfl,rfl,rfl,Y,rfl,rfl,rfl⟩;refine⟨λ h=>absurd (aab h) (by simp),λ _=>?_⟩;intro A6 c6 H6 l b8 b9;exact⟨⟨rfl,rfl,by omega,Y.mono l⟩,rfl,rfl,rfl⟩
end
end
section
def Ou (d:Db)(x:Ed):bp:=(bt x.sch (d.now+1)).1
def NB (d:Db)(j:Nat)(t:eC)(x:Ed):Db×Int:=
 if x.kind<=3 then(Ev d j t (iT d.now t x),(iT d.now t x).1)
 else if x.kind=5 then(rF d j t (Ew d.now t x.col),(Ew d.now t x.col).1)
 else(rF d j t (sR d.now d.tabs t x.col.id),(sR d.now d.tabs t x.col.id).1)
def oX (d:Db)(x:Ed):Db×Int:=
 if x.kind=4 then(Hs d (Ou d x),0)else match d.tabs[(cO x.table d.tabs).toNat]? with
  | some t=>if cO x.table d.tabs<0 then(d,8)else NB d (cO x.table d.tabs).toNat t x
  | none=>(d,8)
structure Tn (d:Db):Prop where
 n:Lt d.now d.nid
 Bp:d.tabs.length<=1000
 tab:∀t∈d.tabs,Br d.now d.nid t/\t.sch.vers.length<=1000000/\t.vs.length<=10000000
structure Ws (d:Db)(x:Ed):Prop where
 k1:1<=x.kind
 k6:x.kind<=6
 new:x.kind=4->WN d x.sch (Ou d x)
 ed:x.kind=2\/x.kind=3->Eo x
def uo (x:ByteArray)(a:List eC): -1<=cO x a/\cO x a<a.length:=by
 have b:∀(a:List eC) (i:Int),0<=i->-1<=idxOf (λ t=>decide (t.sch.name=x)) i a/\idxOf (λ t=>decide (t.sch.name=x)) i a<i+a.length:=by
  intro a;induction a with
  | nil=>intro i c;exact⟨abt _,by rw[idxOf];grind⟩
  | cons t r d=>
   intro i c;rw[idxOf];grind
 have:=b a 0 (abt _);rw[Int.zero_add]at this;exact this
section
variable {H:Heap}{now nid:Int}{n:Nat}{xs:G'}{r:RL}{d:Db}{b:Nat}{a:Iq}{x:Ed}
def Qr (f:ou H now nid n xs d)(e:qj H a x)(g:Tn d)(o:Ws d x):
  ZD 76 [.me,.v (.agg ⟨a.v⟩)] 30 (JQ now nid n xs r) H ux (Eu b) gL (ow (oX d x).1 r (oX d x).2):=by
 have Y:=f.now;have L:=f.len;have i:=e.kind;have F:=e.table;have R:=g.n.n0;have Z:=g.n.n1;have E:=g.Bp;have M:=o.k1;have T:=o.k6;refine uL 0 6 {aj [21,27,43,49,55,62,68] [(5,[2,4,6,8,10,13,14,0])] []with bx:=λ | some 21,130=>some [.int .i64,.int .i64,.row 69 53,.int .i64,.sl,.sl] | some 43,131=>some [.int .i64,.int .i64,.row 70 53,.int .i64,.sl,.sl] | some 49,132=>some [.int .i64,.int .i64,.row 71 53,.int .i64,.sl,.sl] | some 55,133=>some [.int .i64,.int .i64,.row 72 53,.int .i64,.sl,.sl] | some 62,134=>some [.int .i64,.int .i64,.row 73 53,.int .i64,.sl,.sl] | some 68,135=>some [.int .i64,.int .i64,.row 74 53,.int .i64,.sl,.sl] | _,_=>none} (λ b=>∀c:Nat,let d:=c=c/\b now nid n xs r.hor r.hA r.hn r.hc r.cA r.cn r.cc 1 H ux;J (a.ek<1) d (J (6<a.ek) d (let e:=[BC.v (I now),BC.v (I nid),BC.row 53 n xs,BC.v (I r.hor),BC.v (S r.hA r.hn r.hc),BC.v (S r.cA r.cn r.cc)];J (a.ek=4) (tS XY ZP 130 [BA.me,BA.v (ΦG [ΦT a.nm,S a.A a.n a.c,S a.B a.m a.d,S a.E a.k a.e,S a.F a.l a.f])] 30 e H ux (λ f g h i j k l m o p q s t u=>c=c/\b h i j k l m o p q s t u f g)) (∃f:Int->Heap->Prop,U H xs n (λ g h i=>af Tryz.prog 16 [ΦG [I now,I nid,S g n h,I r.hor,S r.hA r.hn r.hc,S r.cA r.cn r.cc],ΦT a.et] i ⟨false,[(false,[.int .i64])]⟩ f)/\∀(g:Heap)(h:Int),f h g->J (h<0) (c=c/\b now nid n xs r.hor r.hA r.hn r.hc r.cA r.cn r.cc 8 H ux) (ΦY h n (let i:=[BA.me,BA.lx 2 (N h*6),BA.v (ΦG [I a.ek,ΦT a.et,S a.va a.vn a.vc,I a.vf,I a.vt,S a.xa a.xn a.xc,I a.ep,S a.sa a.sn a.sc,ΦT a.nm,S a.A a.n a.c,S a.B a.m a.d,S a.E a.k a.e,S a.F a.l a.f,I a.ci,ΦT a.cn,I a.ck])];J (a.ek=1) (tS XZ ZP 131 i 30 e H ux (λ j k l m o p q s t u v w x y=>c=c/\b l m o p q s t u v w x y j k)) (J (a.ek=2) (tS Yc ZP 132 i 30 e H ux (λ j k l m o p q s t u v w x y=>c=c/\b l m o p q s t u v w x y j k)) (J (a.ek=3) (tS Yd ZP 133 i 30 e H ux (λ j k l m o p q s t u v w x y=>c=c/\b l m o p q s t u v w x y j k)) (J (a.ek=5) (tS Ye ZP 134 [BA.me,BA.lx 2 (N h*6),BA.v (ΦG [I a.ci,ΦT a.cn,I a.ck])] 30 e H ux (λ j k l m o p q s t u v w x y=>c=c/\b l m o p q s t u v w x y j k)) (tS Yf ZP 135 [BA.me,BA.lx 2 (N h*6),BA.v (I a.ci)] 30 e H ux (λ j k l m o p q s t u v w x y=>c=c/\b l m o p q s t u v w x y j k))))))))))) trivial ?_;dsimp only[aQ,aR,tS,N,ΦY,J];intro X;simp only[aad,aaf];refine⟨λ h=>absurd h (by omega),λ _=>⟨λ h=>absurd h (by omega),λ _=>⟨λ l=>?_,λ l=>?_⟩⟩⟩
 .rw[i]at l;have m:oX d x=(Hs d (Ou d x),0):=if_pos l;rw[m];exact⟨_,NA (r:=r) f e.sch g.n (o.new l),λ _ _ _ _ _ _ _ _ _ _ _ _ _ _ _ h=>⟨trivial,h⟩⟩
 rw[i]at l;refine⟨λ r _=>r=cO x.table d.tabs,λ Q V G t y z=>?_,?_⟩
 .rw[F];exact qY (f.row.sl t y L.symm z (by show n*136<=_;omega) (by omega))
 rintro G W rfl;obtain⟨O,P⟩:=uo x.table d.tabs;refine⟨λ D=>?_,λ C=>?_⟩
 .have m:oX d x=(d,8):=by
   rw[oX];grind
  rw[m];exact⟨trivial,f,rfl,rfl,rfl⟩
 have k:(cO x.table d.tabs).toNat<d.tabs.length:=by omega
 have m:oX d x=NB d (cO x.table d.tabs).toNat d.tabs[(cO x.table d.tabs).toNat] x:=by
  rw[oX];grind
 rw[m];have p:=aai k;obtain⟨w,B,A⟩:=g.tab _ (aan k);refine⟨by omega,by omega,λ q=>?_,λ q=>⟨λ j=>?_,λ j=>⟨λ s=>?_,λ s=>⟨λ u=>?_,λ u=>?_⟩⟩⟩⟩
 .rw[i]at q;rw[NB,if_pos (by omega),iT,if_pos q];exact⟨_,Nv (r:=r) f p e w g.n A,λ _ _ _ _ _ _ _ _ _ _ _ _ _ _ _ h=>⟨trivial,h⟩⟩
 .rw[i]at j;rw[NB,if_pos (by omega),iT,if_neg (by omega),if_pos j];exact⟨_,Nw (r:=r) f p e (o.ed (.inl j)) w g.n A,λ _ _ _ _ _ _ _ _ _ _ _ _ _ _ _ h=>⟨trivial,h⟩⟩
 .rw[i]at s;rw[NB,if_pos (by omega),iT,if_neg (by omega),if_neg (by omega)];exact⟨_,Nx (r:=r) f p e (o.ed (.inr s)) w g.n A,λ _ _ _ _ _ _ _ _ _ _ _ _ _ _ _ h=>⟨trivial,h⟩⟩
 .rw[NB];have:=Ex (r:=r) (b:=73) (c:=x.col) f p g.n B e.r5 e.r4;rw[e.ci,e.cn,e.ck];grind
 .rw[i]at q j s u;rw[NB,if_neg (by omega),if_neg u];rw[e.ci];exact⟨_,Bt (r:=r) f p g.n B (by omega),λ _ _ _ _ _ _ _ _ _ _ _ _ _ _ _ h=>⟨trivial,h⟩⟩
end
end
end Go.Vc
namespace Go.Vc
open Go Go.Sort Go.Shelf Go.Proofs Go.RowKit
section
abbrev TQ (Q:aO->Prop):Type:={t:aO//Q t}
variable {Q:aO->Prop}
instance:Rep (TQ Q)where
 sz:=4
 byt:=64
 rel H vs t:=Rep.rel H vs t.1
 mono:=λ hle h=>Rep.mono hle h
 len:=λ h=>Rep.len h
 pos:=by decide
 bpos:=by decide
 one:=λ h=>Rep.one h
def Row.toQ {H:Heap}:∀{a:G'} {l:List aO},Row H a l->(∀t∈l,Q t)->∃m:List (TQ Q),Row H a m/\m.map (·.1)=l
 | _,[],h,_=>⟨[],h,rfl⟩
 | _,t::r,⟨vs,ys,e,h1,h2⟩,hq=>by
  obtain⟨m,b,c⟩:=h2.toQ λ u d=>hq u (by grind);exact⟨⟨t,hq t (by simp)⟩::m,⟨vs,ys,e,h1,b⟩,by grind⟩
def Row.Zr {H:Heap}:∀{a:G'} {m:List (TQ Q)},Row H a m->Row H a (m.map (·.1))
 | _,[],h=>h
 | _,_::_,⟨vs,ys,e,h1,h2⟩=>⟨vs,ys,e,h1,h2.Zr⟩
def qu:Go.Shelf.Ren:=⟨λ | 20=>157 | n=>n,λ | 24=>107 | 22=>55 | 3=>3 | 25=>117 | 4=>4 | 0=>0 | n=>n,λ n=>n⟩
def JX:SlLaysF0.n20 Tryz.prog qu:=by
 constructor<;>first | kernel_rfl | exact λ _=>by kernel_rfl | exact ab3 (by rfl) (by rfl)
def Qs:TY Tryz.prog qu 4:=⟨JX,Tryz.isAgg107,Tryz.sizeOf107,by kernel_rfl⟩
def aa9:ab6 (TQ Q) [.sl,.int .i64,.int .i64,.sl] 107 157 298 228 158 107 50 where
 ld:=by
  rintro H w t K ⟨n,r,m,v,l,u,rfl,-⟩ h;grind
 ins a _ _ b c d e _ f _ g h:=Lh (cap:=[]) Qs a b c d e f g λ q p o s t j i k=>h _ _ _ s t j i k
 sw _ _ _ _ _ _ _ _ h:=DM 0 (aj [] ay [(1,[.im 38 107,ag 10])]) (λ _=>_) h
 rot _ _ _ _ _ _ _ _ h:=DM 0 {aj [] [] [(2,[.im 58 107,ag 10,ag 11])]with mt:=ir [298] []} (λ _=>_) h
 sym _ _ _ _ _ _ _ _ h:=DM 0 {aj eA ao [(3,[ag 10,ag 11]),(9,[.im 220 107,ag 13]),(15,[ag 14,ag 15]),(21,[.im 220 107,ag 17]),(33,[ag 20,ag 21])]with mt:=ir [158,228] []} (λ _=>_) h
 stb _ _ _ _ _ _ h:=DM 0 {aj [] [] [(2,[.im 63 107,ag 7,ag 8]),(7,[.im 63 107,ag 6]),(9,[.im 63 107,ag 7,ag 8])]with mt:=ir [157,158] []} (λ _=>_) h
 kq _ _ _ _ _ h:=DM 0 {bE with mt:=ir [107] []} (λ _=>_) h
end
end Go.Vc
namespace Go.Vc
open Go Go.Shelf Go.Proofs
section
variable {a:List bR}
def qw {H:Heap}{n:Nat}{e:G'}{l:List aO}(p:Row H e l)(x:l.length=n)(r:n<=10000000000000){g:FuncId}(i:fN Tryz.prog g){cf:aO->aO->Int}{Q:aO->Prop}(j:∀t∈l,Q t)(d:Sort.SWO (ltOf cf))(u:jM Tryz.prog (TQ Q) H g λ a b=>cf a.1 b.1):
  ZC 50 [.slice none 0 0,.func (.func g) #[] #[]] 0 107 n e true H ⟨true,[]⟩
   (λ f (s:Heap)=>∃m:List aO,Row s f m/\m.Perm l/\m.Pairwise (λ a b=>¬cf b a<0)):=by
 obtain⟨k,o,rfl⟩:=p.toQ j;refine(aa9 (Q:=Q)).kq _ _ _ _ _ ?_;intro w;refine⟨_,aa2 aa9 o (by grind) r i ⟨λ a=>d.irrefl _,λ a b c=>d.trans _ b.1 _,λ a b c=>d.ntrans _ _ _⟩ u,?_⟩;rintro y z f ⟨m,q,h,v⟩;exact⟨rfl,rfl,_,q.Zr,h.map _,by grind⟩
def sS (v:bR):Bool:=decide (v.rc.hi=1099511627776)
def oY (w:Int)(a:List bR):List aO:=(a.filter sS).map λ v=>⟨xB v.vals w,v.vd,[v.id]⟩
def dR (t:eC):List aO:=oY (wd t.sch) t.vs
def EA (a b:aO):Int:=cQ (a.lin.headD 0) (b.lin.headD 0)
def Hu {H:Heap}:jM Tryz.prog (TQ λ t=>t.lin≠[]) H 51 λ a b=>EA a.1 b.1:=by
 rintro S D P ⟨s,l⟩ ⟨t,j⟩ _ ⟨A,n,c,B,m,d,rfl,-,-,-,k⟩ ⟨G,v,z,w,r,L,rfl,-,-,-,h⟩;refine ΦK 0 (aj [13] [(1,ab 2 8 [19,20,0])] []) (λ a=>ΦX B 0 m (ΦE ZE S B (N 0*1) (λ b=>ΦX w 0 r (ΦE ZE S w (N 0*1) (λ c=>C ZP 52 [I b,I c] S λ d e=>a e d))))) ?_;dsimp only[aQ,aR,eQ,C,ΦE,N,ΦX];have Q:s.lin.length=m:=k.len;have F:t.lin.length=r:=h.len;have E:=aaP.2 l;have J:=aaP.2 j;obtain⟨O,q,_,u,rfl,-⟩:=k.at (i:=0) (ah _) (by simp) (by omega);obtain⟨o,f,_,g,rfl,-⟩:=h.at (i:=0) (ah _) (by simp) (by omega);refine⟨q,by simp,by omega,_,u,f,by simp,by omega,_,g,_,gC,?_⟩;obtain⟨x,M,e⟩:=adr l;obtain⟨y,R,p⟩:=adr j;simp[EA,e,p]
def Qu {w:Int}{i:Int}(b:0<=i)(c:i.toNat<a.length):oY w (a.take (i+1).toNat)=oY w (a.take i.toNat)++if sS a[i.toNat]then[⟨xB a[i.toNat].vals w,a[i.toNat].vd,[a[i.toNat].id]⟩]else[]:=by
 rw[bu b c,oY,abB,oY];grind
def Hv {w:Int}:(oY w a).length<=a.length:=by rw[oY];grind
def Qv {w:Int}(h:nk a):(oY w a).Pairwise λ c b=>c.lin.headD 0<b.lin.headD 0:=by
 rw[oY,acJ];exact(h.filter _).imp λ h=>h
def Ly {T:Type}{f:T->Int}:∀{l:List T},l.Pairwise (λ a b=>f a<f b)->∀{a b:T},a∈l->b∈l->f a=f b->a=b
 |[],_,_,_,h,_,_=>by grind
 | x::r,h,a,b,ha,hb,e=>by
  obtain⟨d,c⟩:=aaz.1 h;rcases aaw.1 ha with p | p<;>rcases aaw.1 hb with q | q
  .grind
  .grind
  .grind
  .exact Ly c p q e
section
variable {H:Heap}{nm:ByteArray}{A:D'}{n c:Nat}{B:D'}{m d:Nat}{E:D'}{k e:Nat}{F:D'}{l f:Nat}{G:D'}{q g:Nat}{t:eC}
def Ab (L:rX H nm A n c B m d E k e F l f G q g t)(V:nk t.vs)(hb:q<=1000000000):ZB 14 [.agg ⟨JK nm A n c B m d E k e F l f G q g⟩] H fi (λ A' n' c' H'=>Sl H' A' n' c' (dR t)):=by
 refine ΦK 1 {aj [8,17] dc [(4,[.slot 4 false [.row 35 107],ag 12])]with mt:=ir [50] []} (λ a=>C ZP 47 [ΦG [ΦT nm,S A n c,S B m d,S E k e,S F l f,S G q g]] H λ b h=>W ZG b (λ i=>i 0 [] 0 b) λ i j o p r s=>J (s<O q) (ΦX G s q (ΦE ZH o G (N s*6) (λ t u v w x y z a0=>C ZO 48 [ΦG [I t,S u v w,I x,I y,I z,I a0]] o λ a1 a2=>ΦQ a2 (let a3:=C ZT 49 [S u v w,I h] a1 λ a3 a4 a5 a6=>U a3 [I t] 1 λ a7 a8 a9=>(p+1)*64<=M/\ΦR (s+1)/\let b0:=r++[Value.slice a4 a5 a6,I x,I y,S a7 1 a8];i (p+1) b0 (s+1) a9/\j (p+1) b0 (s+1)<j p r s;a3/\a3) (ΦR (s+1)/\i p r (s+1) a1/\j p r (s+1)<j p r s)))) (ZZ ZV 50 [S none 0 0,.func (.func 51) ⟨[]⟩ ⟨[]⟩] 0 107 p r true o (λ t u=>U t u p λ v w x=>a v p w x))) ?_;dsimp only[PL,aQ,aR,aW,eQ,C,ZZ,ΦE,M,N,ΦQ,ΦR,W,ΦX,O,J];refine⟨_,zM L,?_⟩;rintro H1 a2 _ rfl;have w0:=Qh t.sch;have w1:=CC t.sch;have v1:=L.vs.len;have v2:=L.vs.bnd;have v3:=L.vs.bn;rw[dR];generalize wd t.sch=w at*;refine⟨λ p ys i H'=>0<=i/\i<=q/\(p:Int)<=i/\p=(oY w (t.vs.take i.toNat)).length/\Row H' ys (oY w (t.vs.take i.toNat)),λ _ _ i=>q-i.toNat,⟨by omega,by omega,by omega,rfl,rfl⟩,?_⟩;rintro H2 Z p ys i ⟨i0,i1,pi,R,T⟩;dsimp only;have x:=aa a2 Z;refine⟨λ o=>?_,λ s=>?_⟩
 .have o:=aab o;obtain⟨hi,hA,_,hc,P,z,y,rfl,r1,r2,r3,r4,r5,r6⟩:=L.vs.at x i0 o;refine⟨hA,i0,o,_,_,_,_,_,_,_,_,hc,_,zN,?_⟩;rintro H3 r _ rfl;rw[Qu i0 hi];refine⟨λ hn=>?_,λ hn=>?_⟩
  .rw[if_pos (show sS _=true from hn)];refine Bu ⟨_,Qg (r2.mono r) w0 w1,?_⟩;rintro H4 u P4 z4 y4 h4;intro P5 y5 H5 D a0 Y;refine⟨by grind,by omega,⟨by omega,by omega,by omega,by grind,(T.mono (aa r (aa u D))).append (Row.one ⟨_,_,_,_,_,_,rfl,h4.mono D,r3,r4,?_⟩)⟩,by omega⟩;exact(show Row H5 [Φi t.vs[i.toNat].id] [t.vs[i.toNat].id]from Row.one ⟨rfl,r1⟩).sl (ah _) a0 rfl Y (by decide) (by simp)
  .rw[if_neg (by rw[show sS _=false from hn];simp),aar];exact⟨by omega,⟨by omega,by omega,by omega,R,T.mono r⟩,by omega⟩
 have s:=aac s;rw[ez s v1]at T R;refine⟨_,qw (Q:=λ t=>t.lin≠[]) (cf:=EA) T R.symm (by omega) ⟨_,Tryz.func51,rfl,by rfl⟩ (λ t ht=>?_) (DY fQ _) Hu,?_⟩
 .obtain⟨v,-,rfl⟩:=aaO.1 ht;simp
 rintro H3 r ys ⟨j,m1,m2,m3⟩;intro A4 c4 H4 u a1 X;have e:=by
  have V:=Qv (w:=w) V;refine List.Perm.eq_of_pairwise (le:=λ a b:aO=>a.lin.headD 0<=b.lin.headD 0) (λ a b h1 h2 h h'=>?_) (m3.imp λ h=>?_) (V.imp λ h=>by omega) m2
  .have h1:=m2.mem_iff.1 h1;exact Ly V h1 h2 (by omega)
  .simp[EA,cQ]at h;grind
 rw[e]at m1;exact m1.sl u a1 R.symm X (by show p*64<=_;omega) (by omega)
end
end
section
section
variable {H:Heap}{nm:ByteArray}{A:D'}{n c:Nat}{B:D'}{m d:Nat}{E:D'}{k e:Nat}{F:D'}{l f:Nat}{G:D'}{q g:Nat}{t:eC}
def jh (r:rX H nm A n c B m d E k e F l f G q g t)(ho:JO t.sch):ZB 15 [.agg ⟨JK nm A n c B m d E k e F l f G q g⟩] H fi (λ A' n' c' T=>Sl T A' n' c' (dR t)):=by
 refine ΦK 1 (aj [27] [(7,[2,4,6,8,10,16,18,20,22,13,15,25,26,29,31,32,0,1,1,1,25,15,26,29,31,32,0,1,1,1,1,25,13,15,26,29,31,32,0])] [(3,[.slot 3 false [.row 38 107],ag 4])]) (λ a=>W ZG H (λ b=>b 0 [] 0 H) λ b g h i j o=>J (o<O q) (ΦX G o q (ΦE ZH h G (N o*6) (λ p r s t u v w x=>J (x=1099511627776) (let y:=λ(y:Int) z=>C ZT 53 [S r s t,I y] z λ a0 a1 a2 a3=>U a0 [I p] 1 λ a4 a5 a6=>(i+1)*64<=M/\ΦR (o+1)/\let a7:=j++[Value.slice a1 a2 a3,I u,I v,S a4 1 a5];b (i+1) a7 (o+1) a6/\g (i+1) a7 (o+1)<g i j o;let z:=[ΦG [ΦT nm,S A n c,S B m d,S E k e,S F l f]];C ZP 54 z h (λ a0 a1=>y a1 a0/\y a1 a0)/\C ZP 54 z h λ a0 a1=>y a1 a0) (ΦR (o+1)/\b i j (o+1) h/\g i j (o+1)<g i j o)))) (U h j i (λ p r s=>a p i r s))) ?_;dsimp only[PL,aQ,aR,aW,eQ,C,ΦE,M,N,ΦR,W,ΦX,O,J];have w0:=Qh t.sch;have V:=CC t.sch;have v1:=r.vs.len;have Z:=r.vs.bnd;have v3:=r.vs.bn;have X:=ho.wd;rw[dR];generalize wd _=w at*;refine⟨λ p ys i T=>0<=i/\i<=q/\(p)<=i/\p=(oY w (t.vs.take i.toNat)).length/\Row T ys (oY w (t.vs.take i.toNat)),λ _ _ i=>q-i.toNat,⟨by simp,by simp,by simp,rfl,rfl⟩,?_⟩;rintro H2 j p ys i ⟨D,i1,pi,Y,Q⟩;dsimp only;refine⟨λ a=>?_,λ h=>?_⟩
 .have a:=aab a;obtain⟨hi,hA,_,hc,P,z,y,rfl,r1,r2,r3,r4,r5,r6⟩:=r.vs.at j D a;refine⟨hA,D,a,_,_,_,_,_,_,_,_,hc,?_⟩;rw[Qu D hi];refine⟨λ R=>?_,λ R=>?_⟩
  .rw[if_pos (show sS _=true from R)];refine⟨⟨_,gG (r.sch.mono j),?_⟩,⟨_,gG (r.sch.mono j),?_⟩⟩
   focus
    rintro H3 b _ ⟨rfl,-⟩;rw[<-X];refine Bu ⟨_,vG (r2.mono b) w0 V,?_⟩
   rotate_left
   focus
    rintro H3 b _ ⟨rfl,-⟩;rw[<-X];refine⟨_,vG (r2.mono b) w0 V,?_⟩
   all_goals
    rintro H4 o P4 z4 y4 h4;intro P5 y5 H5 s x v;refine⟨by have:q*64<=140737488355328:=Z;omega,by omega,⟨by omega,by omega,by omega,by grind,(Q.mono (aa b (aa o s))).append (Row.one ⟨_,_,_,_,_,_,rfl,h4.mono s,r3,r4,?_⟩)⟩,by omega⟩;exact(show Row H5 [Φi t.vs[i.toNat].id] [t.vs[i.toNat].id]from Row.one ⟨rfl,r1⟩).sl (ah _) x rfl v (by decide) (by simp)
  .rw[if_neg (by rw[show sS _=false from R];simp)];grind
 have h:=aac h;rw[ez h v1]at Q Y;intro A4 c4 H4 o L u;exact Q.sl o L Y.symm u (by have:q*64<=140737488355328:=Z;show p*64<=_;omega) (by omega)
end
end
section
variable {b:Int}{h:Ed}
abbrev Ui:cj:=⟨false,[(true,[.int .i64,.int .i64,.sl,.int .i64,.sl,.sl])]⟩
abbrev Ac:cj:=⟨true,[(true,[.int .i64,.int .i64,.sl,.int .i64,.sl,.sl]),(false,[.int .i64])]⟩
def Rz (D:Db)(hor a:Int):Int->Int->D'->Nat->Nat->Int->D'->Nat->Nat->D'->Nat->Nat->Int->Heap->Prop:=
 λ now nid A n c h _ hn _ _ cn _ e b=>e=a/\(a=0->um b now nid A n c hn cn D/\h=hor)/\(a≠0->um b now nid A n c hn cn ⟨0,0,[]⟩/\h=0)
def il {D:Db}{a:Int}{H:Heap}(h:a≠0):Rz D b a 0 0 none 0 0 0 none 0 0 none 0 0 a H:=⟨rfl,λ e=>absurd e h,λ _=>⟨⟨rfl,rfl,Sl.nil,rfl,rfl⟩,rfl⟩⟩
def vM {D:Db}{a now nid:Int}{H:Heap}{A B E:D'}{n c hn hc cn cc:Nat}(h:a=0)(d:um H now nid A n c hn cn D):Rz D b a now nid A n c b B hn hc E cn cc 0 H:=⟨h.symm,λ _=>⟨d,rfl⟩,λ e=>absurd h e⟩
def SB {now:Int}{t:eC}(b:h.kind=1\/h.kind=2\/h.kind=3)(a:¬h.kind=1):(iT now t h).1=sQ h (br t.sch (now+1)):=by
 unfold iT Bs zX sQ;grind
def SC {t:eC}(c:¬h.kind=1)(d:h.kind=2)(a:sQ h (br t.sch (b+1))=0):iT b t h=(0,oV (iS t) h.vd (gO h) (jU h),PA (iS t) h.vd (gO h) (jU h)):=by
 unfold iT Bs;unfold sQ at a;grind
def SD {t:eC}(c:¬h.kind=1)(e:¬h.kind=2)(d:h.kind=1\/h.kind=2\/h.kind=3)(a:sQ h (br t.sch (b+1))=0):iT b t h=(0,oV (iS t) h.vd (gO h) (jU h),PB (iS t) h.vd (gO h) (jU h) h.set):=by
 unfold iT zX;unfold sQ at a;grind
section
variable {H:Heap}{now nid hor:Int}{nm:ByteArray}{A:D'}{n c:Nat}{B:D'}{m d:Nat}{E:D'}{k e:Nat}{F:D'}{l f:Nat}{G:D'}{q g:Nat}{t:eC}
variable {X Y Z:D'}{xn xc hn hc cn cc j:Nat}{D:Db}{a:Iq}{x:Ed}
def mn (a:um H now nid X xn xc hn cn D)(R:j<D.tabs.length)(C:rX H nm A n c B m d E k e F l f G q g t):
  ZB 44 [Ir now nid X xn xc hor Y hn hc Z cn cc,Φi j,.agg ⟨JK nm A n c B m d E k e F l f G q g⟩] H Ui
   (λ h i O y z b _ p _ _ s _ T=>um T h i O y z p s ⟨D.now,D.nid,D.tabs.set j t⟩/\b=hor):=by
 refine ΦK 0 bE (λ a=>let b:=(↑j:Int);∃h:G',Cells H X 0 h/\L h=xn*6/\xn*136<=M/\ΦY b xn (N b*6+6<=L h/\U H (av h (N b*6) [ΦT nm,S A n c,S B m d,S E k e,S F l f,S G q g]) xn (λ i o p=>a now nid i xn o hor Y hn hc Z cn cc p))) ?_;dsimp only[L,M,N,ΦY];have W:=a.tabs.len;have w:=a.tabs.bnd;have Q:=a.tabs.bn;obtain⟨x,J,v⟩:=a.tabs.row;have I:x.length=D.tabs.length*6:=v.length;refine⟨x,J,by grind,w,by simp,by omega,by omega,?_⟩;intro A2 V H2 o r u;have P:=v.dV R (t:=t) ⟨_,_,_,_,_,_,_,_,_,_,_,_,_,_,_,_,rfl,C⟩;exact⟨⟨a.now,a.nid,P.sl o r (by grind) u w Q,a.holds,a.cits⟩,rfl⟩
def EB (hd:um H now nid X xn xc hn cn D)(hj:D.tabs[j]?=some t)(k:qj H a x)(ho:x.kind=2\/x.kind=3->Eo x)(ht:Br D.now D.nid t)(hN:Lt D.now D.nid)(hb:t.vs.length<=10000000)(hk:x.kind=1\/x.kind=2\/x.kind=3):
  ZB 43 [Ir now nid X xn xc hor Y hn hc Z cn cc,Φi j,.agg ⟨a.v⟩] H Ac (Rz (Ev D j t (iT D.now t x)) hor (iT D.now t x).1):=by
 obtain⟨b4,b9⟩:=aap.1 hj;have s1:=hd.tabs.len;have s2:=hd.tabs.bnd;have s3:=hd.tabs.bn;have f1:=k.lo;have f2:=k.hi;have e3:=k.pred;have e4:=k.kind;have e1:=hd.now;have e2:=hd.nid;have n0:=hN.n0;have n1:=hN.n1;have i0:=hN.i0;have i1:=hN.i1;have hw:=ht.s.wd;subst e1 e2;refine ΦK 1 (aj [34,40,70] [(24,ab 2 6 [0])] [(18,[.slot 17 false [.row 159 75],ag 18])]) (λ b=>let c:=(↑j:Int);ΦR (D.now+1)/\ΦX X c xn (ΦE XM H X (N c*6) (λ d e f g h i k l m n o p q r s t=>let u:=[ΦT d,S e f g,S h i k,S l m n,S o p q];C ZP 54 [ΦG u] H λ v w=>let x:=λ(x:Int) y=>b 0 0 none 0 0 0 none 0 0 none 0 0 x y;let y:=λ y (z a0:Nat) a1 (a2 a3:Nat) a4=>C YN 104 [S r s t,ΦG [S y z a0,S a1 a2 a3],I (D.now+1),I D.nid] a4 λ a5 a6 a7 a8 a9=>V (a9=0) (x a9 a5) (C YS 44 [ΦG [I D.now,I D.nid,S X xn xc,I hor,S Y hn hc,S Z cn cc],I c,ΦG [ΦT d,S e f g,S h i k,S l m n,S o p q,S a6 a7 a8]] a5 (λ b0 b1 b2 b3 b4 b5 b6 b7 b8 b9 c0 c1 c2=>ΦR (b2+O a2)/\b b1 (b2+O a2) b3 b4 b5 b6 b7 b8 b9 c0 c1 c2 0 b0));J (a.ek=1) (C ZO 97 [ΦG [I a.vf,I a.vt]] v (λ z a0=>ΦQ (!a0) (b 0 0 none 0 0 0 none 0 0 none 0 0 10 z) (C YK 98 [ΦG u,I (D.now+1)] z (λ a1 a2 a3 a4 a5 a6 a7=>C YN 99 [ΦG [I a2,I a3,S a4 a5 a6],S a.va a.vn a.vc,I w] a1 λ a8 a9 b0 b1 b2=>V (b2=0) (x b2 a8) (C ZY 100 [S a9 b0 b1,ΦG [I a.vf,I a.vt]] a8 (λ b3 b4 b5 b6 b7 b8 b9=>y b4 b5 b6 b7 b8 b9 b3)))))) (C ZP 101 [ΦG u,I (D.now+1),ΦG [I a.ek,ΦT a.et,S a.va a.vn a.vc,I a.vf,I a.vt,S a.xa a.xn a.xc,I a.ep,S a.sa a.sn a.sc,ΦT a.nm,S a.A a.n a.c,S a.B a.m a.d,S a.E a.k a.e,S a.F a.l a.f,I a.ci,ΦT a.cn,I a.ck]] v (λ z a0=>V (a0=0) (x a0 z) (W ZG z (λ a1=>a1 0 [] 0 z) (λ a1 a2 a3 a4 a5 a6=>J (a6<O s) (ΦX r a6 s (ΦE ZH a3 r (N a6*6) (λ a7 a8 a9 b0 b1 b2 b3 b4=>let b5:=λ b5 (b6 b7:Nat) b8=>(a4+1)*64<=M/\ΦR (a6+1)/\let b9:=a5++[Value.int .i64 a7,S b5 b6 b7,I b1,I b2,I b3,I b4];a1 (a4+1) b9 (a6+1) b8/\a2 (a4+1) b9 (a6+1)<a2 a4 a5 a6;J (b4=1099511627776) (C ZT 53 [S a8 a9 b0,I w] a3 (λ b6 b7 b8 b9=>b5 b7 b8 b9 b6)) (b5 a8 a9 b0 a3)))) (J (a.ep=-1) (∃a7:G',Cells a3 a.xa 0 a7/\L a7=a.xn*7/\a.xn*64<=M/\(a.xn+1)*64<=M/\let a8:=a7++[Value.int .i64 1,I 0,I 0,I 0,I 3,I 1,ΦT ⟨⟨[]⟩⟩];J (a.ek=2) (U a3 a5 a4 (λ a9 b0 b1=>U b1 a8 (a.xn+1) λ b2 b3 b4=>C ZY 102 [S a9 a4 b0,ΦG [I a.vf,I a.vt],S b2 (a.xn+1) b3,I (O a.xn)] b4 λ b5 b6 b7 b8 b9 c0 c1=>y b6 b7 b8 b9 c0 c1 b5)) (U a3 a5 a4 (λ a9 b0 b1=>U b1 a8 (a.xn+1) λ b2 b3 b4=>C ZY 103 [S a9 a4 b0,ΦG [I a.vf,I a.vt],S b2 (a.xn+1) b3,I (O a.xn),S a.sa a.sn a.sc] b4 λ b5 b6 b7 b8 b9 c0 c1=>y b6 b7 b8 b9 c0 c1 b5))) (J (a.ek=2) (U a3 a5 a4 (λ a7 a8 a9=>C ZY 102 [S a7 a4 a8,ΦG [I a.vf,I a.vt],S a.xa a.xn a.xc,I a.ep] a9 λ b0 b1 b2 b3 b4 b5 b6=>y b1 b2 b3 b4 b5 b6 b0)) (U a3 a5 a4 (λ a7 a8 a9=>C ZY 103 [S a7 a4 a8,ΦG [I a.vf,I a.vt],S a.xa a.xn a.xc,I a.ep,S a.sa a.sn a.sc] a9 λ b0 b1 b2 b3 b4 b5 b6=>y b1 b2 b3 b4 b5 b6 b0))))))))))) ?_;dsimp only[PL,aQ,aR,aW,eQ,C,ΦE,L,M,N,ΦQ,ΦR,W,ΦX,O,V,J];obtain⟨_,hA,_,hc,nm,A1,m1,c1,A2,m2,c2,A3,m3,c3,A4,m4,c4,A5,m5,c5,rfl,E⟩:=hd.tabs.at (i:=(j:Int)) (ah H) (by omega) (by omega);rw[show D.tabs[((j:Int)).toNat]=t from b9]at E;refine⟨by simp only[ae];omega,hA,by omega,by omega,_,_,_,_,_,_,_,_,_,_,_,_,_,_,_,_,hc,_,gG E.sch,?_⟩;rintro H1 R _ ⟨rfl,-⟩;rw[<-hw];have w0:=Qh t.sch;have w1:=CC t.sch;refine⟨λ f=>?_,λ f=>?_⟩
 focus
  have f:=aab f;rw[e4]at f;refine⟨_,gY,?_⟩;rintro H2 g _ rfl;rw[f1,f2];have hm:iT D.now t x=rE D.now t x:=if_pos f;refine⟨λ h=>?_,λ h=>?_⟩
  .rw[hm,rE,if_pos (oL h)];exact il (by decide)
  have hp:eo x.vd=true:=np h;have g:=aa R g;refine⟨_,qm (E.sch.mono g),?_⟩;rintro H3 l a2 b2 A9 n9 c9 ok ⟨-,-,-,b1,F,r⟩;have r:((cY (D.now+1) t.sch.vers).getD og).cols=b1:=by rw[<-r]
  refine⟨_,Em F (k.vals.mono (aa g l)),?_⟩;rintro G d d9 e0 d4 er ⟨A,B⟩;rw[<-r]at A B;rw[hw]at A B;refine⟨λ m=>?_,λ m=>?_⟩
  .have m:=aac (oL m);have hR:rE D.now t x=(er,[],[]):=by rw[rE,if_neg (by simp[hp]),if_pos (by rw[<-B];exact m),B]
   rw[hm,hR];exact il m
  have m:=aab (np m);have hR:rE D.now t x=(0,[],[⟨(expand ((cY (D.now+1) t.sch.vers).getD og).cols x.vals (width t.sch)).1,x.vd,[]⟩]):=by rw[rE,if_neg (by simp[hp]),if_neg (by rw[<-B];omega)]
  refine⟨_,DS A hp k.r1 k.r2,?_⟩;rintro H5 o B5 b0 d5 E5 k5 e5 ⟨q,n⟩;obtain⟨cl,ad,hR,q,n⟩:∃cl ad,iT D.now t x=(0,cl,ad)/\Sl H5 B5 b0 d5 cl/\Sl H5 E5 k5 e5 ad:=⟨_,_,hm.trans hR,q,n⟩;have o:=aa g (aa l (aa d o));clear A F r h m d l g B hm
 rotate_left
 focus
  have f:=aac f;rw[e4]at f;have ho:=ho (by omega);obtain⟨g1,g2,g3,g4,g5⟩:=JS ho;refine⟨_,Nt (E.sch.mono R) ht.s (k.mono R) ho,?_⟩;rintro H2 g _ rfl;have g:=aa R g;have hm:=SB (now:=D.now) (t:=t) hk f;refine⟨λ m=>?_,λ m=>?_⟩
  .have m:=aac (oL m);rw[hm];exact il m
  have m:=aab (np m);rw[m]at hm;have v1:=E.vs.len;have v2:m5*64<=140737488355328:=E.vs.bnd;have v3:=E.vs.bn;refine⟨λ p ys i H'=>0<=i/\i<=m5/\i=p/\Row H' ys ((t.vs.take i.toNat).map (dY (wd t.sch))),λ _ _ i=>m5-i.toNat,⟨by omega,by omega,rfl,rfl⟩,?_⟩;rintro H3 l p ys i ⟨a4,d8,ip,hr⟩;dsimp only;have l:=aa g l;refine⟨λ T=>?_,λ a7=>?_⟩
  .have T:=aab T;obtain⟨hi,c8,_,d0,P,z,y,rfl,r1,r2,r3⟩:=E.vs.at l a4 T;rw[bu a4 hi,aaR];have a9:∀{G:Heap} {Q:D'} {u v:Nat},Heap.le H3 G->Sl G Q u v (dY (wd t.sch) t.vs[i.toNat]).vals->(p+1)*64<=140737488355328/\ae .i64 (i+1)/\(0<=i+1/\i+1<=m5/\i+1=(p+1:Nat)/\Row G (ys++[Φi t.vs[i.toNat].id,S Q u v,Φi t.vs[i.toNat].vd.lo,Φi t.vs[i.toNat].vd.hi,Φi t.vs[i.toNat].rc.lo,Φi t.vs[i.toNat].rc.hi]) ((t.vs.take i.toNat).map (dY (wd t.sch))++[t.vs[i.toNat]].map (dY (wd t.sch))))/\m5-(i+1).toNat<m5-i.toNat:=by
    intro G Q u v hl hs;obtain⟨k1,k2,k3⟩:=dZ (wd t.sch) t.vs[i.toNat];exact⟨by omega,by simp only[ae];omega,⟨by omega,by omega,by omega,(hr.mono hl).append (Row.one ⟨_,_,_,by rw[k1,k2,k3],by rw[k1];exact r1,hs,by rw[k2,k3];exact r3⟩)⟩,by omega⟩
   refine⟨c8,a4,T,_,_,_,_,_,_,_,_,d0,λ h9=>?_,λ h9=>?_⟩
   .refine⟨_,vG r2 w0 w1,?_⟩;rintro G d Q u v hq;exact a9 d (by rw[dY];grind)
   .exact a9 (ah _) (by rw[dY];grind)
  have a7:=aac a7;rw[ez a7 v1]at hr;have hE:=k.ex;have x1:=hE.len;have x2:=hE.bn;have x3:=ho.ex.len;obtain⟨zs,z1,z2⟩:=(hE.mono l).row;have b7:(t.vs.map (dY (wd t.sch))).length=p:=by grind
  have b8:∀{Q:Option _} {v:Nat} {G:Heap},Heap.le _ _->Cells G Q 0 _->p<=v->Sl _ Q p v (iS t):=λ hl hq hv=>hr.sl hl hq b7 hv (by show p*64<=_;omega) (by omega);refine⟨λ e=>?_,λ e=>?_⟩
  focus
   have e:=aab e;rw[e3]at e;have ex:gO x=x.ex++[Hk]:=if_pos e;have ep:jU x=a.xn:=by rw[jU,if_pos e,x1]
   refine⟨zs,z1,by rw[z2.length,x1];rfl,by omega,by omega,λ a5=>?_,λ a5=>?_⟩
  rotate_left 2
  focus
   have e:=aac e;rw[e3]at e;have ex:gO x=x.ex:=if_neg e;have ep:jU x=x.pred:=if_neg e;refine⟨λ a5=>?_,λ a5=>?_⟩
  all_goals
   intro c v G d b6 c0;have hV:=b8 d b6 c0;have d:=aa l d;have e9:=hV.len;rw[f1,f2]
  rotate_left 2
  iterate 2
   focus
    intro b w HX a6 d1 b5;have hX:Sl HX b (a.xn+1) w (gO x):=by
     rw[ex];exact(z2.append (Row.one CG)).sl (aa (by grind) a6) d1 (by grind) b5 (by show _*64<=_;omega) (by omega)
    replace hV:=hV.mono a6;replace d:=aa d a6;rw[ep.symm]
   rotate_left
  iterate 2
   focus
    have hX:Sl G a.xa a.xn a.xc (gO x):=by rw[ex];exact k.ex.mono d
    rw[e3,<-ep]
   rotate_left
  focus
   refine⟨_,tX hV (ht.lI.pad _) hX g1 g2 g3 (by omega) (by omega) k.r1 k.r2,?_⟩
  rotate_left
  focus
   refine⟨_,tY hV (ht.lI.pad _) hX g1 g2 g3 (by omega) (by omega) k.r1 k.r2 (k.set.mono d) g4,?_⟩
  rotate_left
  focus
   refine⟨_,tX hV (ht.lI.pad _) hX g1 g2 g3 (by omega) (by omega) k.r1 k.r2,?_⟩
  rotate_left
  focus
   refine⟨_,tY hV (ht.lI.pad _) hX g1 g2 g3 (by omega) (by omega) k.r1 k.r2 (k.set.mono d) g4,?_⟩
  rotate_left
  all_goals
   rintro H5 o B5 b0 d5 E5 k5 e5 ⟨q,n⟩;obtain⟨cl,ad,hR,q,n⟩:∃cl ad,iT _ t x=(0,cl,ad)/\Sl _ _ _ _ cl/\Sl _ _ _ _ ad:=by
    first
    | exact⟨_,_,SC f (by grind) m,q,n⟩
    | exact⟨_,_,SD f (by grind) hk m,q,n⟩
   replace o:=aa d o
 all_goals
  obtain⟨a3,a8⟩:=Ho ht hN (x:=x) (by grind);rw[hR]at a3 a8;have a1:=n.len;have v1:=E.vs.len;dsimp only at a8;refine⟨_,Gy (E.vs.mono o) q n a3 (by omega),?_⟩;rintro H6 a0 V6 n6 c6 er ⟨rfl,h6⟩;refine⟨λ h=>(by grind),λ _=>?_⟩;have a0:=aa o a0;refine⟨_,mn (t:=⟨t.sch,jN _ _ _ _ _⟩) (hd.mono a0) b4 ⟨E.sch.mono a0,h6⟩,?_⟩;rintro H7 e6 d3 b3 X7 n7 c7 d2 Y7 f0 d6 Z7 d7 e8 ⟨h7,rfl⟩;have e7:b3=D.nid:=h7.nid;refine⟨by simp[ae];omega,?_⟩;rw[hR];exact vM rfl ⟨h7.now,by rw[e7,<-a1];rfl,h7.tabs,h7.holds,h7.cits⟩
end
end
section
def Ad {s s':bp}{x:Int}(h:bt s x=(s',0)):s'.name=s.name:=by
 unfold bt at h;grind
section
variable {H:Heap}{now nid hor:Int}{nm:ByteArray}{A:D'}{n c:Nat}{B:D'}{m d m2 c2:Nat}{E:D'}{k e:Nat}{F:D'}{l f:Nat}{s s':bp}
variable {X Y Z:D'}{xn xc hn hc cn cc j:Nat}{D:Db}
def EC (o:um H now nid X xn xc hn cn D)(hs:aV H nm A m c B m2 c2 E k e F l f s)(hN:Lt D.now D.nid)(hC:WN D s s')(ho:JO s')(hT:∀t∈D.tabs,JO t.sch):
  ZB 39 [Ir now nid X xn xc hor Y hn hc Z cn cc,.agg ⟨[ΦT nm,S A m c,S B m2 c2,S E k e,S F l f]⟩] H Ac (Rz (Hs D s') hor 0):=by
 obtain⟨T,e3,Q,d1⟩:=hC;have R:=Ad T;have s1:=o.tabs.len;have s2:xn*136<=140737488355328:=o.tabs.bnd;have s3:=o.tabs.bn;have s4:=o.tabs.cap;have e1:=o.now;have e2:=o.nid;have n0:=hN.n0;have n1:=hN.n1;subst e1 e2;refine ΦK 2 (aj [35,65] [(19,[2,4,8,10,7,13,14,16,0]),(23,ab 2 29 [0]),(26,[2,4,6,9,10,12,14,16,18,28,30,21,22,24,27,32,34,0]),(28,[2,4,6,12,14,20,22,24,9,11,17,19,27,29,30,33,0,1,1,1,27,19,29,30,33,0,1,1,1,1,27,17,19,29,30,33,0,1,1,1,1,1,17,11,19,27,29,30,33,0,1,1,1,27,19,29,30,33,0,1,1,1,1,27,11,19,29,30,33,0,1,1,1,1,1,27,11,17,19,29,30,33,0,1,1,1,1,17,11,19,29,30,33,0,1,1,1,1,1,1,17,9,11,19,27,29,30,33,0,1,1,1,27,19,29,30,33,0,1,1,1,1,27,11,19,29,30,33,0,1,1,1,1,1,27,9,11,19,29,30,33,0,1,1,1,1,1,1,27,9,11,17,19,29,30,33,0,1,1,1,1,17,11,19,29,30,33,0,1,1,1,1,1,17,9,11,19,29,30,33,0])] [(10,[ag 9,.box 4 30 [.int .i64,.int .i64,.row 153 53,.int .i64,.sl,.sl]]),(21,[ag 15,.box 4 30 [.int .i64,.int .i64,.row 154 53,.int .i64,.sl,.sl]]),(26,[ag 16])]) (λ a=>ΦR (D.now+1)/\C YO 89 [ΦG [ΦT nm,S A m c,S B m2 c2,S E k e,S F l f],I (D.now+1)] H λ b d g h i j n o p q r s t u v=>V (v=0) (a 0 0 none 0 0 0 none 0 0 none 0 0 v b) (let w:=[I D.now,I D.nid,S X xn xc,I hor,S Y hn hc,S Z cn cc];C ZP 18 [ΦG w,ΦT nm] b λ x y=>J (0<=y) (a 0 0 none 0 0 0 none 0 0 none 0 0 9 x) (J (16<=O xn) (a 0 0 none 0 0 0 none 0 0 none 0 0 12 x) (W XT x (λ z=>z 0 0 0 0 [] 0 none 0 0 none 0 0 x) (λ z a0 a1 a2 a3 a4 a5 a6 a7 a8 a9 b0 b1 b2 b3=>J (a2<O q) (ΦX p a2 q (ΦE Xu a1 p (N a2*3) (λ b4 b5 b6 b7 b8 b9 c0=>let c1:=λ c1 c3 (c4 c5:Nat) c6 (c7 c8:Nat) c9 (d0 d1:Nat) d2 (d3 d4:Nat) d5 d6 (d7:Nat)=>C ZT 90 [ΦG [ΦT c1,S c3 c4 c5,S c6 c7 c8,S c9 d0 d1,S d2 d3 d4],I (D.now+1)] d5 λ d8 d9 e0 e1=>W XT d8 (λ e2=>e2 0 a3 a4 a5 a6 a7 a8 a9 b0 b1 b2 b3 d8) λ e2 e3 e4 e5 e6 e7 e8 e9 f0 f1 f2 f3 f4 f5 f6=>J (e5<O b9) (ΦX b8 e5 b9 (ΦE ZE e4 b8 (N e5*1) (λ f7=>let f8:=a 0 0 none 0 0 0 none 0 0 none 0 0 7 e4;J (O e0<f7) f8 (ΦX b8 e5 b9 (ΦE ZE e4 b8 (N e5*1) (λ f9=>ΦR (f9-1)/\ΦX d9 (f9-1) e0 (ΦE ZE e4 d9 (N (f9-1)*1) (λ g0=>ΦX b4 e5 b5 (ΦE ZE e4 b4 (N e5*1) (λ g1=>ΦR (g1-1)/\ΦX d6 (g1-1) d7 (ΦE ZE e4 d6 (N (g1-1)*1) (λ g2=>V (g0=g2) f8 (ΦR (e5+1)/\e2 (e5+1) e6 e7 e8 e9 f0 f1 f2 f3 f4 f5 f6 e4/\e3 (e5+1) e6 e7 e8 e9 f0 f1 f2 f3 f4 f5 f6<e3 e5 e6 e7 e8 e9 f0 f1 f2 f3 f4 f5 f6))))))))))))) (ΦR (a2+1)/\z (a2+1) e6 e7 e8 e9 f0 f1 f2 f3 f4 f5 f6 e4/\a0 (a2+1) e6 e7 e8 e9 f0 f1 f2 f3 f4 f5 f6<a0 a2 a3 a4 a5 a6 a7 a8 a9 b0 b1 b2 b3);V (b7=d) (C ZP 18 [ΦG w,ΦT b7] a1 (λ c3 c4=>J (c4<0) (a 0 0 none 0 0 0 none 0 0 none 0 0 8 c3) (ΦX X c4 xn (ΦE XP c3 X (N c4*6+0) (λ c5 c6 c7 c8 c9 d0 d1 d2 d3 d4 d5 d6 d7=>C ZT 90 [ΦG [ΦT d,S g h i,S j n o,S p q r,S s t u],I (D.now+1)] c3 λ d8 d9 e0 e1=>c1 c5 c6 c7 c8 c9 d0 d1 d2 d3 d4 d5 d6 d7 d8 d9 e0))))) (C ZT 90 [ΦG [ΦT d,S g h i,S j n o,S p q r,S s t u],I (D.now+1)] a1 (λ c3 c4 c5 c6=>c1 d g h i j n o p q r s t u c3 c4 c5))))) (W ZE a1 (λ b4=>b4 0 a1) (λ b4 b5 b6 b7=>let b8:=λ b8 b9=>∃c0:G',Cells b6 b8 0 c0/\L c0=(N (O xn)-N b7)*6/\(N b7-N 0+1+(N (O xn)-N b7))*136<=M/\U b6 (b9++[Value.string d,S g h i,S j n o,S p q r,S s t u,S none 0 0]++c0) (N b7-N 0+1+(N (O xn)-N b7)) λ c1 c3 c4=>a D.now D.nid c1 (N b7-N 0+1+(N (O xn)-N b7)) c3 hor Y hn hc Z cn cc 0 c4;let b9:=let b9:=(N b7-N 0+1)*136<=M;let c0:=λ c0=>L c0=(N b7-N 0)*6;let c1:=λ c1 c3=>∃c4:G',Cells b6 c1 0 c4/\c0 c4/\(N b7-N 0)*136<=M/\b9/\b8 c3 c4;let c3:=λ c3=>c3=eM X xc (N b7) 6;let c4:=λ c4=>0<=b7/\b7<=O xn/\O xn<=O xc/\∀c5:D',c3 c5->b9/\b8 c5 c4;let c5:=λ c5=>(b9/\0<=b7/\b7<=O xn/\O xn<=O xc/\(∀c6:D',c3 c6->b8 c6 c5))/\c4 c5;let c6:=λ c6=>(∃c7:G',Cells b6 c6 0 c7/\c0 c7/\(N b7-N 0)*136<=M/\c5 c7)/\0<=b7/\b7<=O xn/\O xn<=O xc/\∀c7:D',c3 c7->c1 c6 c7;let c7:=λ c7=>c7=eM X xc (N 0) 6;((0:Int)<=0/\0<=b7/\b7<=O xc/\(∀c8:D',c7 c8->(∃c9:G',Cells b6 c8 0 c9/\c0 c9/\(N b7-N 0)*136<=M/\c5 c9/\c4 c9)/\c6 c8/\0<=b7/\b7<=O xn/\O xn<=O xc/\∀c9:D',c3 c9->c1 c8 c9/\c1 c8 c9))/\let c8:=λ c8=>(0:Int)<=0/\0<=b7/\b7<=O xc/\∀c9:D',c7 c9->c1 c9 c8;(((0:Int)<=0/\0<=b7/\b7<=O xc/\(∀c9:D',c7 c9->c6 c9))/\0<=b7/\b7<=O xn/\O xn<=O xc/\(∀c9:D',c3 c9->c8 c9))/\0<=b7/\b7<=O xn/\O xn<=O xc/\∀c9:D',c3 c9->((0:Int)<=0/\0<=b7/\b7<=O xc/\(∀d0:D',c7 d0->c1 d0 c9/\c1 d0 c9))/\c8 c9;J (b7<O xn) (ΦX X b7 xn (ΦE Xr b6 X (N b7*6+0+0) (λ c0=>ΦQ (Op.bytesLess (ByteArray.toList c0) (ByteArray.toList d)) (ΦR (b7+1)/\b4 (b7+1) b6/\b5 (b7+1)<b5 b7) b9))) b9))))))) ?_;dsimp only[PL,aQ,aR,aW,eQ,C,ΦE,L,M,N,ΦQ,ΦR,W,ΦX,O,V,J];refine⟨by omega,_,Es hs (by omega),?_⟩;rintro H1 a8 c7 A1 c6 c1 A2 n2 c8 A3 n3 c3 A4 n4 c4 er ⟨v,rfl⟩;rw[T]at v;dsimp only at v;simp only[T];refine⟨λ h=>(by simp at h),λ _=>?_⟩;refine⟨_,ot (o.tabs.mono a8),?_⟩;rintro H2 n _ rfl;rw[hs.name,<-R,Hr λ t ht=>Lx (Q t ht)];refine⟨λ h=>(by simp at h),λ _=>⟨λ h=>(by have:=aab h;omega),λ _=>?_⟩⟩;have f1:=v.fks.len;have f3:=v.fks.bn;have a4:=aa a8 n;refine⟨λ i _ _ _ _ _ _ _ _ _ _ _ _=>0<=i/\i<=n3,λ i _ _ _ _ _ _ _ _ _ _ _=>n3-i.toNat,⟨by omega,by omega⟩,?_⟩;rintro H3 g i v1 v2 v3 v4 v5 v6 v7 v8 v9 d8 d6 ⟨i0,i1⟩;dsimp only;simp only[aad,aaf];have d:=g;have g:=aa a4 g;refine⟨λ hi=>?_,λ hi=>?_⟩
 .obtain⟨h5,hX,_,a2,E1,p1,o1,E2,p2,o2,rfl,u1,u2,u3⟩:=v.fks.at (aa n d) i0 hi;obtain⟨fc,fr,a5,b7⟩:=d1 _ (aan h5);generalize s'.fks[i.toNat]=fk at*;rw[fc]at u1;rw[fr]at u3;have c0:p1=1:=by simpa using u1.len.symm
  have d0:p2=1:=by simpa using u3.len.symm
  subst c0 d0;refine⟨hX,i0,hi,_,_,_,_,_,_,_,a2,λ w=>?_,λ e0=>?_⟩
  focus
   have w:=aac (oL w);rw[v.name]at w;obtain⟨p,t,hp,ht,hC⟩:=b7.resolve_left w;obtain⟨pl,b3⟩:=aap.1 ht;have b0:=hC.k;refine⟨_,ot (o.tabs.mono g),?_⟩;rintro H4 b _ rfl;rw[hp];refine⟨λ h=>(by omega),λ _=>?_⟩;have r:=b;have b:=aa g b;obtain⟨_,hA,_,hc,a3,D1,q1,g1,D2,q2,g2,D3,G,g3,D4,q4,g4,D5,q5,g5,rfl,hU⟩:=o.tabs.at (i:=(p:Int)) b (by omega) (by omega);rw[show D.tabs[((p:Int)).toNat]=t from b3]at hU;refine⟨hA,by omega,by omega,a3,D1,q1,g1,D2,q2,g2,D3,G,g3,D4,q4,g4,Cells.part (xs:=[]) (ys:=[ΦT a3,S D1 q1 g1,S D2 q2 g2,S D3 G g3,S D4 q4 g4]) (zs:=[S D5 q5 g5]) hc,_,gH (v.mono (aa n (aa d r))) ho,?_⟩;rintro H5 q a on oc hO;refine⟨_,gH (hU.sch.mono q) (hT t (b3▸aan pl)),?_⟩;rintro H6 a0 P pn pc hP
  rotate_left
  focus
   have b0:=a5.k;refine⟨_,gH (v.mono (aa n d)) ho,?_⟩;rintro H5 q a on oc hO;refine⟨_,gH (v.mono (aa n (aa d q))) ho,?_⟩;rintro H6 a0 P pn pc hP;have r:=ah H3
  all_goals
   have b2:=aa r (aa q a0);have d3:=a5.k;obtain⟨o9,o8⟩:=aap.1 d3;obtain⟨p9,p8⟩:=aap.1 b0;have ol:=hO.len;have d5:=hP.len;refine⟨λ i _ _ _ _ _ _ _ _ _ _ _ _=>0<=i/\i<=1,λ i _ _ _ _ _ _ _ _ _ _ _=>1-i.toNat,⟨by omega,by omega⟩,?_⟩;rintro H7 a1 i7 w1 w2 w3 w4 w5 w6 w7 w8 w9 e4 d9 ⟨z0,z1⟩;dsimp only;have x:=aa b2 a1;refine⟨λ Q=>?_,λ d2=>⟨by omega,⟨by omega,by omega⟩,by omega⟩⟩;have hz:i7=0:=by omega
   subst hz;obtain⟨y1,gA,_,gc,b9⟩:=u3.at (i:=0) x (by omega) (by omega);obtain⟨y2,hA,_,hc,b6⟩:=u1.at (i:=0) x (by omega) (by omega);obtain⟨y3,oA,V3,d4,G,-⟩:=hO.at (i:=(1:Int)-1) (aa a0 a1) (by omega) (by omega);obtain⟨y4,pA,V4,b8,q4,-⟩:=hP.at (i:=(1:Int)-1) a1 (by omega) (by omega);obtain⟨rfl,-⟩:_=[Φi 1]/\_:=b9;obtain⟨rfl,-⟩:_=[Φi 1]/\_:=b6;replace G:=G.trans (aak (λ z=>[Φi z]) o8);replace q4:=q4.trans (aak (λ z=>[Φi z]) p8);subst G q4;exact⟨gA,by omega,by omega,_,gc,λ h=>absurd h (by omega),λ _=>⟨gA,by omega,by omega,_,gc,⟨by decide,by decide⟩,pA,by decide,by omega,_,b8,hA,by omega,by omega,_,hc,⟨by decide,by decide⟩,oA,by decide,by omega,_,d4,λ h=>(by simp at h),λ _=>⟨by omega,⟨by omega,by omega⟩,by omega⟩⟩⟩
 .refine⟨λ i _=>0<=i/\i<=xn,λ i=>xn-i.toNat,⟨by omega,by omega⟩,?_⟩;rintro H4 b i ⟨a9,d7⟩;dsimp only;have a6:=aa d b;have b:=aa g b;refine⟨λ y=>?_,λ d2=>?_⟩
  .obtain⟨h5,hX,_,a2,a3,D1,q1,g1,D2,q2,g2,D3,G,g3,D4,q4,g4,D5,q5,g5,rfl,hU⟩:=o.tabs.at b a9 y;have u:=Q _ (aan h5);rw[Ey,<-hU.sch.name,<-v.name]at u;exact⟨hX,a9,y,_,a2.cy (k:=0) rfl,λ _=>⟨by omega,⟨by omega,by omega⟩,by omega⟩,λ h=>absurd (u.symm.trans h) (by simp)⟩
  obtain⟨ys,y1,y2⟩:=((o.tabs.mono b).sub (j:=0) (k:=xn) (by omega) (by omega)).row;rw[abN,aag (by omega)]at y2;have y3:ys.length=xn*6:=by rw[y2.length,s1];rfl
  have hi:i=(xn):=by omega
  subst hi;have a7:Row _ [ΦT _,S _ _ _,S _ _ _,S _ _ _,S _ _ _,.slice none 0 0] [(⟨s',[]⟩:eC)]:=Row.one ⟨_,_,_,_,_,_,_,_,_,_,_,_,_,_,_,_,rfl,v.mono (aa n a6),Sl.nil⟩;have go:∀(A5:Option _) (c5:Nat) (H5:Heap),Heap.le H4 H5->Cells H5 A5 0 (ys++[ΦT c7,S A1 c6 c1,S A2 n2 c8,S A3 n3 c3,S A4 n4 c4,.slice none 0 0]++[])->xn+1<=c5->Rz (Hs D s') hor 0 D.now D.nid A5 (xn+1) c5 hor Y hn hc Z cn cc 0 H5:=by
   intro A5 c5 H5 q b5 c9;rw[aar]at b5;exact vM rfl ⟨rfl,rfl,(y2.append a7).sl q b5 (by grind) c9 (by show _*136<=_;omega) (by omega),o.holds,o.cits⟩
  simp only[aaV,show(0:Int).toNat=0 from rfl,adY];have b1:(xn+1)*136<=140737488355328:=by omega
  have b4:∀A:Option _,Cells H4 A 0 _:=λ A=> .inl rfl;repeat' first
   | exact go
   |(intro A9 h9;subst h9)
   | refine⟨ys,y1,y3,?_⟩
   | refine⟨[],b4 _,by rfl,?_⟩
   | refine And.intro ?_ ?_
   | omega
end
end
section
def Qw {t:eC}{id x:Int}(h:(bN t.sch id x).2=0):t.sch.fks.any (mY t.sch.name id)=false:=by
 have a:used t.sch id=false:=by
  cases a:used t.sch id with
  | false=>rfl
  | true=>
   unfold bN at h;repeat' split at h
   all_goals simp_all
 simp only[used,acR,abj]at a;rw[abj];intro f b h;refine a.1.1 f b ?_;rw[show(decide _&&f.refs.contains _)=true from h,Bool.or_true]
def JZ {x:ByteArray}{a:List eC}{j:Nat}(h:cO x a=j)(c:j<a.length):a[j].sch.name=x:=by
 have b:∀(a:List eC) (i:Int) (j:Nat) (c:j<a.length),0<=i->idxOf (λ t=>decide (t.sch.name=x)) i a=i+j->a[j].sch.name=x:=by
  intro a;induction a with
  | nil=>simp
  | cons t r d=>
   intro i j c e h;rw[idxOf]at h;split at h
   .grind
   .match j with
    | 0=>
     have b:∀(r:List eC) (i:Int),0<=i->idxOf (λ t=>decide (t.sch.name=x)) i r= -1\/i<=idxOf (λ t=>decide (t.sch.name=x)) i r:=by
      intro r;induction r with
      | nil=>intro i _;exact .inl rfl
      | cons u r d=>intro i f;rw[idxOf];grind
     grind
    | j+1=>grind
 exact b _ 0 j _ (by simp) (by rw[Int.zero_add];exact h)
section
variable {H:Heap}{now nid hor:Int}{X Y Z:D'}{xn xc hn hc cn cc:Nat}{D:Db}{a:Iq}{x:Ed}
def Ka (p:um H now nid X xn xc hn cn D)(r:qj H a x)(y:Tn D)(hx:Ws D x)(ho:x.kind=4->JO (Ou D x)):
  ZB 12 [Ir now nid X xn xc hor Y hn hc Z cn cc,.agg ⟨a.v⟩] H Ac (Rz (oX D x).1 hor (oX D x).2):=by
 have s1:=p.tabs.len;have s3:=p.tabs.bn;have ek:=r.kind;have et:=r.table;have n0:=y.n.n0;have n1:=y.n.n1;have c9:=y.Bp;have k1:=hx.k1;have k6:=hx.k6;have e1:=p.now;have e2:=p.nid;subst e1 e2;refine ΦK 0 (aj [33,128] [] [(17,[ag 8,ag 9]),(20,[ag 8,ag 10])]) (λ b=>let c:=b 0 0 none 0 0 0 none 0 0 none 0 0 1 H;J (a.ek<1) c (J (6<a.ek) c (let d:=[I D.now,I D.nid,S X xn xc,I hor,S Y hn hc,S Z cn cc];J (a.ek=4) (C YT 39 [ΦG d,ΦG [ΦT a.nm,S a.A a.n a.c,S a.B a.m a.d,S a.E a.k a.e,S a.F a.l a.f]] H (λ e f g h i j k l m n o p q r=>b f g h i j k l m n o p q r e)) (C ZP 18 [ΦG d,ΦT a.et] H (λ e f=>J (f<0) (b 0 0 none 0 0 0 none 0 0 none 0 0 8 e) (ΦX X f xn (ΦE XM e X (N f*6) (λ g h i j k l m n o p q r s t u v=>let w:=λ(w:Int) x y z (a0 a1:Nat) a2 (a3 a4:Nat) a5 (a6 a7:Nat) a8 (a9 b0:Nat)=>V (w=0) (b 0 0 none 0 0 0 none 0 0 none 0 0 w x) (C YS 44 [ΦG d,I f,ΦG [ΦT y,S z a0 a1,S a2 a3 a4,S a5 a6 a7,S a8 a9 b0,S t u v]] x (λ b1 b2 b3 b4 b5 b6 b7 b8 b9 c0 c1 c2 c3=>b b2 b3 b4 b5 b6 b7 b8 b9 c0 c1 c2 c3 0 b1));let x:=[ΦT g,S h i j,S k l m,S n o p,S q r s];J (a.ek=5) (ΦR (D.now+1)/\C YO 40 [ΦG x,ΦG [I a.ci,ΦT a.cn,I a.ck],I (D.now+1)] e (λ y z a0 a1 a2 a3 a4 a5 a6 a7 a8 a9 b0 b1 b2=>w b2 y z a0 a1 a2 a3 a4 a5 a6 a7 a8 a9 b0 b1)) (J (a.ek=6) (ΦR (D.now+1)/\C YO 41 [ΦG x,I a.ci,I (D.now+1)] e (λ y z a0 a1 a2 a3 a4 a5 a6 a7 a8 a9 b0 b1 b2=>W ZK y (λ b3=>b3 b2 0 y) λ b3 b4 b5 b6 b7=>J (b7<O xn) (J (b6=0) (W ZK b5 (λ b8=>b8 b6 0 b5) (λ b8 b9 c0 c1 c2=>ΦX X b7 xn (ΦE ZM c0 X (N b7*6+0+3) (λ c3 c4 c5=>J (c2<O c4) (ΦX X b7 xn (ΦE ZM c0 X (N b7*6+0+3) (λ c6 c7 c8=>ΦX c6 c2 c7 (ΦE Xu c0 c6 (N c2*3) (λ c9 d0 d1 d2 d3 d4 d5=>let d6:=λ d6=>ΦR (c2+1)/\b8 c1 (c2+1) d6/\b9 c1 (c2+1)<b9 c1 c2;V (b7=f) (J (d2=a.et) (C ZO 42 [S d3 d4 d5,I a.ci] c0 (λ d7 d8=>ΦQ d8 (ΦR (c2+1)/\b8 18 (c2+1) d7/\b9 18 (c2+1)<b9 c1 c2) (d6 d7))) (d6 c0)) (d6 c0)))))) (ΦR (b7+1)/\b3 c1 (b7+1) c0/\b4 c1 (b7+1)<b4 b6 b7))))) (w b6 b5 z a0 a1 a2 a3 a4 a5 a6 a7 a8 a9 b0 b1)) (w b6 b5 z a0 a1 a2 a3 a4 a5 a6 a7 a8 a9 b0 b1))) (C YT 43 [ΦG d,I f,ΦG [I a.ek,ΦT a.et,S a.va a.vn a.vc,I a.vf,I a.vt,S a.xa a.xn a.xc,I a.ep,S a.sa a.sn a.sc,ΦT a.nm,S a.A a.n a.c,S a.B a.m a.d,S a.E a.k a.e,S a.F a.l a.f,I a.ci,ΦT a.cn,I a.ck]] e (λ y z a0 a1 a2 a3 a4 a5 a6 a7 a8 a9 b0 b1=>b z a0 a1 a2 a3 a4 a5 a6 a7 a8 a9 b0 b1 y))))))))))) ?_;dsimp only[PL,aQ,aR,aW,eQ,C,ΦE,N,ΦQ,ΦR,W,ΦX,O,V,J];simp only[aad,aaf];refine⟨λ h=>absurd h (by omega),λ _=>⟨λ h=>absurd h (by omega),λ _=>⟨λ w=>?_,λ w=>?_⟩⟩⟩
 .rw[ek]at w;have R:oX D x=(Hs D (Ou D x),0):=if_pos w;rw[R];exact⟨_,EC p r.sch y.n (hx.new w) (ho w) (λ t ht=>(y.tab t ht).1.s),λ _ _ _ _ _ _ _ _ _ _ _ _ _ _ _ h=>h⟩
 rw[ek]at w;refine⟨_,ot p.tabs,?_⟩;rintro H2 o _ rfl;rw[show cO a.et D.tabs=cO x.table D.tabs by rw[et]];obtain⟨f0,f1⟩:=uo x.table D.tabs;have b2:=hx.ed;refine⟨λ G=>?_,λ P=>?_⟩
 .have R:oX D x=(D,8):=by
   rw[oX,if_neg w];split<;>simp[G]
  rw[R];exact il (show(8:Int)≠0 by decide)
 have b:(cO x.table D.tabs).toNat<D.tabs.length:=by omega
 have R:oX D x=NB D (cO x.table D.tabs).toNat D.tabs[(cO x.table D.tabs).toNat] x:=by
  rw[oX,if_neg w,aai b];simp only;rw[if_neg P]
 rw[R];have F:D.tabs[(cO x.table D.tabs).toNat].sch.name=x.table:=JZ (by omega) b;generalize cO x.table D.tabs=i at*;obtain⟨j,rfl⟩:=abP (show 0<=i by omega);simp only[Int.ofNat_eq_natCast,aaV]at*;have b:j<D.tabs.length:=by simpa using b
 have hj:D.tabs[j]?=some D.tabs[j]:=aai b;obtain⟨g1,g2,g3⟩:=y.tab _ (aan b);obtain⟨_,hA,_,b5,nm,A1,m1,c1,A2,m2,c2,A3,m3,c3,A4,m4,c4,A5,m5,c5,rfl,M⟩:=p.tabs.at (i:=(j:Int)) o (by omega) (by omega);simp only[aaV]at M;generalize D.tabs[j]=t at*;refine⟨hA,by simp,by omega,_,_,_,_,_,_,_,_,_,_,_,_,_,_,_,_,b5,λ Q=>?_,λ Q=>⟨λ h6=>?_,λ h6=>?_⟩⟩
 .rw[ek]at Q;rw[NB,if_neg (by omega),if_pos Q];have:=xC (a:=x.col.id) (x:=D.now+1) M.sch r.r5 r.r4 (by simp[ae];omega) (by omega);rw[r.ci,r.cn,r.ck];refine⟨by simp[ae];omega,_,this,?_⟩;rintro H3 l a5 B1 k1 f1 B2 k2 f2 B3 k3 f3 B4 k4 f4 d ⟨hS,rfl⟩;have m:=aa o l;refine⟨λ c=>il (aac (oL c)),λ c=>?_⟩;have c:=aab (np c);refine⟨_,mn (t:=⟨_,t.vs⟩) (p.mono m) b ⟨hS,M.vs.mono l⟩,?_⟩;rintro H7 b1 a1 a0 X7 n7 c7 U Y7 b6 a4 Z7 a7 b3 ⟨q,rfl⟩;rw[rF,if_pos (show(Ew _ t _).1=0 from c)];exact vM c ⟨q.now,q.nid,q.tabs,q.holds,q.cits⟩
 .rw[ek]at Q h6;rw[NB,if_neg (by omega),if_neg Q,r.ci];refine⟨by simp[ae];omega,_,vF (x:=D.now+1) M.sch (by simp[ae];omega) (by omega),?_⟩;rintro H3 l a5 B1 k1 f1 B2 k2 f2 B3 k3 f3 B4 k4 f4 d ⟨hS,rfl⟩;have m:=aa o l;refine⟨λ d i _=>0<=i/\i<=xn/\(if(bN t.sch x.col.id (D.now+1)).2≠0 then d=(bN _ _ _).2 else d=0/\gm (D.tabs.take i.toNat) t.sch.name x.col.id=false\/d=18/\gm D.tabs t.sch.name x.col.id=true),λ _ i=>xn-i.toNat,⟨by simp,by simp,by split;rfl;left;exact⟨by omega,rfl⟩⟩,?_⟩;rintro H4 A d i ⟨i0,i1,g⟩;have u:=aa m A;refine⟨λ z=>⟨λ c=>?_,λ c=>?_⟩,λ b4=>?_⟩
  rotate_left
  focus
   have L:d=(sR D.now D.tabs t x.col.id).1:=by
    rw[sR];grind
  rotate_left
  focus
   have L:d=(sR D.now D.tabs t x.col.id).1:=by
    rw[ez b4 s1]at g;rw[sR];grind
  rotate_left
  focus
   subst c;have hz:¬(bN t.sch x.col.id (D.now+1)).2≠0:=λ hz=>by grind
   rw[if_neg hz]at g;have hb:=g.resolve_right λ h=>by grind
   have hi:i.toNat<D.tabs.length:=by omega
   have b7:i=j->D.tabs[i.toNat].sch.fks.any (mY t.sch.name x.col.id)=false:=λ e=>by
    have h9:=Qw (t:=t) (id:=x.col.id) (x:=D.now+1) (by omega);grind
   have a8:gm (D.tabs.take (i+1).toNat) t.sch.name x.col.id=D.tabs[i.toNat].sch.fks.any (mY t.sch.name x.col.id):=by
    have T:=hb.2;rw[gm]at T;rw[bu i0 hi,gm,List.any_append,T];simp
   refine⟨λ d k _=>0<=k/\k<=D.tabs[i.toNat].sch.fks.length/\(d=0/\(i≠j->(D.tabs[i.toNat].sch.fks.take k.toNat).any (mY t.sch.name x.col.id)=false)\/d=18/\gm D.tabs t.sch.name x.col.id=true),λ _ k=>D.tabs[i.toNat].sch.fks.length-k.toNat,⟨by simp,by simp,.inl ⟨rfl,λ _=>rfl⟩⟩,?_⟩;rintro H5 E d k ⟨k0,k1,a3⟩;dsimp only;have E:=aa u E;obtain⟨c8,hX,_,s,d2,D1,q1,d1,D2,q2,b8,D3,q3,c0,D4,q4,c6,D5,q5,b9,rfl,hU⟩:=p.tabs.at E i0 z;have s:=s.cy (k:=3) rfl;have r1:=hU.sch.fks.len;have r2:=hU.sch.fks.bn;refine⟨hX,i0,z,_,_,_,s,λ B=>?_,λ B=>?_⟩
   .obtain⟨a2,a6,_,a9,E1,p1,o1,E2,p2,o2,rfl,u1,u2,u3⟩:=hU.sch.fks.at (ah _) k0 B;have go:(i≠j->mY _ _ _=false)->ae .i64 (k+1)/\(0<=k+1/\k+1<=D.tabs[i.toNat].sch.fks.length/\(d=0/\(i≠j->(D.tabs[i.toNat].sch.fks.take _).any (mY t.sch.name x.col.id)=false)\/d=18/\gm D.tabs t.sch.name x.col.id=true))/\D.tabs[i.toNat].sch.fks.length-(k+1).toNat<D.tabs[i.toNat].sch.fks.length-k.toNat:=λ h=>by
     refine⟨by simp[ae];omega,⟨by omega,by omega,?_⟩,by omega⟩;rcases a3 with⟨h1,h2⟩ | h1
     .exact .inl ⟨h1,λ f=>by rw[bu k0 a2,List.any_append,h2 f,aaS,h f];rfl⟩
     grind
    refine⟨hX,i0,z,_,_,_,s,a6,k0,B,_,_,_,_,_,_,_,a9,λ f=>⟨λ hn=>⟨_,dQ u3,?_⟩,λ hn=>go λ _=>?_⟩,λ b0=>go λ f=>absurd (aab (np b0)) f⟩
    .rintro H6 d0 _ rfl;refine⟨λ hc=>?_,λ hc=>go λ _=>?_⟩
     .refine⟨by simp[ae];omega,⟨by omega,by omega,.inr ⟨rfl,?_⟩⟩,by omega⟩;rw[gm,abD];refine⟨_,aan _,abD.2 ⟨_,aan a2,?_⟩⟩;rw[mY,hc,hn,et,F];simp
     .rw[mY,hc,acT]
    .rw[mY,F,<-et,aao hn];rfl
   .rw[aag (by omega)]at a3;refine⟨by simp[ae];omega,⟨by omega,by omega,?_⟩,by omega⟩;grind
  all_goals
   rw[L];refine⟨λ c=>il (aac (oL c)),λ c=>?_⟩;have c:=aab (np c);have hR:(sR D.now D.tabs t x.col.id).2=(bN t.sch x.col.id (D.now+1)).1:=by
    unfold sR at c⊢;grind
   refine⟨_,mn (t:=⟨_,t.vs⟩) (p.mono u) b ⟨hS.mono A,M.vs.mono (aa l A)⟩,?_⟩;rintro H7 b1 a1 a0 X7 n7 c7 U Y7 b6 a4 Z7 a7 b3 ⟨q,rfl⟩;rw[rF,if_pos c];exact vM c ⟨q.now,q.nid,by rw[hR];exact q.tabs,q.holds,q.cits⟩
 .rw[NB,if_pos (by omega)];exact⟨_,EB (p.mono o) hj (r.mono o) b2 g1 y.n g3 (by omega),λ _ _ _ _ _ _ _ _ _ _ _ _ _ _ _ h=>h⟩
end
end
section
def bJ (d:Db):List Ed->Db×Int
 |[]=>(d,0)
 | x::r=>if(oX d x).2=0 then bJ (oX d x).1 r else(d,(oX d x).2)
def Fg (d:Db):List Ed->Prop
 |[]=>Tn d
 | x::r=>Tn d/\Ws d x/\(x.kind=4->JO (Ou d x))/\((oX d x).2=0->Fg (oX d x).1 r)
def uq (d:Db):Bool:=d.tabs.any λ t=>decide (4096<t.vs.length)
def Bv (d:Db)(es:List Ed)(k:Int):Int:=if 200<es.length then 4 else if(bJ d es).2≠0 then(bJ d es).2 else if uq (bJ d es).1=true then 12 else k
def mZ (d:Db)(es:List Ed):Db:=⟨(bJ d es).1.now+1,(bJ d es).1.nid,(bJ d es).1.tabs⟩
def Fg.run {d:Db}:∀{es:List Ed},Fg d es->(bJ d es).2=0->Tn (bJ d es).1:=by
 intro es;induction es generalizing d with
 | nil=>intro h _;exact h
 | cons x r c=>
  intro h a;rw[bJ]at a⊢;split at a
  .rename_i b;rw[if_pos b];exact c (h.2.2.2 b) a
  grind
section
variable {H:Heap}{now nid hor:Int}{X Y Z E:D'}{xn xc hn hc cn cc en ec q:Nat}{D:Db}{es:List Ed}{k:Int}
def NF (hd:um H now nid X xn xc hn cn D)(he:Sl H E en ec es)(hD:Fg D es)
  (x:(bJ D es).2=0->∀{M:Heap} {X Y Z:D'} {now nid hor:Int} {xn xc hn hc cn cc:Nat},Heap.le H M->um M now nid X xn xc hn cn (bJ D es).1->ZB 19 [Ir now nid X xn xc hor Y hn hc Z cn cc] M gL (λ r _=>r=k)):
  ZB 29 [Ir now nid X xn xc hor Y hn hc Z cn cc,S E en ec] H Ac (Rz (mZ D es) hor (Bv D es k)):=by
 have s1:=hd.tabs.len;have s3:=hd.tabs.bn;have a1:=he.len;have a2:=he.bn;refine ΦK 5 {aj [26,46] [] [(5,[ag 21,.box 4 30 [.int .i64,.int .i64,.row 58 53,.int .i64,.sl,.sl],.box 6 30 [.int .i64,.int .i64,.row 59 53,.int .i64,.sl,.sl]]),(12,[ag 35,.box 4 30 [.int .i64,.int .i64,.row 60 53,.int .i64,.sl,.sl]])]with res:=wj [(18,⟨false,[(true,[.int .i64,.int .i64,.row 57 53,.int .i64,.sl,.sl])]⟩)],bx:=λ | some 26,76=>some [.int .i64,.int .i64,.row 56 53,.int .i64,.sl,.sl] | _,_=>none} (λ a=>J (200<O en) (a 0 0 none 0 0 0 none 0 0 none 0 0 4 H) (C YU 75 [ΦG [I now,I nid,S X xn xc,I hor,S Y hn hc,S Z cn cc]] H (λ b c d e f g h i j k l m=>W Yg b (λ n=>n 0 0 0 0 [] 0 none 0 0 none 0 0 c d e f g h i j k l m b) λ n o p q r s t u v w x y z a0 a1 a2 a3 a4 a5 a6 a7 a8 a9 b0 b1 b2=>J (q<O en) (ΦX E q en (ΦE Yh p E (N q*16) (λ b3 b4 b5 b6 b7 b8 b9 c0 c1 c2 c3 c4 c5 c6 c7 c8 c9 d0 d1 d2 d3 d4 d5 d6 d7 d8 d9 e0 e1 e2=>tS Yi ZP 76 [BA.me,BA.v (ΦG [I b3,ΦT b4,S b5 b6 b7,I b8,I b9,S c0 c1 c2,I c3,S c4 c5 c6,ΦT c7,S c8 c9 d0,S d1 d2 d3,S d4 d5 d6,S d7 d8 d9,I e0,ΦT e1,I e2])] 30 [BC.v (I a2),BC.v (I a3),BC.row 53 a4 a5,BC.v (I a6),BC.v (S a7 a8 a9),BC.v (S b0 b1 b2)] p ux λ e3 e4 e5 e6 e7 e8 e9 f0 f1 f2 f3 f4 f5 f6=>V (f6=0) (a 0 0 none 0 0 0 none 0 0 none 0 0 f6 e3) (ΦR (q+1)/\n (q+1) r s t u v w x y z a0 a1 e5 e6 e7 e8 e9 f0 f1 f2 f3 f4 f5 e3/\o (q+1) r s t u v w x y z a0 a1 e5 e6 e7 e8 e9 f0 f1 f2 f3 f4 f5<o q r s t u v w x y z a0 a1 a2 a3 a4 a5 a6 a7 a8 a9 b0 b1 b2)))) (W XT p (λ b3=>b3 0 r s t u v w x y z a0 a1 p) (λ b3 b4 b5 b6 b7 b8 b9 c0 c1 c2 c3 c4 c5 c6 c7=>J (b6<O a4) (ΦY b6 a4 (ΦF XM a5 (N b6*6) 6 (λ c8 c9 d0 d1 d2 d3 d4 d5 d6 d7 d8 d9 e0 e1 e2 e3=>J (4096<O e2) (a 0 0 none 0 0 0 none 0 0 none 0 0 12 b5) (ΦR (b6+1)/\b3 (b6+1) b7 b8 b9 c0 c1 c2 c3 c4 c5 c6 c7 b5/\b4 (b6+1) b7 b8 b9 c0 c1 c2 c3 c4 c5 c6 c7<b4 b6 b7 b8 b9 c0 c1 c2 c3 c4 c5 c6 c7)))) (∃c8:Int->Heap->Prop,U b5 a5 a4 (λ c9 d0 d1=>af Tryz.prog 19 [ΦG [I a2,I a3,S c9 a4 d0,I a6,S a7 a8 a9,S b0 b1 b2]] d1 ⟨false,[(false,[.int .i64])]⟩ c8)/\∀(c9:Heap)(d0:Int),c8 d0 c9->V (d0=0) (a 0 0 none 0 0 0 none 0 0 none 0 0 d0 b5) (ΦR (a2+1)/\U b5 a5 a4 (λ d1 d2 d3=>a (a2+1) a3 d1 a4 d2 a6 a7 a8 a9 b0 b1 b2 0 d3)))))))) ?_;dsimp only[PL,aQ,aR,aW,eQ,C,tS,ΦE,ΦF,N,ΦR,W,ΦX,ΦY,O,V,J];refine⟨λ h=>?_,λ h=>?_⟩
 .have h:=aab h;rw[Bv,if_pos (by omega)];exact il (by decide)
 have h:=aac h;have hC:Bv D es k=if(bJ D es).2≠0 then(bJ D es).2 else if uq (bJ D es).1=true then 12 else k:=if_neg (by omega);rw[hC];refine⟨_,Qq hd,?_⟩;rintro H1 a3 b3 b5 n1 d7 b6 d0 b7 e1 d1 d4 d8 ⟨a8,rfl,rfl,rfl⟩;refine⟨λ i v1 v2 v3 v4 v5 v6 v7 v8 v9 a6 a4 m p v z q w Q A G P F M=>0<=i/\i<=en/\∃d,ou M m p v z d/\hor=q/\0=Q/\0=P/\Fg d (es.drop i.toNat)/\bJ D es=bJ d (es.drop i.toNat),
  λ i _ _ _ _ _ _ _ _ _ _ _ _ _ _ _ _ _ _ _ _ _ _=>en-i.toNat,⟨by omega,by omega,D,a8,rfl,rfl,rfl,hD,rfl⟩,?_⟩
 rintro H2 a7 i v1 v2 v3 v4 v5 v6 v7 v8 v9 a6 a4 m p v z q w Q A G P F ⟨u,i1,d,g,rfl,rfl,rfl,b,e⟩;dsimp only;have o:=aa a3 a7;refine⟨λ c=>?_,λ j=>?_⟩
 .have c:=aab c;obtain⟨hi,hA,_,b0,a,rfl,hx⟩:=he.at o u c;rw[ak u hi]at b e;obtain⟨o1,o2,o3,o4⟩:=b;refine⟨hA,u,c,_,_,_,_,_,_,_,_,_,_,_,_,_,_,_,_,_,_,_,_,_,_,_,_,_,_,_,_,_,_,b0,_,Qr (r:=⟨hor,w,0,A,G,0,F⟩) g hx o1 o2,?_⟩;rintro H3 s O3 b1 b4 n3 b8 b2 d3 c7 c8 c6 d5 c0 e3 ⟨a0,B,-,rfl⟩;simp only[RL.mk.injEq]at B;obtain⟨rfl,-,rfl,-,-,rfl,-⟩:=B;refine⟨λ f=>?_,λ f=>?_⟩
  .have f:=aac (oL f);have hr:(bJ D es).2=(oX d es[i.toNat]).2:=by rw[e,bJ,if_neg f]
   rw[hr,if_pos f];exact il f
  .have f:=aab (np f);exact⟨by omega,⟨by omega,by omega,_,a0,rfl,rfl,rfl,o4 f,by rw[e,bJ,if_pos f]⟩,by omega⟩
 .have j:=aac j;rw[ai j a1]at b e;have l:bJ D es=(d,0):=e;have b:Tn d:=b;rw[l,if_neg (by simp)];rw[l]at x;have e3:=g.len;have d2:=b.Bp;have h1:=b.n.n0;have h2:=b.n.n1;have h3:=g.now;refine⟨λ i _ _ _ _ _ _ _ _ _ _ _ _=>0<=i/\i<=v/\uq d=(d.tabs.drop i.toNat).any (λ t=>decide (4096<t.vs.length)),λ i _ _ _ _ _ _ _ _ _ _ _=>v-i.toNat,⟨by simp,by simp,rfl⟩,?_⟩;rintro H3 s i u1 u2 u3 u4 u5 u6 u7 u8 u9 b9 d6 ⟨u,i1,y⟩;refine⟨λ c=>?_,λ j=>?_⟩
  .have c:=aab c;have hi:i.toNat<d.tabs.length:=by omega
   obtain⟨vs,⟨nm,A1,m1,c1,A2,m2,c2,A3,m3,c3,A4,m4,c4,A5,m5,c5,rfl,hT⟩,R,-⟩:=g.row.vJ _;have hv:=hT.vs.len;rw[ak u hi,aaS]at y;refine⟨u,c,_,_,_,_,_,_,_,_,_,_,_,_,_,_,_,_,R 0 6 (by decide),λ T=>?_,λ T=>?_⟩
   .have T:=aab T;rw[aau (by omega),abE]at y;rw[if_pos y];exact il (by simp)
   grind
  have j:=aac j;rw[ai j e3.symm,abJ]at y;rw[y,if_neg (by simp)];have hS:∀{A4:Option _} {c4:Nat} {H4:Heap},Heap.le _ _->Cells H4 A4 0 _->v<=c4->Sl _ _ _ _ _:=λ hl hc hn=>(g.row.mono s).sl hl hc e3.symm hn (by show v*136<=_;omega) (by omega);refine⟨_,λ A4 c4 H4 L a5 a9=>x rfl (aa o (aa s L)) ⟨h3,g.nid,hS L a5 a9,rfl,rfl⟩,?_⟩;rintro H4 _ rfl;refine⟨λ f=>il (aac (oL f)),λ f=>?_⟩;have f:=aab (np f);refine⟨by omega,?_⟩;intro A5 c5 H5 e0 d9 c9;exact vM f ⟨by rw[mZ,l,h3],by rw[mZ,l,g.nid],by rw[mZ];grind,rfl,rfl⟩
def ED (hd:um H now nid X xn xc hn cn D)(he:Sl H E en ec es)(hD:Fg D es)
  (u:(bJ D es).2=0->∀{z:Heap} {X Y Z:D'} {now nid hor:Int} {xn xc hn hc cn cc:Nat},um z now nid X xn xc hn cn (bJ D es).1->ZB 20 [Ir now nid X xn xc hor Y hn hc Z cn cc] z gL (λ r _=>r=k)):
  ZB 143 [Ir now nid X xn xc hor Y hn hc Z cn cc,S E en ec] H Ac (Rz (mZ D es) hor (Bv D es k)):=by
 have s1:=hd.tabs.len;have s3:=hd.tabs.bn;have a1:=he.len;have a2:=he.bn;refine ΦK 0 (aj [52] [(6,nc)] [(4,[ag 6,.box 2 30 [.int .i64,.int .i64,.sl,.int .i64,.sl,.sl],.box 4 30 [.int .i64,.int .i64,.sl,.int .i64,.sl,.sl]]),(11,[ag 9,.box 4 30 [.int .i64,.int .i64,.sl,.int .i64,.sl,.sl]])]) (λ a=>J (200<O en) (a 0 0 none 0 0 0 none 0 0 none 0 0 4 H) (W Yj H (λ b=>b 0 now nid X xn xc hor Y hn hc Z cn cc 0 0 none 0 0 0 none 0 0 none 0 0 H) (λ b c d e f g h i j k l m n o p q r s t u v w x y z a0 a1 a2=>let a3:=[I f,I g,S h i j,I k,S l m n,S o p q];J (e<O en) (ΦX E e en (ΦE Yh d E (N e*16) (λ a4 a5 a6 a7 a8 a9 b0 b1 b2 b3 b4 b5 b6 b7 b8 b9 c0 c1 c2 c3 c4 c5 c6 c7 c8 c9 d0 d1 d2 d3=>let d4:=C YT 12 [ΦG a3,ΦG [I a4,ΦT a5,S a6 a7 a8,I a9,I b0,S b1 b2 b3,I b4,S b5 b6 b7,ΦT b8,S b9 c0 c1,S c2 c3 c4,S c5 c6 c7,S c8 c9 d0,I d1,ΦT d2,I d3]] d λ d4 d5 d6 d7 d8 d9 e0 e1 e2 e3 e4 e5 e6 e7=>V (e7=0) (a 0 0 none 0 0 0 none 0 0 none 0 0 e7 d4) (ΦR (e+1)/\b (e+1) d5 d6 d7 d8 d9 e0 e1 e2 e3 e4 e5 e6 r s t u v w x y z a0 a1 a2 d4/\c (e+1) d5 d6 d7 d8 d9 e0 e1 e2 e3 e4 e5 e6 r s t u v w x y z a0 a1 a2<c e f g h i j k l m n o p q r s t u v w x y z a0 a1 a2);d4/\d4))) (W Yk d (λ a4=>a4 0 r s t u v w x y z a0 a1 a2 d) (λ a4 a5 a6 a7 a8 a9 b0 b1 b2 b3 b4 b5 b6 b7 b8 b9=>J (a7<O i) (ΦX h a7 i (ΦE ZM a6 h (N a7*6+5) (λ c0 c1 c2=>J (4096<O c1) (a 0 0 none 0 0 0 none 0 0 none 0 0 12 a6) (ΦR (a7+1)/\a4 (a7+1) a8 a9 b0 b1 b2 b3 b4 b5 b6 b7 b8 b9 a6/\a5 (a7+1) a8 a9 b0 b1 b2 b3 b4 b5 b6 b7 b8 b9<a5 a7 a8 a9 b0 b1 b2 b3 b4 b5 b6 b7 b8 b9)))) (C ZP 20 [ΦG a3] a6 (λ c0 c1=>V (c1=0) (a 0 0 none 0 0 0 none 0 0 none 0 0 c1 c0) (ΦR (f+1)/\a (f+1) g h i j k l m n o p q 0 c0)))))))) ?_;dsimp only[PL,aQ,aR,aW,eQ,C,ΦE,N,ΦR,W,ΦX,O,V,J];refine⟨λ h=>?_,λ h=>?_⟩
 .have h:=aab h;rw[Bv,if_pos (by omega)];exact il (by decide)
 have h:=aac h;have hC:Bv D es k=if(bJ D es).2≠0 then(bJ D es).2 else if uq (bJ D es).1=true then 12 else k:=if_neg (by omega);rw[hC];refine⟨λ i o p A2 y F q G x P T w Q v1 v2 v3 v4 v5 v6 v7 v8 v9 R L a3 z=>0<=i/\i<=en/\∃d,um z o p A2 y F x w d/\hor=q/\Fg d (es.drop i.toNat)/\bJ D es=bJ d (es.drop i.toNat),
  λ i _ _ _ _ _ _ _ _ _ _ _ _ _ _ _ _ _ _ _ _ _ _ _ _=>en-i.toNat,⟨by omega,by omega,D,hd,rfl,hD,rfl⟩,?_⟩
 rintro H2 U i o p A2 y F q G x P T w Q v1 v2 v3 v4 v5 v6 v7 v8 v9 R L a3 ⟨s,i1,d,b,rfl,g,e⟩;dsimp only;refine⟨λ c=>?_,λ j=>?_⟩
 .have c:=aab c;obtain⟨hi,M,_,t,a,rfl,hx⟩:=he.at U s c;rw[ak s hi]at g e;obtain⟨o1,o2,o3,o4⟩:=g;refine⟨M,s,c,_,_,_,_,_,_,_,_,_,_,_,_,_,_,_,_,_,_,_,_,_,_,_,_,_,_,_,_,_,_,t,Bu ⟨_,Ka b hx o1 o2 o3,?_⟩⟩;rintro H3 m a4 a6 A3 n3 c3 a5 b3 b1 b2 b0 b4 a9 e3 ⟨rfl,hz,-⟩;refine⟨λ f=>?_,λ f=>?_⟩
  .have f:=aac (oL f);have hr:(bJ D es).2=(oX d es[i.toNat]).2:=by rw[e,bJ,if_neg f]
   rw[hr,if_pos f];exact il f
  .have f:=aab (np f);obtain⟨B,rfl⟩:=hz f;exact⟨by omega,⟨by omega,by omega,_,B,rfl,o4 f,by rw[e,bJ,if_pos f]⟩,by omega⟩
 .have j:=aac j;rw[ai j a1]at g e;have l:bJ D es=(d,0):=e;have g:Tn d:=g;rw[l,if_neg (by simp)];rw[l]at u;have t1:=b.tabs.len;have t2:=b.tabs.bn;have h1:=g.n.n0;have h2:=g.n.n1;have h3:=b.now;refine⟨λ i _ _ _ _ _ _ _ _ _ _ _ _ _=>0<=i/\i<=y/\uq d=(d.tabs.drop i.toNat).any _,λ i _ _ _ _ _ _ _ _ _ _ _ _=>y-i.toNat,⟨by simp,by simp,rfl⟩,?_⟩;rintro H3 m i u1 u2 u3 u4 u5 u6 u7 u8 u9 a8 b5 a7 ⟨s,i1,v⟩;refine⟨λ c=>?_,λ j=>?_⟩
  .have c:=aab c;obtain⟨hi,M,_,t,nm,A1,m1,c1,A2,m2,F,A3,m3,c3,A4,m4,c4,A5,m5,c5,rfl,hT⟩:=b.tabs.at m s c;have hv:=hT.vs.len;rw[ak s hi,aaS]at v;refine⟨M,s,c,_,_,_,t.cy (k:=5) rfl,λ A=>?_,λ A=>?_⟩
   .have A:=aab A;rw[aau (by omega),abE]at v;rw[if_pos v];exact il (by simp)
   grind
  have j:=aac j;rw[ai j t1]at v;rw[v,if_neg (by simp)];refine⟨_,u rfl (b.mono m),?_⟩;rintro H4 a0 _ rfl;refine⟨λ f=>il (aac (oL f)),λ f=>?_⟩;have f:=aab (np f);refine⟨by omega,?_⟩;exact vM f ⟨by rw[mZ,l,h3],by rw[mZ,l,b.nid],by rw[mZ,l];exact b.tabs.mono (aa m a0),b.holds,b.cits⟩
end
end
end Go.Vc
