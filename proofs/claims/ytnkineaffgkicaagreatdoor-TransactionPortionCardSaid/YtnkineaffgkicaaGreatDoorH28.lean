/- A part of the proof. -/
import Derived.Test.YtnkineaffgkicaaGreatDoorH27
import Derived.Test.YtnkineaffgkicaaGreatDoorH21
set_option maxHeartbeats 0
set_option maxRecDepth 100000
set_option linter.unusedVariables false
set_option linter.defProp false
set_option linter.unusedSimpArgs false
namespace Go.Vc
open Go Go.Shelf Go.Proofs
def LF (a b:aO):Int:=cQ a.p.lo b.p.lo
def NZ:Sort.SWO (ltOf LF):=DY fQ λ t:aO=>t.p.lo
def BB {H:Heap}{A:D'}{n c:Nat}{l:List aO}{f:FuncId}{q:Value}{p:aO->Bool}(j:Sl H A n c l)(t:kP Tryz.prog aO H f q p):
  ZB 323 [S A n c,.func (.func f) #[] #[q]] H gL (λ r _=>r=idxOf p 0 l):=by
 refine ΦK 0 (aj [16] [] [(2,[ag 8])]) (λ a=>W ZE H (λ b=>b 0 H) λ b c d e=>J (e<O n) (ΦX A e n (ΦE ZI d A (N e*4) (λ g h i j k l m o=>C ZO f [ΦG [S g h i,I j,I k,S l m o],q] d λ p r=>ΦQ r (a e p) (ΦR (e+1)/\b (e+1) p/\c (e+1)<c e)))) (a (-1) d)) ?_;dsimp only[PL,aQ,aR,aW,eQ,C,ΦE,N,ΦQ,ΦR,W,ΦX,O,J];refine⟨λ n _=>0<=n/\n<=l.length/\idxOf p 0 l=idxOf p n (l.drop n.toNat),λ n=>l.length-n.toNat,P' rfl,?_⟩;rintro F e i ⟨h,z,k⟩;simp only[aad,aaf];refine⟨λ a=>?_,λ g=>?_⟩
 .obtain⟨u,o,_,v,m⟩:=j.at e h a;have d:=t _ _ _ e m;obtain⟨E,B,y,D,x,G,rfl,-⟩:=m;refine⟨o,h,a,_,_,_,_,_,_,_,_,v,_,d,?_⟩;rintro w _ b rfl;rw[ak h u,idxOf]at k;refine⟨λ s=>?_,λ s=>⟨?_,y' ?_,by omega⟩⟩
  .grind
  .have:=j.bn;grind
  grind
 .rw[ai g j.len,idxOf]at k;grind
def Ay {H0 H:Heap}{n r:Nat}{Y:G'}{l:List aO}{f:FuncId}{q:Value}{p:aO->Bool}(b:Heap.le H0 H)(M:Row H0 Y l)(G:l.length=n)(hb:n*64<=140737488355328)(X:kP Tryz.prog aO H f q p):
  ZC 247 [.slice none 0 0,.func (.func f) #[] #[q]] 0 107 n Y false H ⟨false,[(false,[.row r 107])]⟩
   (λ _=>λ k z _=>k=(l.filter λ x=> !p x).length/\Row H0 z (l.filter λ x=> !p x)):=by
 refine RY 1 (aj [10,28] [] [(5,[.slot 0 false [.row 42 107],ag 5,ag 6])]) (λ a=>∃b:Int->Heap->Prop,U H Y n (λ c d e=>af Tryz.prog 323 [S c n d,.func (.func f) ⟨[]⟩ ⟨[q]⟩] e ⟨false,[(false,[.int .i64])]⟩ b)/\∀(c:Heap)(d:Int),b d c->J (d=-1) (a n Y H) (ΦR (d+1)/\W Xo H (λ e=>e n Y d (d+1) H) (λ e g h i j k l=>J (l<O i) (ΦY l i (ΦF ZI j (N l*4) 4 (λ m o p r s t u v=>let w:=[S m o p,I r,I s,S t u v];C ZO f [ΦG w,q] h λ x y=>ΦQ (!y) (ΦY k i (N k*4+4<=L j/\ΦR (k+1)/\ΦR (l+1)/\e i (av j (N k*4) w) (k+1) (l+1) x/\g i (av j (N k*4) w) (k+1) (l+1)<g i j k l)) (ΦR (l+1)/\e i j k (l+1) x/\g i j k (l+1)<g i j k l)))) (0<=k/\k<=O i/\O i<=O i/\(0:Int)<=0/\0<=k/\k<=O i/\(let m:=av j (N k*4) (dE [S none 0 0,I 0,I 0,S none 0 0] (N (O i)-N k));a (N k-0) (List.take (L m/i*(N k-0)) m) h))))) ?_;dsimp only[PL,aQ,aR,aW,eQ,C,ΦF,L,N,ΦQ,ΦR,W,ΦY,O,J];refine⟨_,λ A1 c1 H3 V m hn=>BB (M.sl (aa b V) m G hn hb (by omega)) (λ H' vs t u o=>X H' vs t (aa V u) o),?_⟩;rintro H7 w rfl;rcases sH p l 0 (by omega)with⟨u,o⟩ |⟨T,u,o,h3⟩
 .refine⟨λ _=>⟨by rw[o,G],by rw[o];exact M⟩,λ A=>?_⟩;have:=aac A;exact absurd u this
 rw[u];refine⟨λ A=>by have:=aab A;omega,λ A=>u' ?_⟩;refine⟨λ k z i j _=>k=n/\0<=i/\i<j/\j<=n/\∃a:List aO,Row H0 z a/\a.length=n/\a.take i.toNat=(l.take j.toNat).filter (λ x=> !p x)/\a.drop j.toNat=l.drop j.toNat,
  λ _ _ _ j=>n-j.toNat,⟨rfl,J' ⟨l,M,G,by rw[show((0:Int)+T+1).toNat=T+1 by omega,h3];congr 1;omega,rfl⟩⟩,?_⟩
 rintro P s k z i j ⟨rfl,w,a2,a5,a,m,h,D,R⟩;have E:=m.length;refine ΦD (λ B=>?_) λ a1=>?_
 .have hj:j.toNat<a.length:=by omega
  have y:j.toNat<l.length:=by omega
  have F:a[j.toNat]=l[j.toNat]:=by
   have:=aak (λ x=>x[0]?) R;simp only[acq,adW]at this;rw[aai hj,aai y]at this;simpa using this
  have v:=m.dO hj;rw[F]at v;have d:=m.dV (i:=i.toNat) (by omega) v;have c:=X P _ _ s (Rep.mono (aa b s) v);have g:=mO p y;have e1:(j+1).toNat=j.toNat+1:=by omega
  have Q:a.drop (j.toNat+1)=l.drop (j.toNat+1):=by
   rw[<-abT,<-abT,R]
  generalize a3:win z (j.toNat*Rep.sz aO) (Rep.sz aO)=wv at v d c;obtain⟨A9,n9,c9,B9,m9,d9,rfl,-⟩:=v;refine u' ⟨B,_,_,_,_,_,_,_,_,rfl,_,c,?_⟩;rintro a6 a4 _ rfl;refine⟨λ e=>?_,λ e=>?_⟩
  .have e:p l[j.toNat]=false:=by simpa using e
   rw[if_neg (by simp[e])]at g;refine⟨w,by omega,?_,y' ⟨⟨rfl,J' ⟨a.set i.toNat l[j.toNat],d,by simpa using h,?_,?_⟩⟩,by dsimp only;omega⟩⟩
   .rw[E];show i.toNat*4+4<=a.length*4;omega
   .rw[e1,g,<-D,show(i+1).toNat=i.toNat+1 by omega,aaj (by simp;omega),aeh (by omega)];simp
   .rw[e1,aeg (by omega),Q]
  .have e:p l[j.toNat]=true:=by simpa using e
   rw[if_pos e,aar]at g;exact u' ⟨⟨rfl,w,y' ⟨a,m,h,T' (by grind)⟩⟩,by grind⟩
 .rw[aag (by omega:l.length<=j.toNat)]at D;have a7:i.toNat=(l.filter λ x=> !p x).length:=by
   grind
  have a0:=zz (Z:=dE [.slice none 0 0,Φi 0,Φi 0,.slice none 0 0] (Int.toNat (k)-i.toNat)) m h (i:=i.toNat) (by omega) (by rw[gz];rfl);refine⟨w,u' (P' ⟨w,y' ?_⟩)⟩;rw[<-D];omega
section
variable {a:Heap}
def lW {e b c d:Int}:ZB 250 [.agg ⟨[Φi e,Φi b]⟩,.agg ⟨[Φi c,Φi d]⟩] a ⟨true,[(true,[.int .i64,.int .i64]),(false,[.bool])]⟩
  (λ x y r _=>r=nT ⟨e,b⟩ ⟨c,d⟩/\(r=true->x=(gh ⟨e,b⟩ ⟨c,d⟩).lo/\y=(gh ⟨e,b⟩ ⟨c,d⟩).hi)/\(r=false->x=0/\y=0)):=by
 refine ΦK 0 (aj [19,23] [] []) (λ f=>C ZO 139 [ΦG [I e,I b]] a λ g h=>ΦQ (!h) (f 0 0 false g) (C ZO 139 [ΦG [I c,I d]] g (λ i j=>ΦQ (!j) (f 0 0 false i) (J (min b d<=max e c) (f 0 0 false i) (f (max e c) (min b d) true i))))) ?_;dsimp only[aQ,aR,C,ΦQ,J];refine⟨_,bX,?_⟩;rintro f _ _ rfl;refine⟨λ h=>?_,λ h=>⟨_,bX,?_⟩⟩
 .grind[nT]
 grind[nT,gh]
def same {T:Type}[DecidableEq T]:List T->List T->Bool:=λ a b=>decide (a=b)
def VR (p:bc)(c:ae .i64 p.lo)(b:ae .i64 p.hi):Row a [Φi p.lo,Φi p.hi] [p]:=Row.one ⟨rfl,c,b⟩
section
variable {H:Heap}{A B:D'}{n c m d:Nat}{l k:List bc}
def sX (hs:Sl H A n c l)(ht:Sl H B m d k):ZB 182 [S A n c,S B m d] H fi (λ A' n' c' E=>Sl E A' n' c' (diff l k)):=by
 refine ΦK 2 (aj [] [] [(4,[.slot 5 false [.row 66 36],ag 16]),(8,[.slot 5 false [.row 67 36],ag 8,ag 24])]) (λ a=>C ZT 177 [S B m d] H λ b e f g=>C ZT 177 [S A n c] b λ h i j k=>W ZG h (λ l=>l 0 [] 0 h) λ l o p q r s=>J (s<O j) (ΦX i s j (ΦE ZK p i (N s*2) (λ t u=>W Xo p (λ v=>v q r t 0 p) λ v w x y z a0 a1=>let a2:=λ(a2:Int)=>z++[Value.int .i64 a0,I a2];J (a1<O f) (ΦX e a1 f (ΦE ZK x e (N a1*2) (λ a3 a4=>let a5:=ΦR (a1+1)/\v y z a0 (a1+1) x/\w y z a0 (a1+1)<w y z a0 a1;J (a4<=a0) a5 (J (u<=a3) a5 (J (a0<a3) ((y+1)*16<=M/\ΦR (a1+1)/\v (y+1) (a2 a3) a4 (a1+1) x/\w (y+1) (a2 a3) a4 (a1+1)<w y z a0 a1) (ΦR (a1+1)/\v y z a4 (a1+1) x/\w y z a4 (a1+1)<w y z a0 a1)))))) (J (a0<u) ((y+1)*16<=M/\ΦR (s+1)/\l (y+1) (a2 u) (s+1) x/\o (y+1) (a2 u) (s+1)<o q r s) (ΦR (s+1)/\l y z (s+1) x/\o y z (s+1)<o q r s))))) (U p r q (λ t u v=>a t q u v))) ?_;dsimp only[PL,aQ,aR,aW,eQ,C,ΦE,M,N,ΦR,W,ΦX,O,J];refine⟨_,bP ht,?_⟩;intro H1 l1 A1 z c1 G;refine⟨_,bP (hs.mono l1),?_⟩;intro H2 l2 A2 n2 c2 X;have G:=G.mono l2;have b1:=G.bn;have b2:=G.len;have b3:=X.bn;have b4:=X.len;have x:=Sd (Pp l k);have F:=mK (bW l);have y:=mK (bW k);have a2:iv=1099511627776:=rfl;generalize hR:diff l k=R at x;refine⟨λ u L i E=>0<=i/\i<=n2/\∃g:List bc,Row E L g/\g.length=u/\R=g++iI ((norm l).drop i.toNat) (norm k),λ _ _ i=>n2-i.toNat,⟨by omega,by omega,[],rfl,rfl,by rw[<-hR];rfl⟩,?_⟩;rintro H3 l3 u L i ⟨P,i1,g,hr,hu,D⟩;refine⟨λ s=>?_,λ a0=>?_⟩
 .have s:=aab s;obtain⟨hi,hA,_,hc,⟨rfl,r1,r2⟩⟩:=X.at l3 P s;have o1:=F _ (aan hi);rw[ak P hi]at D;generalize (norm l)[i.toNat]=p at hc r1 r2 o1 D;refine⟨hA,P,s,_,_,hc,λ u L t j E=>0<=j/\j<=z/\0<=t/\t<=iv/\∃g:List bc,Row E L g/\g.length=u/\R=g++cut t p.hi ((norm k).drop j.toNat)++iI ((norm l).drop (i+1).toNat) (norm k),λ _ _ _ j=>z-j.toNat,
   ⟨by omega,by omega,by omega,by omega,g,hr,hu,by rw[D,iI,abe];simp[iI]⟩,?_⟩
  rintro H4 l4 u4 Y t j ⟨j0,j1,t0,t1,o,r,w,f⟩;refine⟨λ v=>?_,λ Q=>?_⟩
  .have v:=aab v;obtain⟨ji,jA,_,jc,⟨rfl,q1,q2⟩⟩:=G.at (aa l3 l4) j0 v;have o2:=y _ (aan ji);rw[ak j0 ji,cut]at f;generalize (norm k)[j.toNat]=q at jc q1 q2 o2 f;have skip:(q.hi<=t\/p.hi<=q.lo)->ae .i64 (j+1)/\(0<=j+1/\j+1<=z/\0<=t/\t<=iv/\∃g:List bc,Row H4 Y g/\g.length=u4/\R=g++cut t p.hi ((norm k).drop (j+1).toNat)++iI ((norm l).drop (i+1).toNat) (norm k))/\z-(j+1).toNat<z-j.toNat:=by
    intro h;rw[if_pos h]at f;exact⟨by simp[ae];omega,⟨by omega,by omega,t0,t1,o,r,w,f⟩,by omega⟩
   refine⟨jA,j0,v,_,_,jc,λ a=>skip (.inl (aab a)),λ a=>⟨λ b=>skip (.inr (aab b)),λ b=>?_⟩⟩;have a:=aac a;have b:=aac b;rw[if_neg (by omega)]at f;refine ΦD (λ e=>?_) λ e=>?_
   .rw[if_pos e]at f;have Z:=aak List.length f;simp at Z;refine⟨by omega,by simp[ae];omega,⟨by omega,by omega,by omega,by omega,o++[⟨t,q.lo⟩],r.append (Row.one (T:=bc) (t:=(⟨t,q.lo⟩)) ⟨rfl,by simp[ae];omega,q1⟩),by grind,?_⟩,by grind⟩;grind
   .rw[if_neg e]at f;exact⟨by simp[ae];omega,⟨by omega,by omega,by omega,by omega,o,r,w,f⟩,by grind⟩
  .rw[ai (aac Q) b2,cut]at f;refine ΦD (λ e=>?_) λ e=>?_
   .rw[if_pos e]at f;have Z:=aak List.length f;simp at Z;refine⟨by omega,by simp[ae];omega,⟨by omega,by omega,o++[⟨t,p.hi⟩],r.append (Row.one (T:=bc) (t:=(⟨t,p.hi⟩)) ⟨rfl,by simp[ae];omega,r2⟩),by grind,f⟩,by grind⟩
   .rw[if_neg e,aar]at f;exact⟨by simp[ae];omega,⟨by omega,by omega,o,r,w,f⟩,by grind⟩
 .rw[ai (aac a0) b4]at D;intro A5 c5 H5 l5 a1 V;have:R=g:=by rw[D];simp[iI]
  rw[this]at x⊢;exact hr.sl l5 a1 hu V (by show u*16<=_;omega) (by omega)
end
section
variable {H:Heap}{A B:D'}{n c m d:Nat}{l k:List bc}
def Sl.tail {T:Type}[Rep T]{A:D'}{n c:Nat}{x:T}{r:List T}(h:Sl a A n c (x::r)):Sl a (eM A c 1 (Rep.sz T)) (n-1) (c-1) r:=by
 have:=h.len;simp at this;exact h.drop (k:=1) (by omega)
def Sl.pos {T:Type}[Rep T]{A:D'}{n c:Nat}{l:List T}(h:Sl a A n c l)(b:(0:Int)<n):∃x r,l=x::r:=by
 cases l with
 | nil=>have:=h.len;grind
 | cons x r=>simp
def rI (hs:Sl H A n c l)(ht:Sl H B m d k):ZB 184 [S A n c,S B m d] H fi (λ A' n' c' H'=>Sl H' A' n' c' (jY l k)):=by
 refine ΦK 1 (aj [] [(4,lb),(7,gb)] [(3,[.slot 0 false [.sl],.slot 1 false [.sl],.slot 5 false [.row 50 36]])]) (λ a=>C ZT 177 [S A n c] H λ b e f g=>C ZT 177 [S B m d] b λ h i j k=>W Yo h (λ l=>l e f g i j k 0 [] h) λ l o p q r s t u v w x=>let y:=U p x w λ y z a0=>C ZT 177 [S y w z] a0 λ a1 a2 a3 a4=>a a2 a3 a4 a1;J (0<O r) (J (0<O u) (ΦX q 0 r (ΦE ZK p q (N 0*2) (λ z a0=>ΦX t 0 u (ΦE ZK p t (N 0*2) (λ a1 a2=>let a3:=C ZW 250 [ΦG [I z,I a0],ΦG [I a1,I a2]] p λ a3 a4 a5 a6=>ΦQ a6 ((w+1)*16<=M/\ΦX q 0 r (ΦE ZE a3 q (N 0*2+1) (λ a7=>ΦX t 0 u (ΦE ZE a3 t (N 0*2+1) (λ a8=>let a9:=x++[Value.int .i64 a4,I a5];J (a7<a8) ((0:Int)<=1/\1<=O r/\O r<=O s/\(∀b0:D',b0=eM q s (N 1) 2->l b0 (N (O r)-N 1) (s-N 1) t u v (w+1) a9 a3/\o b0 (N (O r)-N 1) (s-N 1) t u v (w+1) a9<o q r s t u v w x)) ((0:Int)<=1/\1<=O u/\O u<=O v/\(∀b0:D',b0=eM t v (N 1) 2->l q r s b0 (N (O u)-N 1) (v-N 1) (w+1) a9 a3/\o q r s b0 (N (O u)-N 1) (v-N 1) (w+1) a9<o q r s t u v w x))))))) (ΦX q 0 r (ΦE ZE a3 q (N 0*2+1) (λ a7=>ΦX t 0 u (ΦE ZE a3 t (N 0*2+1) (λ a8=>J (a7<a8) ((0:Int)<=1/\1<=O r/\O r<=O s/\(∀a9:D',a9=eM q s (N 1) 2->l a9 (N (O r)-N 1) (s-N 1) t u v w x a3/\o a9 (N (O r)-N 1) (s-N 1) t u v w x<o q r s t u v w x)) ((0:Int)<=1/\1<=O u/\O u<=O v/\(∀a9:D',a9=eM t v (N 1) 2->l q r s a9 (N (O u)-N 1) (v-N 1) w x a3/\o q r s a9 (N (O u)-N 1) (v-N 1) w x<o q r s t u v w x)))))));a3/\a3))))) y) y) ?_;dsimp only[PL,aQ,aR,aW,eQ,C,ΦE,M,N,ΦQ,W,ΦX,O,J];refine⟨_,bP hs,?_⟩;intro H1 l1 A1 n1 c1 h1;refine⟨_,bP (ht.mono l1),?_⟩;intro H2 l2 A2 n2 c2 h2;have h1:=h1.mono l2;have hz:=Gt l k;have a5:=nW ((norm l).length+(norm k).length) (norm l) (norm k);have c6:=Gu (bW l);have b8:=Gu (bW k);have b0:=mK (bW l);have a6:=mK (bW k);generalize hZ:fR ((norm l).length+(norm k).length) (norm l) (norm k)=Z at hz a5;have b9:iv=1099511627776:=rfl;refine⟨λ A n c B m d u xs H'=>∃a b f:List bc,Sl H' A n c a/\Sl H' B m d b/\(∀p∈a,0<=p.lo/\p.lo<p.hi/\p.hi<=iv)/\(∀p∈b,0<=p.lo/\p.lo<p.hi/\p.hi<=iv)/\Row H' xs f/\f.length=u/\Z=f++fR (a.length+b.length) a b,
  λ _ n _ _ m _ _ _=>n+m,⟨norm l,norm k,[],h1,h2,λ p hp=>(b0 p hp).2,λ p hp=>(a6 p hp).2,rfl,rfl,by rw[<-hZ];rfl⟩,?_⟩
 rintro H3 l3 A3 w c3 B3 v d3 u xs ⟨a,b,f,V,s,z,F,hr,hu,he⟩;have a7:∀{w:Nat} {v:Nat},(w=0\/v=0)->a.length=w->b.length=v->∀(a9:D') (a8:Nat) (o:Heap),Heap.le H3 o->Cells o a9 0 xs->u<=a8->∃j:D'->Nat->Nat->Heap->Prop,ZB 177 [S a9 u a8] o fi j/\
   ∀E:Heap,Heap.le o E->∀(Q:D') (T X:Nat),j Q T X E->Sl E Q T X (jY l k):=by
  intro w v h0 a4 b2 A4 c4 t l4 b4 L;have b5:Z=f:=by
   rw[he];rcases h0 with h0 | h0
   .rw[aal (by omega:a.length=0)];cases b.length<;>simp[fR]
   .rw[aal (by omega:b.length=0)];cases a with
    | nil=>simp[fR]
    | cons x r=>simp[fR]
  rw[b5]at hz a5;refine⟨_,bP (hr.sl l4 b4 hu L (by show u*16<=_;omega) (by omega)),?_⟩;intro H5 l5 A5 n5 c5 h5;rw[hz]at h5;exact h5
 refine⟨λ D=>⟨λ G=>?_,λ G=>a7 (.inr (by have:=aac G;omega)) V.len s.len⟩,λ D=>a7 (.inl (by have:=aac D;omega)) V.len s.len⟩;have D:=aab D;have G:=aab G;obtain⟨p,a,rfl⟩:=V.pos D;obtain⟨q,b,rfl⟩:=s.pos G;have a4:=V.len;have b2:=s.len;have b7:=V.cap;have c0:=s.cap;simp only[aav]at a4 b2;have hp:=z p acr;have hq:=F q acr;obtain⟨hi,hA,_,hc,⟨rfl,r1,r2⟩⟩:=V.at (ah H3) (i:=0) (by omega) (by omega);obtain⟨ji,jA,_,jc,⟨rfl,q1,q2⟩⟩:=s.at (ah H3) (i:=0) (by omega) (by omega);simp only[Int.toNat_zero,List.getElem_cons_zero]at hc jc r1 r2 q1 q2;rw[aav,aav,show a.length+1+(b.length+1)=(a.length+b.length+1)+1 by omega,fR]at he;have next:∀{t:Heap} {u4:Nat} {P:G'} {g:List bc},Heap.le H3 t->Row t P g->g.length=u4->Z=g++(if p.hi<q.hi then fR (a.length+b.length+1) a (q::b)else fR (a.length+b.length+1) (p::a) b)->
   cD A3/\(0:Int)<=0/\(0:Int)<w/\∃Y:Int,Cells t A3 ((0:Int).toNat*2+1) [Φi Y]/\cD B3/\(0:Int)<=0/\(0:Int)<v/\∃a0:Int,Cells t B3 ((0:Int).toNat*2+1) [Φi a0]/\
    (decide (Y<a0)=true->(0:Int)<=1/\(1:Int)<=w/\(w:Int)<=c3/\∀a2:D',a2=eM A3 c3 (1:Int).toNat 2->
     (∃a b f:List bc,Sl t a2 ((w:Int).toNat-(1:Int).toNat) (c3-(1:Int).toNat) a/\Sl t B3 v d3 b/\(∀p∈a,0<=p.lo/\p.lo<p.hi/\p.hi<=iv)/\(∀p∈b,0<=p.lo/\p.lo<p.hi/\p.hi<=iv)/\Row t P f/\f.length=u4/\Z=f++fR (a.length+b.length) a b)/\((w:Int).toNat-(1:Int).toNat)+v<w+v)/\
    (decide (Y<a0)=false->(0:Int)<=1/\(1:Int)<=v/\(v:Int)<=d3/\∀a1:D',a1=eM B3 d3 (1:Int).toNat 2->
     (∃a b f:List bc,Sl t A3 w c3 a/\Sl t a1 ((v:Int).toNat-(1:Int).toNat) (d3-(1:Int).toNat) b/\(∀p∈a,0<=p.lo/\p.lo<p.hi/\p.hi<=iv)/\(∀p∈b,0<=p.lo/\p.lo<p.hi/\p.hi<=iv)/\Row t P f/\f.length=u4/\Z=f++fR (a.length+b.length) a b)/\w+((v:Int).toNat-(1:Int).toNat)<w+v):=by
  intro t u4 P g l4 b1 L a3;refine⟨hA,y' ⟨p.hi,(hc.mono l4).cy (k:=1) rfl,jA,y' ⟨q.hi,(jc.mono l4).cy (k:=1) rfl,λ b3=>?_,λ b6=>?_⟩⟩⟩
  .rw[if_pos (aab b3)]at a3;refine J' ?_;rintro a2 rfl;refine⟨⟨a,q::b,g,(V.mono l4).tail,s.mono l4,λ x hx=>z x (abQ _ hx),F,b1,L,by rw[a3,aav,Nat.add_assoc]⟩,by omega⟩
  .rw[if_neg (aac b6)]at a3;refine J' ?_;rintro a1 rfl;refine⟨⟨p::a,b,g,V.mono l4,(s.mono l4).tail,z,λ x hx=>F x (abQ _ hx),b1,L,by grind⟩,by omega⟩
 have R:=aak List.length he;refine⟨hA,by simp,by omega,_,_,hc,jA,by simp,by omega,_,_,jc,⟨_,lW,?_⟩,_,lW,?_⟩;all_goals
  rintro t l4 x y e ⟨s,ht,hf⟩;refine⟨λ h=>?_,λ h=>?_⟩
  .obtain⟨rfl,rfl⟩:=ht h;rw[h]at s;rw[if_pos s.symm]at he R;simp at R;exact u' (next l4 ((hr.mono l4).append (VR (gh p q) (by simp[ae,gh];omega) (by simp[ae,gh];omega))) (by simp[hu]) (by grind))
  .rw[h]at s;rw[if_neg (by rw[<-s];simp)]at he;exact next l4 (hr.mono l4) hu (by grind)
end
end
section
variable {a g:Nat}{b:List az}{c:aU}{d:Heap}{e:G'}{f:D'}{h:List aO}{i:I'}
def sY (o:Nat):List (List az)->List (Value×Value)
 |[]=>[]
 | v::r=>(.string (ee v),.int .i64 ((o:Nat):Int))::sY (o+1) r
def ni {u:List az}:cK (ΦT (ee b)) (ΦT (ee u))=decide (b=u):=by
 rw[aaH,aad];constructor
 .intro h;exact lp (aab h)
 .rintro rfl;exact aau rfl
def Az (v:List az):∀(a:List (List az)) (o:Nat),th (sY o a) (ΦT (ee v))=decide (v∈a)
 |[],o=>rfl
 | u::r,o=>by
  have b:=Az v r (o+1);unfold th at b⊢;rw[sY,aaS,ni];grind
def CR {v:List az}:∀{a:List (List az)} {o j:Nat},a.Nodup->a[j]?=some v->cH (sY o a) (ΦT (ee v))=some (Φi ((o+j:Nat):Int))
 | u::r,o,0,_,h=>by
  simp at h;subst h;unfold cH;rw[sY,abG,ni,aau rfl];rfl
 | u::r,o,j+1,hn,h=>by
  obtain⟨d,c⟩:=List.nodup_cons.1 hn;have b:=CR (o:=o+1) c h;unfold cH at b⊢;rw[sY,abG,ni];grind
def CS {v:List az}:∀{a:List (List az)} {o:Nat},v∉a->cH (sY o a) (ΦT (ee v))=none
 |[],o,_=>rfl
 | u::r,o,h=>by
  simp at h;have b:=CS (o:=o+1) h.2;unfold cH at b⊢;rw[sY,abG,ni];grind
def HV {v:List az}:∀{a:List (List az)} {o:Nat},v∉a->fL (sY o a) (ΦT (ee v)) (Φi ((o+a.length:Nat):Int))=sY o (a++[v])
 |[],o,_=>rfl
 | u::r,o,h=>by
  simp at h;have b:=HV (o:=o+1) h.2;rw[sY,fL,ni,aby,sY];grind
structure mu where
 key:List az
 B:D'
 m:Nat
 d:Nat
 rows:List aO
instance:Rep mu where
 sz:=2
 byt:=48
 rel H vs r:=∃A n c,vs=[.slice A n c,.slice r.B r.m r.d]/\Sl H A n c r.key
 mono:=λ hle ⟨A,n,c,h1,h2⟩=>⟨A,n,c,h1,h2.mono hle⟩
 len:=λ ⟨A,n,c,h1,_⟩=>by simp[h1]
 pos:=by decide
 bpos:=by decide
 one:=λ ⟨A,n,c,h1,_⟩=>by rw[h1];simp[Value.oneCell']
structure Um where
 key:List az
 Gh:List aO
instance:Rep Um where
 sz:=2
 byt:=48
 rel H vs r:=∃A n c B m d,vs=[.slice A n c,.slice B m d]/\Sl H A n c r.key/\Sl H B m d r.Gh
 mono:=λ hle ⟨A,n,c,B,m,d,h1,h2,h3⟩=>⟨A,n,c,B,m,d,h1,h2.mono hle,h3.mono hle⟩
 len:=λ ⟨A,n,c,B,m,d,h1,_⟩=>by simp[h1]
 pos:=by decide
 bpos:=by decide
 one:=λ ⟨A,n,c,B,m,d,h1,_⟩=>by rw[h1];simp[Value.oneCell']
structure VS (O:aU)(H:Heap)(r:mu):Prop where
 opn:nq O r.B 107 r.m r.d
 row:∃ys,Cells H r.B 0 ys/\Row H ys r.rows
 len:r.rows.length=r.m
 cap:r.m<=r.d
structure fe (O:aU)(H:Heap)(xs:G')(rs:List mu):Prop where
 row:Row H xs rs
 opn:∀j (h:j<rs.length),VS O H rs[j]
 sep:∀j k (hj:j<rs.length) (hk:k<rs.length),j≠k->rs[j].B≠none->rs[j].B≠rs[k].B
def fe.mono {O:aU}{H f:Heap}{e:G'}{d:List mu}(h:fe O H e d)(b:Heap.le H f):fe O f e d:=
 ⟨h.row.mono b,λ j l=>let⟨a,⟨i,g,m⟩,c,k⟩:=h.opn j l;⟨a,⟨i,g.mono b,m.mono b⟩,c,k⟩,h.sep⟩
def fe.other {m:aU}{l:List mu}(h:fe c d e l)(p:∃t o,c a=some (.mp t o))(q:∀b,b≠a->m b=c b):fe m d e l:=by
 refine⟨h.row,λ j r=>?_,h.sep⟩;obtain⟨f,b,i,k⟩:=h.opn j _;refine⟨?_,b,i,k⟩;rcases f with f |⟨g,n,s⟩
 .exact .inl f
 .refine .inr ⟨g,n,?_⟩;grind
def fe.new {i:List mu}(h:fe c d e i)(q:Sl d f a g b):
  fe c d (e++[S f a g,.slice none 0 0]) (i++[⟨b,none,0,0,[]⟩]):=by
 refine⟨h.row.append (Row.one ⟨f,a,g,rfl,q⟩),λ j r=>?_,λ j k r s o p=>?_⟩
 .rw[acZ];split
  .exact h.opn j _
  .simp;exact⟨.inl ⟨rfl,rfl,rfl⟩,⟨[],.inl rfl,rfl⟩,rfl,aaB _⟩
 .by_cases m:j<i.length
  .rw[aaI m]at p⊢;by_cases l:k<i.length
   .rw[aaI l];exact h.sep j k _ _ o p
   grind
  grind
def fe.push {i:List mu}(h:fe c d e i)(K:a<i.length){P G:G'}{t:aO}(y:Row d P i[a].rows){v:Heap}{u:aU}
  (n:Heap.le d v) (hc:Cells v f 0 (P++G)) (hr:Rep.rel v G t) (x:nq u f 107 (i[a].m+1) g) (o:KE c u i[a].B f) (r:i[a].m+1<=g):
  fe u v (av e (a*2+1) [S f (i[a].m+1) g]) (i.set a ⟨i[a].key,f,i[a].m+1,g,i[a].rows++[t]⟩):=by
 obtain⟨us,⟨T,n1,c1,rfl,X⟩,-,hs⟩:=(h.row.mono n).mg K;have s:=hs 1 [S f (i[a].m+1) g] ⟨i[a].key,f,i[a].m+1,g,i[a].rows++[t]⟩ (show 1+1<=2 by simp) ⟨T,n1,c1,rfl,X⟩;have o4:=(h.opn a K).len;have a0:∀j (q:j<i.length),j≠a->∀b,i[j].B=some ⟨b,0,none⟩->(∃z,c b=some z)->f≠some ⟨b,0,none⟩/\u b=c b:=by
  rintro j q l b p ⟨z,hz⟩;refine o b (by grind) ?_;rw[<-p];exact λ Y=>h.sep j a _ _ l (by grind) Y.symm
 refine⟨s,λ j q=>?_,λ j k q hk l p=>?_⟩
 .rw[abF];split
  .exact⟨x,⟨_,hc,(y.mono n).append (Row.one hr)⟩,by grind,r⟩
  .obtain⟨F,⟨R,a2,Z⟩,a4,a5⟩:=h.opn j _;refine⟨?_,⟨R,a2.mono n,Z.mono n⟩,a4,a5⟩;rcases F with F |⟨b,w,b2⟩
   .exact .inl F
   .exact .inr ⟨b,w,by grind⟩
 .have Q:∀j (q:j<i.length),j≠a->i[j].B≠none->i[j].B≠f:=by
   intro j q l p;rcases(h.opn j q).opn with⟨w,-⟩ |⟨b,w,b2⟩
   .grind
   grind
  rw[abF]at p⊢;rw[abF];by_cases E:a=j
  .grind
  .rw[if_neg E]at p⊢;by_cases D:a=k
   .grind
   .rw[if_neg D];exact h.sep j k _ _ l p
structure eK (rs:List mu)(l:List aO)(cols:I'):Prop where
 nod:(rs.map (·.key)).Nodup
 keys:cS (rs.map (·.key)) l cols
 rows:∀r∈rs,r.rows=bb l cols r.key
def eK.nil {a:I'}:eK [] [] a:=⟨List.nodup_nil,cS.nil,λ r h=>by grind⟩
def eK.skip {b:List mu}{l:List aO}{a:I'}{i:Nat}(c:i<l.length)(h:eK b (l.take i) a)(d:dm l[i].p=false):eK b (l.take (i+1)) a:=
 ⟨h.nod,h.keys.skip c d,λ r e=>by rw[lj c,if_neg (by grind),aar];exact h.rows r e⟩
def eK.put {b:List mu}(x:a<h.length)(q:(b.map (·.key)).Nodup)(t:cS (b.map (·.key)) (h.take (a+1)) i)(v:∀r∈b,r.rows=bb (h.take a) i r.key)
  (y:g<b.length) (u:dm h[a].p=true) (k:b[g].key=aJ h[a].vals i) {m d:Nat}:eK (b.set g ⟨b[g].key,f,m,d,b[g].rows++[h[a]]⟩) (h.take (a+1)) i:=by
 have c:(b.set g ⟨b[g].key,f,m,d,b[g].rows++[h[a]]⟩).map (·.key)=b.map (·.key):=by
  apply aeJ
  .simp
  .intro j B z;simp only[List.getElem_map,abF];split
   .rename_i o;subst o;rfl
   .rfl
 refine⟨by rw[c];exact q,by rw[c];exact t,λ r n=>?_⟩;obtain⟨j,s,rfl⟩:=aaM n;rw[abd]at s;rw[abF];split
 .rw[lj _,if_pos (by rw[u,k,aD.refl];rfl),v _ (aan _)]
 .have w:aJ h[a].vals i≠b[j].key:=by
   intro C;have:=(aeF (xs:=b.map _) (h₀:=by simpa using y) (h₁:=by simpa using s) q).1 (by grind);grind
  rw[lj x,if_neg (by rw[aah,aad,cR];grind)];grind
def AA {d:List (List az)}(e:cS d h i)(a:b∉d):bb h i b=[]:=by
 refine adh.2 λ t f c=>?_;rw[aah,aad,cR]at c;exact a ((e b).2 (CN.2 ⟨t,f,c.1,c.2⟩))
def QP (r:mu):Um:=⟨r.key,r.rows⟩
def LG {H:Heap}:∀{a:G'} {m:List mu},Row H a m->(∀r∈m,Sl H r.B r.m r.d r.rows)->Row H a (m.map QP)
 | _,[],h,_=>h
 | _,r::m,⟨vs,zs,h1,⟨A,n,c,e,hk⟩,h3⟩,h=>⟨vs,zs,h1,⟨A,n,c,r.B,r.m,r.d,e,hk,h r (by simp)⟩,LG h3 λ q b=>h q (by grind)⟩
def fF (l:List aO)(a:I'):List Um:=(bl l a).map λ v=>⟨v,bb l a v⟩
def Oa {e m:List mu}(c:eK e h i)(d:m.Perm e)(k:m.Pairwise (λ a b=>¬bK b.key a.key<0)):m.map QP=fF h i:=by
 have n:=(d.map _).nodup_iff.2 c.nod;have g:=qy (acJ.2 k) n;have f:cS _ h _:=λ v=>by rw[(d.map _).mem_iff];exact c.keys v
 unfold fF;rw[<-iW g f,List.map_map];exact acV λ r j=>by
  have:=c.rows r (d.mem_iff.1 j);simp[QP,this]
end
end Go.Vc
namespace Go.Vc
open Go
def AB (a b:List aO)(c d:I'):List cT:=(bl a c).flatMap λ v=>xH (bb a c v) (bb b d v)
def AD {l:List aO}{a:I'}{v:List az}:∀t∈bb l a v,dm t.p=true:=λ t b=>by
 have:=(abc.1 b).2;grind
def AE (F:Int->Option (I')):∀(b:I') (a:List cT),(oZ F b a).length<=a.length+b.length
 |[],a=>by simp[oZ]
 |[_],a=>by simp[oZ]
 | f::t::b,a=>by
  rw[oZ];split
  .rename_i x e;have c:=AE F (t::b) (cG a ⟨⟨f,t⟩,x⟩);have d:=jG a ⟨⟨f,t⟩,x⟩;grind
  .have c:=AE F (t::b) a;grind
def HW (F:Int->Option (I')):∀(a:I'),(iz F a).length<=a.length
 |[]=>by simp[iz]
 |[_]=>by simp[iz]
 | f::t::a=>by
  have b:=HW F (t::a);rw[iz];grind
def HY (S A:List aO):(xH S A).length<=2*(S.length+A.length):=by
 have b:=AE (tg S A) (canon (bS (S++A))) [];have a:=dS (bS (S++A));have c:=iU (S++A);unfold xH;grind
def EM {hi:Int}:∀(b:List bc) (t:Int),(cut t hi b).length<=b.length+1
 |[],t=>by unfold cut;grind
 | q::b,t=>by
  have a:=EM (hi:=hi) b t;have c:=EM (hi:=hi) b q.hi;unfold cut;grind
def AF (b:List bc):∀a:List bc,(iI a b).length<=a.length*(b.length+1)
 |[]=>by simp[iI]
 | p::a=>by
  have c:=AF b a;have d:=EM (hi:=p.hi) b p.lo;simp[iI,abf]at c⊢;omega
def BD (p:bc)(a:List bc):(jY [p] a).length<=a.length:=by
 have d:=gD a;have e:norm [p]=if dm p then[p]else[]:=by
  rfl
 have c:∀b:List _,(uT p b).length<=b.length:=λ b=>by
  unfold uT;grind
 unfold jY nV;grind
section
variable {a b:List aO}
def Km (d:Int)(x:aO):Bool:=decide (x.p.lo<=d)&&decide (d<x.p.hi)
def lu (f:Int)(b a:List aO):List aO:=b.filter (λ x=> !decide (x.p.hi<=f))++a.takeWhile (λ x=>decide (x.p.lo=f))
def oD (f:Int)(a:List aO):List aO:=a.dropWhile (λ x=>decide (x.p.lo=f))
def QQ (l:List aO):Prop:=l.Pairwise (λ a b=>a.p.lo<=b.p.lo)
def lv (f:Int)(l:List aO):List aO:=l.filter (λ x=> !decide (x.p.hi<=f))
def sZ {f:Int}:∀{a:List aO},QQ a->(∀x∈a,f<=x.p.lo/\x.p.lo<x.p.hi)->
  a.filter (Km f)=a.takeWhile (λ x=>decide (x.p.lo=f))/\(∀x∈oD f a,f<x.p.lo)
 |[],_,_=>⟨rfl,λ x h=>by cases h⟩
 | x::r,hs,h=>by
  obtain⟨l,g⟩:=aaz.1 hs;obtain⟨j,k⟩:=h x (by simp);obtain⟨d,i⟩:=sZ g (λ y c=>h y (by grind));by_cases e:x.p.lo=f
  .have b:Km f x=true:=by simp[Km,aah];omega
   rw[aba,if_pos b,abw,if_pos (by grind),d];refine⟨rfl,?_⟩;unfold oD;rw[abx,if_pos (by grind)];exact i
  .have b:∀y∈x::r,f<y.p.lo:=by
    grind
   refine⟨?_,?_⟩
   .rw[abw,if_neg (by grind)];refine adh.2 λ y c=>?_;have:=b y c;simp[Km,aah];omega
   .unfold oD;simp_all
def QR {f:Int}{c:List aO}(e:∀x∈a,x.p.lo<f)(d:lv f b=lv f a)(k:QQ c)(i:∀x∈c,f<=x.p.lo/\x.p.lo<x.p.hi):
  lu f b c=(a++c).filter (Km f)/\lv f (lu f b c)=lv f (a++c.takeWhile (λ x=>decide (x.p.lo=f))):=by
 obtain⟨j,m⟩:=sZ k i;have g:lv f a=a.filter (Km f):=by
  refine acg λ x l=>?_;have:=e x l;rw[aaH];simp[Km,aay];omega
 have h:lu f b c=(a++c).filter (Km f):=by
  rw[abB,j,<-g,<-d];rfl
 refine⟨h,?_⟩;have:lu f b _=lv f _++c.takeWhile _:=rfl;rw[this,d];simp[lv,Bool.and_self]
def AG {f t:Int}(h:f<t)(l:List aO):lv t (lv f l)=lv t l:=by
 simp[lv];grind
def EN (f t:Int)(a:List aO):List cT:=if 0<a.length then[⟨⟨f,t⟩,canon (aG a)⟩]else[]
def nj:I'->List aO->List aO->List cT
 | f::t::ps,act,rest=>EN f t (lu f act rest)++nj (t::ps) (lu f act rest) (oD f rest)
 | _,_,_=>[]
def Un (g:List aO)(f:Int):Option (I'):=if(g.filter (Km f)).length=0 then none else some (canon (aG (g.filter (Km f))))
def SH (g:List aO)(f t:Int):EN f t (g.filter (Km f))=(match Un g f with | some x=>[⟨⟨f,t⟩,x⟩] | none=>[]):=by
 unfold EN Un;grind
def HZ:∀(g:I') (f:Int) (d e c:List aO),(f::g).Pairwise (λ a b=>a<b)->(∀x∈d,x.p.lo<f)->lv f e=lv f d->QQ c->
  (∀x∈c,x.p.lo∈f::g/\x.p.lo<x.p.hi)->nj (f::g) e c=iz (Un (d++c)) (f::g)
 |[],f,d,e,c,_,_,_,_,_=>rfl
 | t::g,f,d,e,c,hp,h1,h2,h3,h4=>by
  obtain⟨m,n⟩:=aaz.1 hp;have k:f<t:=m t (by simp);have i:∀x∈c,f<=x.p.lo/\x.p.lo<x.p.hi:=by
   intro x h;obtain⟨a,b⟩:=h4 x h;rcases aaw.1 a with a | a
   .omega
   .have:=m _ a;omega
  obtain⟨v,o⟩:=QR h1 h2 h3 i;obtain⟨-,w⟩:=sZ h3 i;have j:(oD f c).Sublist c:=adi _;have l:c.takeWhile _++oD f _=c:=ada;have r:∀x∈d++c.takeWhile (λ x=>decide (x.p.lo=f)),x.p.lo<t:=by
   intro x h;rcases aam.1 h with h | h
   .grind
   .have:=Eh h;grind
  have s:lv t (lu f e c)=lv t (d++c.takeWhile (λ x=>decide (x.p.lo=f))):=by
   rw[<-AG k _,o,AG k]
  have q:∀x∈oD f c,x.p.lo∈t::g/\x.p.lo<x.p.hi:=by
   grind
  have z:=HZ _ t _ _ _ n r s (abg j h3) q;have y:nj (f::t::g) e c=EN f t (lu f e c)++nj (t::g) (lu f e c) (oD f c):=by rfl
  have u:iz (Un (d++c)) (f::t::g)=EN f t ((d++c).filter (Km f))++iz (Un (d++c)) (t::g):=by
   rw[SH];rfl
  grind
def mv (l:List aO):I':=l.flatMap λ t=>[t.p.lo,t.p.hi]
def Ob {i:Nat}(b:i<a.length):mv (a.take (i+1))=mv (a.take i)++[a[i].p.lo,a[i].p.hi]:=by
 rw[aaj _,mv,abo];rfl
def AH:∀l:List aO,(mv l).length=2*l.length
 |[]=>rfl
 | k::l=>by
  have:=AH l;simp[mv,abH]at*;omega
def Uo (c:a.Perm b)(h:∀x∈b,dm x.p=true):Un a=tg b []:=by
 funext f;have e:a.filter (Km f)=a.filter (jV f):=acg λ x i=>by
  have:=fo.1 (h x (c.mem_iff.1 i));rw[aaH,jV,aY];simp[Km,aah];omega
 have d:(a.filter (jV f)).Perm _:=c.filter _;have j:canon (aG _)=canon (aG _):=ng λ y=>(d.flatMap_right _).mem_iff;unfold Un tg;rw[e,d.length_eq];grind
def Kn (c:a.Perm b)(d:∀x∈b,dm x.p=true):canon (mv a)=canon (bS b):=by
 refine ng λ y=>?_;rw[mv,bS];grind
def QS (d:a.Perm b)(j:∀x∈b,dm x.p=true)(m:QQ a):nj (canon (mv a)) [] a=iz (tg b []) (canon (bS b)):=by
 rw[<-Uo d j,<-Kn d j];have i:=fC (mv a);have e:∀x∈a,x.p.lo∈canon (mv a):=λ x c=>by
  rw[fD];exact aaZ.2 ⟨x,c,by simp⟩
 have l:=λ x c=>(fo.1 (j x (d.mem_iff.1 c))).2.1;revert i e;generalize canon _=k;intro i e;cases k with
 | nil=>rfl
 | cons f k=>exact HZ _ f _ _ a i (λ x h=>by grind) rfl m λ x c=>⟨e x c,l x c⟩
end
end Go.Vc
namespace Go.Vc
open Go Go.Shelf Go.Proofs
section
variable {a e f:Nat}{b:List aO}{c:Heap}{d:D'}
def Ko (c:a<b.length):aG (b.take (a+1))=aG (b.take a)++b[a].lin:=by
 rw[aaj c,aG,abo];simp[aG]
def Ia (v:Sl c d a e b)(hb:(aG b).length*8<=140737488355328):
  ZB 249 [S d a e] c ⟨false,[(false,[.row f 3])]⟩ (λ k p x=>k=(canon (aG b)).length/\Row x p (canon (aG b))):=by
 refine ΦK 2 {aj [] [] [(3,[.slot 3 false [.row 20 3],ag 8])]with res:=wj [(18,⟨false,[(false,[.row 19 3])]⟩)]} (λ b=>W ZG c (λ e=>e 0 [] 0 c) λ e f g h i j=>J (j<O a) (ΦX d j a (ΦE ZI g d (N j*4) (λ k l m n o p q r=>∃s:G',Cells g p 0 s/\L s=q*1/\(h+q)*8<=M/\ΦR (j+1)/\e (h+q) (i++s) (j+1) g/\f (h+q) (i++s) (j+1)<f h i j))) (U g i h (λ k l m=>C YY 237 [S k h l,S none 0 0] m λ n o p=>b o p n))) ?_;dsimp only[PL,aQ,aR,aW,eQ,C,ΦE,L,M,N,ΦR,W,ΦX,O,J];have hl:=v.len;have V:=v.bn;refine⟨λ k p i x=>0<=i/\i<=a/\k=(aG (b.take i.toNat)).length/\Row x p (aG (b.take i.toNat)),λ _ _ i=>a-i.toNat,⟨by omega,by omega,rfl,rfl⟩,?_⟩;rintro H2 w k p i ⟨y,h1,z,u⟩;have Q:(i+1).toNat=i.toNat+1:=by omega
 refine⟨λ h=>?_,λ j=>?_⟩
 .have h:=aab h;obtain⟨P,E,_,X,⟨A9,n9,c9,I,F,Y,rfl,q1,q2,q3,s⟩⟩:=v.at w y h;have o:=Ko P;have m:=aak List.length o;rw[aae,s.len]at m;have Z:=kG (ach (i.toNat+1) b);obtain⟨R,D,B⟩:=s.row;refine⟨E,y,h,_,_,_,_,_,_,_,_,X,R,D,by rw[B.length,s.len];rfl,by omega,by simp[ae];omega,⟨by omega,by omega,by grind,?_⟩,by grind⟩;rw[Q,o];exact u.append B
 .have j:=aac j;rw[aag (by omega)]at z u;intro A4 c4 H4 G t q;refine⟨_,iL (u.sl G t z.symm q (by show k*8<=_;omega) (by omega)) (Sl.nil (T:=Int)) (by omega),?_⟩;have g:cx (aG b) []=canon (aG b):=by unfold cx canon;simp
  grind
def LH {B:D'}{g:Nat}(q:Sl c B f g b):
  ZB 119 [.agg ⟨[S d a e,S B f g]⟩] c fi (λ F y z u=>Sl u F y z (norm (b.map (·.p)))):=by
 refine ΦK 1 (aj [] [] [(3,[.slot 3 false [.row 21 36],ag 9])]) (λ a=>W ZG c (λ b=>b 0 [] 0 c) λ b d e g h i=>J (i<O f) (ΦX B i f (ΦE ZI e B (N i*4) (λ j k l m n o p q=>(g+1)*16<=M/\ΦR (i+1)/\b (g+1) (h++[Value.int .i64 m,I n]) (i+1) e/\d (g+1) (h++[Value.int .i64 m,I n]) (i+1)<d g h i))) (U e h g (λ j k l=>C ZT 177 [S j g k] l λ m n o p=>a n o p m))) ?_;dsimp only[PL,aQ,aR,aW,eQ,C,ΦE,M,N,ΦR,W,ΦX,O,J];have hl:=q.len;have R:f*64<=140737488355328:=q.bnd;refine⟨λ k w i u=>0<=i/\i<=f/\k=i.toNat/\Row u w ((b.take i.toNat).map (·.p)),λ _ _ i=>f-i.toNat,⟨by simp,by simp,rfl,rfl⟩,?_⟩;rintro H2 t k w i ⟨v,h1,rfl,s⟩;have x:(i+1).toNat=i.toNat+1:=by omega
 refine⟨λ h=>?_,λ j=>?_⟩
 .have h:=aab h;obtain⟨Q,E,_,T,⟨A9,n9,Y,P,G,V,rfl,q1,X,D,q4⟩⟩:=q.at t v h;refine⟨E,v,h,_,_,_,_,_,_,_,_,T,by omega,by simp[ae];omega,⟨by omega,by omega,x.symm,?_⟩,by grind⟩;rw[x,aaj Q,aaR];exact s.append (Row.one ⟨rfl,X,D⟩)
 .have j:=aac j;rw[aag (by omega)]at s;intro A4 c4 Z L r o;refine⟨_,bP (s.sl L r (by grind) o (by show i.toNat*16<=_;omega) (by omega)),?_⟩;simp
def EO (j:Sl c d a e b):
  ZB 245 [S d a e] c ⟨false,[(false,[.row f 107])]⟩ (λ k s t=>k=b.length/\Row t s b):=by
 refine ΦK 0 bE (λ b=>ΦQ (Option.isNone d) (b 0 [] c) (∃e:G',Cells c d 0 e/\L e=a*4/\(0+a)*64<=M/\b (0+a) ([]++e) c)) ?_;dsimp only[L,M,ΦQ];have v:=j.len;refine⟨λ u=>?_,λ u=>?_⟩
 .have:a=0:=by
   rcases abl a with h | h
   .grind
   .obtain⟨g,o,i⟩:=j.cD h;grind
  have:b=[]:=aal (by omega);subst this;exact⟨rfl,rfl⟩
 .obtain⟨m,q,p⟩:=j.row;exact⟨m,q,by rw[p.length,j.len];rfl,by have:=j.bnd;rw[aaT];omega,by omega,by grind⟩
def EP:jM Tryz.prog aO c 246 LF:=by
 rintro p g l s t _ ⟨A,n,a,B,m,d,rfl,-⟩ ⟨h,b,f,e,k,j,rfl,-⟩;refine ΦK 0 (aj [11] [] []) (λ a=>C ZP 52 [I s.p.lo,I t.p.lo] p λ b c=>a c b) ?_;dsimp only[aQ,aR,C];refine⟨_,gC,?_⟩;rintro i o _ rfl;rfl
def ER {f:Int}(h:Cells c (some ⟨a,0,none⟩) 0 [Φi f]):
  kP Tryz.prog aO c 248 (.pointer (some ⟨a,0,none⟩)) (λ x=>decide (x.p.hi<=f)):=by
 rintro j i t e ⟨A,n,b,B,m,d,rfl,-⟩;refine ΦK 0 bE (λ b=>ΦE ZE j (some ⟨a,0,none⟩) 0 λ c=>b (decide (t.p.hi<=c)) j) ?_;dsimp only[eQ,ΦE];exact⟨f,h.mono e,rfl⟩
abbrev Kp (g:List aO)(P:I')(R:List cT)(n h:Nat)(e:G')(j:Nat)(d:G')(c i:Int)(f:Heap):Prop:=
 0<=i/\0<=c/\c<=n/\∃(a:List cT) (b:List aO),Row f e a/\a.length=h/\Row f d b/\b.length=j/\a.length<=i.toNat/\i<=P.length/\b.Sublist (g.take c.toNat)/\
  R=a++nj (P.drop i.toNat) b (g.drop c.toNat)
def Ib {H:Heap}{B:D'}{u:Nat}(ht:Sl H B f u b)(hm:f<=5000)(hv:∀x∈b,dm x.p=true)(hb:(aG b).length*8<=140737488355328):
  ZB 183 [.agg ⟨[S d a e,S B f u]⟩] H fi (λ A' n' c' H'=>Sl H' A' n' c' (iz (tg b []) (canon (bS b)))):=by
 refine ΦK 8 {aj [50,86] [(19,[2,4,7,8,10,12,14,24,17,18,20,23,26,28,0]),(23,[2,4,6,8,10,18,13,15,16,21,22,25,27,28,0,1,1,1,21,15,16,22,25,27,28,0,1,1,1,1,21,13,15,16,22,25,27,28,0])] [(5,[.slot 4 false [.row 95 3],ag 19]),(15,[.slot 7 false [.row 96 241],.slot 8 false [.row 97 107],ag 9,ag 10]),(19,[.slot 8 false [.row 98 107],ag 9])]with res:=wj [(14,⟨false,[(false,[.row 91 107])]⟩),(36,⟨false,[(false,[.row 92 3])]⟩),(50,⟨false,[(false,[.row 93 107])]⟩),(86,⟨false,[(false,[.row 94 3])]⟩)],mt:=ir [50,234] [235,247]} (λ a=>C YZ 245 [S B f u] H λ b c d=>ZZ ZV 50 [S none 0 0,.func (.func 246) ⟨[]⟩ ⟨[]⟩] 0 107 c d true b λ e g=>W ZG e (λ h=>h 0 [] 0 e) λ h i j k l m=>J (m<O c) (ΦY m c (ΦF ZI g (N m*4) 4 (λ n o p q r s t v=>(k+2)*8<=M/\ΦR (m+1)/\h (k+2) (l++[Value.int .i64 q,I r]) (m+1) j/\i (k+2) (l++[Value.int .i64 q,I r]) (m+1)<i k l m))) (ZZ ZV 234 [S none 0 0] 0 3 k l true j (λ n o=>ZZ Zc 235 [S none 0 0] 0 3 k o false n λ p q r s=>W XG p (λ t=>t 0 [] 0 [] 0 0 p) λ t v w x y z a0 a1 a2=>ΦR (a2+1)/\J (a2+1<O r) (ΦY a2 r (ΦF ZE s (N a2*1) 1 (λ a3=>∃a4:G'->Nat->G'->Heap->Prop,(∀(a5:Nat)(a6:Heap),Heap.le w a6->Cells a6 (some ⟨a5,0,none⟩) 0 [I a3]->dJ Tryz.prog 247 [S none 0 0,.func (.func 248) ⟨[]⟩ ⟨[.pointer (some ⟨a5,0,none⟩)]⟩] 0 107 z a0 false a6 ⟨false,[(false,[.row 93 107])]⟩ a4)/\∀(a5:Heap)(a6:G')(a7:Nat)(a8:G'),a4 a6 a7 a8 a5->W ZG w (λ a9=>a9 a7 a8 a1 w) λ a9 b0 b1 b2 b3 b4=>let b5:=J (0<O b2) (ΦR (a2+1)/\(let b5:=λ b5 (b6:Nat)(b7:Int)=>U b1 b5 b6 λ b8 b9 c0=>(x+1)*40<=M/\ΦR (a2+1)/\let c1:=y++[Value.int .i64 a3,I b7,S b8 b6 b9];t (x+1) c1 b2 b3 b4 (a2+1) c0/\v (x+1) c1 b2 b3 b4 (a2+1)<v x y z a0 a1 a2;let b6:=λ b6=>U b1 b3 b2 λ b7 b8 b9=>af Tryz.prog 249 [S b7 b2 b8] b9 ⟨false,[(false,[.row 94 3])]⟩ b6;ΦY (a2+1) r (ΦF ZE s (N (a2+1)*1) 1 (λ b7=>∃b8:Nat->G'->Heap->Prop,b6 b8/\∀(b9:Heap)(c0:Nat)(c1:G'),b8 c0 c1 b9->b5 c1 c0 b7)/\(∃b7:Nat->G'->Heap->Prop,b6 b7/\∀(b8:Heap)(b9:Nat)(c0:G'),b7 b9 c0 b8->ΦF ZE s (N (a2+1)*1) 1 λ c1=>b5 c0 b9 c1))/\∃b7:Nat->G'->Heap->Prop,b6 b7/\∀(b8:Heap)(b9:Nat)(c0:G'),b7 b9 c0 b8->ΦY (a2+1) r (ΦF ZE s (N (a2+1)*1) 1 (λ c1=>b5 c0 b9 c1)))) (ΦR (a2+1)/\t x y b2 b3 b4 (a2+1) b1/\v x y b2 b3 b4 (a2+1)<v x y z a0 a1 a2);J (b4<O c) (ΦY b4 c (ΦF ZE g (N b4*4+1+0) 1 (λ b6=>J (b6=a3) (ΦY b4 c (ΦF ZI g (N b4*4) 4 (λ b7 b8 b9 c0 c1 c2 c3 c4=>(b2+1)*64<=M/\ΦR (b4+1)/\let c5:=b3++[Value.slice b7 b8 b9,I c0,I c1,S c2 c3 c4];a9 (b2+1) c5 (b4+1) b1/\b0 (b2+1) c5 (b4+1)<b0 b2 b3 b4))) b5))) b5))) (U w y x (λ a3 a4 a5=>a a3 x a4 a5))))) ?_;dsimp only[PL,aQ,aR,aW,eQ,C,ZZ,ΦF,M,N,ΦR,W,ΦY,O,J];have hl:=ht.len;refine⟨_,EO ht,?_⟩;rintro H1 l1 _ j5 ⟨rfl,h5⟩;refine⟨_,qw (Q:=λ _=>True) (cf:=LF) h5 rfl (by omega) ⟨_,Tryz.func246,rfl,by kernel_rfl⟩ (λ _ _=>trivial) NZ (λ H' vs us s t h1 h2 h3=>EP H' vs us s.1 t.1 h1 h2 h3),?_⟩;rintro H7 l7 f2 ⟨g,hg,c2,g2⟩;have i8:=c2.length_eq;have f0:QQ g:=g2.imp λ {j v} h=>by
  unfold LF at h;rw[uu]at h;omega
 have j1:(aG g).length*8<=140737488355328:=by
  have:=(c2.flatMap_right λ t:aO=>t.lin).length_eq;have r:(aG g).length=(aG b).length:=this;rw[r];exact hb
 rw[<-QS c2 hv f0];generalize hR:nj (canon (mv g)) [] g=R;refine⟨λ k xs i H'=>0<=i/\i<=b.length/\k=(mv (g.take i.toNat)).length/\Row H' xs (mv (g.take i.toNat)),λ _ _ i=>b.length-i.toNat,⟨by omega,by omega,rfl,rfl⟩,?_⟩;rintro j9 d6 k xs i ⟨h0,h1,hk,hr⟩;have d1:=AH (g.take i.toNat);rw[aaE]at d1;have e1:(i+1).toNat=i.toNat+1:=by omega
 refine⟨λ z=>?_,λ c4=>?_⟩
 .have z:=aab z;have hi:i.toNat<g.length:=by omega
  obtain⟨A9,n9,c9,f8,g5,f5,r,q1,q2,q3,q4⟩:=(hg.mono d6).dO hi;have d9:=Ob hi;refine⟨h0,z,_,_,_,_,_,_,_,_,r,by omega,by simp only[ae];omega,⟨by omega,by omega,by rw[e1,d9,aae,<-hk];rfl,?_⟩,by dsimp only;omega⟩;rw[e1,d9];exact hr.append ⟨[_],[_],rfl,⟨rfl,q2⟩,[_],[],rfl,⟨rfl,q3⟩,rfl⟩
 have c4:=aac c4;rw[aag (by omega)]at hk hr;have j4:=AH g;refine⟨_,tP hr hk.symm (by omega),?_⟩;intro h9 g8 c6 c5;have c5:Row h9 c6 (fT (mv g)):=c5;refine⟨_,lJ c5 (by rw[dw,hk]) (by omega),?_⟩;rintro e4 g0 i3 _ e9 ⟨rfl,hP⟩;have hP:Row e4 e9 (canon (mv g)):=hP;have hK:(Lib.compact (fT (mv g))).length=(canon (mv g)).length:=rfl;have i1:=dS (mv g);rw[hK];generalize j6:canon (mv g)=P at hP i1 hR;have c7:Row e4 f2 g:=hg.mono (aa d6 (aa g8 g0));refine⟨λ k1 b1 k2 d7 nx i H'=>Kp g P R b.length k1 b1 k2 d7 nx i H',λ _ _ _ _ _ i=>P.length-i.toNat,⟨by omega,by omega,by omega,[],[],rfl,rfl,rfl,rfl,by simp,by omega,by simp,by simpa using hR.symm⟩,?_⟩;rintro h8 c8 k1 b1 k2 d7 nx i ⟨i0,f1,g9,a3,g1,ho,c1,ha,f4,j3,j8,b5,X⟩;have b3:=hP.mono c8;have b4:=c7.mono c8;refine⟨by simp only[ae];omega,λ z=>?_,λ c4=>?_⟩
 .have z:=aab z;have hi:i.toNat<P.length:=by omega
  have f6:(i+1).toNat<P.length:=by omega
  have e1:(i+1).toNat=i.toNat+1:=by omega
  have b6:i.toNat+1<P.length:=by omega
  obtain⟨w1,g4⟩:=b3.dO hi;obtain⟨w2,d3⟩:=b3.dO f6;have e6:P.drop i.toNat=P[i.toNat]::P[i.toNat+1]::P.drop (i.toNat+1+1):=by
   rw[aas hi,aas b6]
  have a0:P.drop (i+1).toNat=P[i.toNat+1]::P.drop (i.toNat+1+1):=by rw[e1];exact aas b6
  have g3:P[(i+1).toNat]=P[i.toNat+1]:=by congr 1
  rw[g3]at w2 d3;generalize hf:P[i.toNat]=o at*;generalize ht:P[i.toNat+1]=t at*;rw[e6,nj]at X;refine⟨i0,by omega,o,w1,_,λ j0 i9 f3 d5=>Ay (H0:=h8) f3 ha f4 (by have:=b5.length_le;rw[aaE]at this;omega) (ER d5),?_⟩;rintro j2 i2 _ i4 ⟨rfl,hd⟩;refine⟨λ k xs y H'=>0<=y/\y<=b.length/\∃w:List aO,Row H' xs w/\w.length=k/\w.Sublist (g.take y.toNat)/\lu o g1 (g.drop nx.toNat)=w++(g.drop y.toNat).takeWhile (λ x=>decide (x.p.lo=o))/\
    oD o (g.drop nx.toNat)=(g.drop y.toNat).dropWhile (λ x=>decide (x.p.lo=o)),
   λ _ _ y=>b.length-y.toNat,⟨f1,g9,_,hd,rfl,aci.trans b5,rfl,rfl⟩,?_⟩
  rintro b9 a5 F a1 y ⟨m0,m1,w,b0,Y,a6,T,E⟩;have h4:=a6.length_le;rw[aaE]at h4;have k0:(aG w).length<=(aG g).length:=kG (a6.trans (ach _ _));have j7:=dS (aG w);have V:R=a3++(EN o t w++nj (t::P.drop (i.toNat+1+1)) w (g.drop y.toNat))->0<F->∀{Hx:Heap} {zs:G'},Row Hx zs (canon (aG w))->
    ∀(b2:D') (a7:Nat) (G:Heap),Heap.le b9 G->Cells G b2 0 zs->(canon (aG w)).length<=a7->
     (k1+1)*40<=140737488355328/\ae .i64 (i+1)/\Kp g P R b.length (k1+1) (b1++[Φi o,Φi t,.slice b2 (canon (aG w)).length a7]) F a1 y (i+1) G/\P.length-(i+1).toNat<P.length-i.toNat:=by
   intro c3 f7 Hx zs hm b2 a7 G e3 e8 d2;obtain⟨h7,f9⟩:=qS hm;have g6:Sl G b2 (canon (aG w)).length a7 (canon (aG w)):=Row.sl (H:=G) (h7▸nO f9) (ah G) e8 rfl d2 (by show _*8<=_;omega) (by omega);refine⟨by omega,by simp only[ae];omega,⟨by omega,m0,m1,a3++[⟨⟨o,t⟩,canon (aG w)⟩],w,((ho.mono a5).mono e3).append (Row.one ⟨_,_,_,rfl,g4,d3,g6⟩),by simp[c1],b0.mono e3,Y,by simp;omega,by omega,a6,?_⟩,by omega⟩;rw[c3,a0,EN,if_pos (by omega)];simp
  have a2:R=a3++(EN o t w++nj (t::P.drop (i.toNat+1+1)) w (g.drop y.toNat))->¬0<F->ae .i64 (i+1)/\Kp g P R b.length k1 b1 F a1 y (i+1) b9/\P.length-(i+1).toNat<P.length-i.toNat:=by
   intro c3 f7;refine⟨by simp only[ae];omega,⟨by omega,m0,m1,a3,w,ho.mono a5,c1,b0,Y,by omega,by omega,a6,?_⟩,by omega⟩;rw[c3,a0,EN,if_neg (by omega),abO]
  have D:∀(c0:D') (b8:Nat) (a9:Heap),Heap.le b9 a9->Cells a9 c0 0 a1->F<=b8->ZB 249 [S c0 F b8] a9 ⟨false,[(false,[.row 94 3])]⟩ (λ k xs H'=>k=(canon (aG w)).length/\Row H' xs (canon (aG w))):=
   λ c0 b8 a9 g7 e5 d4=>Ia (b0.sl g7 e5 Y d4 (by show F*64<=_;omega) (by omega)) (by omega)
  refine⟨λ L=>?_,λ L=>?_⟩
  .have L:=aab L;have hj:y.toNat<g.length:=by omega
   obtain⟨vs,b7,e7,-⟩:=(b4.mono a5).mg hj;have i7:=(b4.mono a5).dO hj;obtain⟨A9,n9,c9,f8,g5,f5,rfl,q⟩:=id b7;have a4:g.drop y.toNat=g[y.toNat]::g.drop (y.toNat+1):=aas hj;rw[a4]at T E;have e2:(y+1).toNat=y.toNat+1:=by omega
   refine⟨m0,L,g[y.toNat].p.lo,e7 1 1 (by decide),λ a8=>?_,λ i5=>?_⟩
   .have a8:=aab a8;rw[abw,if_pos (by simpa using a8)]at T;rw[abx,if_pos (by simpa using a8)]at E;refine⟨m0,L,_,_,_,_,_,_,_,_,e7 0 4 (by decide),by omega,by simp[ae];omega,⟨by omega,by omega,w++[g[y.toNat]],b0.append ⟨_,[],by rfl,b7,rfl⟩,by grind,?_,?_,?_⟩,by grind⟩
    .grind
    .grind
    grind
   .rw[abw,if_neg (by grind),aar]at T;rw[abx,if_neg (by grind),<-a4]at E;rw[T,E]at X;refine⟨λ h2=>?_,λ h2=>a2 X (by grind)⟩;have h2:=aab h2;refine⟨by simp[ae];omega,⟨by omega,z,⟨t,w2,_,D,?_⟩,_,D,?_⟩,_,D,?_⟩
    .rintro Hx _ zs ⟨rfl,Z⟩;exact V X (by omega) Z
    .rintro Hx _ zs ⟨rfl,Z⟩;exact⟨t,w2,V X (by omega) Z⟩
    .rintro Hx _ zs ⟨rfl,Z⟩;exact⟨by omega,z,t,w2,V X (by omega) Z⟩
  .have L:=aac L;have a4:g.drop y.toNat=[]:=aaN (by omega);rw[a4]at T E;simp at T E;rw[<-a4]at E;rw[T,E]at X;refine⟨λ h2=>?_,λ h2=>a2 X (by grind)⟩;have h2:=aab h2;refine⟨by simp[ae];omega,⟨by omega,z,⟨t,w2,_,D,?_⟩,_,D,?_⟩,_,D,?_⟩
   .rintro Hx _ zs ⟨rfl,Z⟩;exact V X (by omega) Z
   .rintro Hx _ zs ⟨rfl,Z⟩;exact⟨t,w2,V X (by omega) Z⟩
   .rintro Hx _ zs ⟨rfl,Z⟩;exact⟨by omega,z,t,w2,V X (by omega) Z⟩
 .intro A9 c9 i6 h6 d8 d0;have e0:R=a3:=by
   rw[X];have:(P.drop i.toNat).length<=1:=by grind
   match P.drop _,this with
   |[],_=>simp[nj]
   |[x],_=>simp[nj]
  rw[e0];exact ho.sl h6 d8 c1 d0 (by show k1*40<=_;omega) (by omega)
end
section
variable {a:Heap}{b:Nat}{c:G'}
def SI (H:Heap)(O:aU)(N:Nat)(j:G')(e:Int)(k:G')(R:G'->Heap->aU->Prop):Prop:=
 ∃(d:D'),∃(a:Nat),∃(i:Nat),win j (Int.toNat e*2+1) 1=[.slice d a i]/\∃(b:G'),nq O d 107 a i/\Cells H d 0 b/\List.length b=a*4/\(a+1)*64<=140737488355328/\
  ∀(c:D') (h:Nat) (g:Heap) (f:aU),Heap.le H g->Cells g c 0 (b++k)->a+1<=h->nq f c 107 (a+1) h->KE O f d c->
   (0:Int)<=e/\e<(↑N:Int)/\Int.toNat e*2+1+1<=List.length j/\R (av j (Int.toNat e*2+1) [.slice c (a+1) h]) g f
def WS (H:Heap)(O:aU)(N:Nat)(b:G')(e:Int)(a:G')(R:G'->Heap->aU->Prop):Prop:=
 ((0:Int)<=e/\e<(↑N:Int)/\SI H O N b e a R/\SI H O N b e a R)/\(0:Int)<=e/\e<(↑N:Int)/\SI H O N b e a R
def LJ {O:aU}{e:Int}{s:G'}{R:G'->Heap->aU->Prop}{i:List mu}{x:aO}
  (h:fe O a c i) (hN:i.length=b) (p:0<=e) (u:e<b) (hi:e.toNat<i.length) (G:Rep.rel a s x) (J:(i[e.toNat].m+1)*64<=140737488355328)
  (L:∀l v r A f,Heap.le a v->fe r v l (i.set e.toNat ⟨i[e.toNat].key,A,i[e.toNat].m+1,f,i[e.toNat].rows++[x]⟩)->(∀o t y,O o=some (.mp t y)->r o=O o)->R l v r):WS a O b c e s R:=by
 have j:SI a O b c e s R:=by
  obtain⟨V,⟨U,n1,Z,rfl,W⟩,B,-⟩:=h.row.mg _;obtain⟨z,⟨K,M,w⟩,C,Y⟩:=h.opn _ _;refine⟨_,_,_,B 1 1 (by decide),K,z,M,by rw[w.length,C];rfl,J,?_⟩;intro I S E D k Q n q g;refine⟨p,u,?_,L _ _ _ _ _ k (h.push _ w k Q (Rep.mono k G) q g n) ?_⟩
  .rw[h.row.length];show _<=i.length*2;omega
  .intro o t y T;refine(g _ (by grind) ?_).2;rcases z with⟨X,-⟩ |⟨d,P,F⟩
   .grind
   grind
 exact⟨⟨p,u,j,j⟩,p,u,j⟩
def Kq {d:G'}{s t:mu}(g:Rep.rel a c s)(e:Rep.rel a d t):ZB 176 [.agg ⟨c⟩,.agg ⟨d⟩] a gL (λ r _=>r=bK s.key t.key):=by
 obtain⟨A,n,b,rfl,f⟩:=g;obtain⟨l,j,k,rfl,i⟩:=e;refine ΦK 0 (aj [9] [] []) (λ c=>C ZP 116 [S A n b,S l j k] a λ d e=>c e d) ?_;dsimp only[aQ,aR,C];exact⟨_,cL f i,λ _ _ _ h=>h⟩
def oR:Go.Shelf.Ren:=⟨λ | 6=>175 | 15=>239 | 14=>238 | 28=>315 | 29=>316 | 20=>307 | 21=>308 | 22=>309 | 23=>310 | 24=>311 | 25=>312 | 26=>313 | 27=>314 | 46=>398 | 47=>399 | 48=>400 | 49=>401 | 50=>402 | 57=>476 | n=>n,λ | 22=>201 | 24=>204 | 25=>254 | 3=>3 | 39=>310 | 0=>0 | 53=>404 | 55=>406 | 4=>4 | 46=>398 | 45=>397 | 50=>252 | 5=>5 | 9=>9 | 66=>483 | 70=>487 | 76=>567 | 77=>232 | n=>n,λ n=>n⟩
def Ic:SlLaysF0.n6 Tryz.prog oR:=by
 constructor<;>first | kernel_rfl | exact λ _=>by kernel_rfl | exact ab3 (by kernel_rfl) (by kernel_rfl)
def Oc:TM Tryz.prog oR 2:=⟨Ic,Tryz.isAgg204,Tryz.sizeOf204,by kernel_rfl⟩
def ES {l:List mu}(o:Row a c l)(k:l.length=b)(p:b<=140737488355328):
  ZC 175 [.slice none 0 0,.func (.func 176) #[] #[]] 0 204 b c true a ⟨true,[]⟩ (λ q (g:Heap)=>∃m:List mu,Row g q m/\m.Perm l/\m.Pairwise (λ d e=>¬bK e.key d.key<0)):=by
 have h:=Gl Oc o k p (f:=176) (cap:=[]) (cf:=λ x y:mu=>bK _ _) ⟨_,Tryz.func176,rfl,by rfl⟩ (DY aD _)
  (λ g r u s t _ j i=>Kq j i)
 exact h
def AI {l:List aO}{a:I'}{v:List az}:(bb (l.take b) a v).length<=b:=
 aax (abm _ _) (by grind)
def CT {A B:D'}{c m d:Nat}{l:List aO}{s:I'}(hT:mr a)(hs:Sl a A b c l)(ht:Sl a B m d s)(hb:m*32<=140737488355328)(hf:vP l s):
  ZB 118 [S A b c,S B m d] a fi (λ A' n' c' Y=>Sl Y A' n' c' (fF l s)):=by
 refine ΦK 1 {aj [22,29] [(14,ga)] [(4,[.slot 6 false [.row 64 204],ag 16])]with mt:=ir [175] [],opn:=true,oap:=mem [57]} (λ c=>∀(e:Nat)(f:Nat->Option XO),Tu ux f e 251->vb ZG a (λ g=>g 0 [] 0 a f) λ g h i j k l n=>J (n<O b) (ΦX A n b (ΦE ZI i A (N n*4) (λ o p q r s t u v=>C ZO 139 [ΦG [I r,I s]] i λ w x=>ΦQ (!x) (ΦR (n+1)/\g k l (n+1) w j/\h k l (n+1)<h k l n) (C ZT 164 [S o p q,S B m d] w (λ y z a0 a1=>C YE 120 [S z a0 a1] y λ a2 a3=>∃a4:List (Value×Value),UU j (some e) 251 a4/\∃a5:Int,tp a4 (ΦT a3) false [I 0] [I a5]/\let a6:=[Value.slice o p q,I r,I s,S t u v];ΦQ (!th a4 (ΦT a3)) (∃a7:List (Value×Value),UW j (some e) 251 a7/\∀a8:Nat->Option XO,UX j a8 (some e) 251 (fL a7 (ΦT a3) (I (O k)))->(k+1)*48<=M/\let a9:=let a9:=l++[Value.slice z a0 a1,S none 0 0];ΦF ZM a9 (N (O k)*2+1) 1 λ b0 b1 b2=>∃b3:G',nq a8 b0 107 b1 b2/\Cells a2 b0 0 b3/\L b3=b1*4/\(b1+1)*64<=M/\∀(b4:D')(b5:Nat)(b6:Heap)(b7:Nat->Option XO),Heap.le a2 b6->Cells b6 b4 0 (b3++a6)->b1+1<=b5->nq b7 b4 107 (b1+1) b5->KE a8 b7 b0 b4->ΦY (O k) (k+1) (N (O k)*2+1+1<=L a9/\ΦR (n+1)/\(let b8:=av a9 (N (O k)*2+1) [S b4 (b1+1) b5];g (k+1) b8 (n+1) b6 b7/\h (k+1) b8 (n+1)<h k l n));ΦY (O k) (k+1) (a9/\a9)/\ΦY (O k) (k+1) a9) (let a7:=ΦF ZM l (N a5*2+1) 1 λ a7 a8 a9=>∃b0:G',nq j a7 107 a8 a9/\Cells a2 a7 0 b0/\L b0=a8*4/\(a8+1)*64<=M/\∀(b1:D')(b2:Nat)(b3:Heap)(b4:Nat->Option XO),Heap.le a2 b3->Cells b3 b1 0 (b0++a6)->a8+1<=b2->nq b4 b1 107 (a8+1) b2->KE j b4 a7 b1->ΦY a5 k (N a5*2+1+1<=L l/\ΦR (n+1)/\(let b5:=av l (N a5*2+1) [S b1 (a8+1) b2];g k b5 (n+1) b3 b4/\h k b5 (n+1)<h k l n));ΦY a5 k (a7/\a7)/\ΦY a5 k a7)))))) (ZZ ZV 175 [S none 0 0,.func (.func 176) ⟨[]⟩ ⟨[]⟩] 0 204 k l true i (λ o p=>U o p k λ q r s=>c q k r s))) ?_;dsimp only[PL,aQ,aR,aW,eQ,C,ZZ,ΦE,ΦF,L,M,N,ΦQ,ΦR,vb,ΦX,ΦY,O,J];have hl:=hs.len;have d1:b*64<=140737488355328:=hs.bnd;rintro Z O1 ⟨-,c3,-⟩;refine⟨λ k xs i Y T=>0<=i/\i<=b/\∃u:List mu,u.length=k/\k<=i.toNat/\fe T Y xs u/\eK u (l.take i.toNat) s/\T Z=some (.mp 251 (sY 0 (u.map (·.key)))),λ _ _ i=>b-i.toNat,
  ⟨by omega,by omega,[],rfl,by omega,⟨rfl,λ j h=>by simp at h,λ j k h=>by simp at h⟩,eK.nil,c3⟩,?_⟩
 rintro H5 X O7 k xs i ⟨h0,h1,u,hk,d3,v,t,W⟩;have e1:(i+1).toNat=i.toNat+1:=by omega
 refine⟨λ F=>?_,λ P=>?_⟩
 .have F:=aab F;obtain⟨hi,hA,us,hc,D⟩:=hs.at X h0 F;obtain⟨A9,n9,c9,d5,d7,d2,rfl,q1,q2,q3,q4⟩:=id D;refine⟨hA,h0,F,_,_,_,_,_,_,_,_,hc,_,bX,?_⟩;rintro H3 l3 _ rfl;refine⟨λ w=>?_,λ w=>?_⟩
  .have w:dm l[i.toNat].p=false:=by simpa using w
   exact⟨by simp only[ae];omega,⟨by omega,by omega,u,hk,by omega,v.mono l3,by rw[e1];exact t.skip hi w,W⟩,by dsimp only;omega⟩
  have w:dm l[i.toNat].p=true:=by simpa using w
  refine⟨_,jy (q1.mono l3) (ht.mono (aa X l3)) hb,?_⟩;intro H4 l4 A4 n4 c4 h4;have a6:=aa l3 l4;refine⟨_,rl (hT.mono (aa X a6)) h4 (hf _ (aan hi)),?_⟩;rintro c8 l5 _ rfl;have Q:=aa a6 l5;have c2:∀r∈u,r.rows.length<=i.toNat:=λ r E=>by rw[t.rows r E];exact AI
  have b2:∀{q:Nat},q<=i.toNat->(q+1)*64<=140737488355328:=λ h=>by
   have:i.toNat+1<=b:=by omega
   omega
  by_cases G:aJ l[i.toNat].vals s∈u.map (·.key)
  .obtain⟨j,hj,a9⟩:=aaM G;have e3:j<u.length:=by simpa using hj
   have b7:u[j].key=aJ l[i.toNat].vals s:=by simpa using a9
   have hf:=CR (o:=0) t.nod (by rw[aai hj,a9]);refine⟨_,.inr ⟨Z,rfl,W⟩,((0+j:Nat):Int),by unfold tp;rw[hf];rfl,λ hn=>?_,λ _=>?_⟩
   .rw[Az,aau G]at hn;cases hn
   have d9:(((0+j:Nat):Int)).toNat=j:=by omega
   have b4:u[(((0+j:Nat):Int)).toNat].m=u[j].m:=by congr 2
   refine LJ (R:=λ y Y T=>ae .i64 (i+1)/\(0<=i+1/\i+1<=b/\∃u:List mu,u.length=k/\k<=(i+1).toNat/\fe T Y y u/\eK u (l.take (i+1).toNat) s/\T Z=some (.mp 251 (sY 0 (u.map (·.key)))))/\b-(i+1).toNat<b-i.toNat)
    (x:=l[i.toNat]) (v.mono Q) hk (by simp) (by omega) (by omega) (Rep.mono Q D) (by rw[b4];exact b2 (by rw[<-(v.opn j _).len];grind)) ?_
   intro y c5 b3 b8 b6 b5 z V;refine⟨by simp[ae];omega,⟨by omega,by omega,_,by grind,by omega,z,?_,?_⟩,by omega⟩
   .simp;rw[e1];exact eK.put _ t.nod (t.keys.ef _ G) t.rows _ w b7
   .rw[V _ _ _ W,W];congr 3;apply aeJ
    .simp
    grind
  .refine⟨_,.inr ⟨Z,rfl,W⟩,0,by unfold tp;rw[CS G],λ _=>?_,λ hn=>?_⟩
   .refine⟨_,⟨Z,rfl,W⟩,?_⟩;rintro e2 ⟨c6,d8,e0,a0⟩;obtain rfl:Z=c6:=by grind
    have c7:=HV (o:=0) G;have a7:=((v.mono Q).other ⟨_,_,W⟩ a0).new (h4.mono l5);refine⟨by omega,?_⟩;refine LJ (R:=λ y Y T=>ae _ _/\(0<=i+1/\i+1<=b/\∃u:List _,u.length=k+1/\k+1<=(i+1).toNat/\fe T Y y u/\eK u _ _/\T _=some (.mp _ (sY 0 (u.map _))))/\b-(i+1).toNat<b-i.toNat)
     (x:=l[i.toNat]) a7 (by grind) (by simp) (by omega) (by grind) (Rep.mono Q D) (by grind) ?_
    intro y c5 b3 b8 b6 b5 z V;have b1:(u++[(⟨aJ l[i.toNat].vals s,none,0,0,[]⟩:mu)]).map (·.key)=u.map (·.key)++[aJ l[i.toNat].vals s]:=by simp
    refine⟨by simp[ae];omega,⟨by omega,by omega,_,by grind,by omega,z,?_,?_⟩,by omega⟩
    .rw[e1];refine eK.put _ ?_ ?_ ?_ _ w (by grind)
     .rw[b1,List.nodup_append];exact⟨t.nod,by simp,λ f ha g d6 e=>G (by grind)⟩
     .rw[b1];exact t.keys.new _ w
     .intro r E;rcases aam.1 E with E | E
      .exact t.rows r E
      .rw[aaD]at E;subst E;exact(AA t.keys G).symm
    grind
   .rw[Az]at hn;grind
 .have P:=aac P;rw[aag (by omega)]at t;refine⟨_,ES v.row hk (by omega),?_⟩;rintro H3 l3 ys ⟨d0,G,w,c0⟩ A4 c4 H6 l6 b9 c1;have P:=Oa t w c0;have a8:=aa l3 l6;rw[<-P];refine(LG (G.mono l6) λ r E=>?_).sl (ah _) b9 (by rw[aaQ,w.length_eq,hk]) c1 (by show k*48<=_;omega) (by omega);obtain⟨j,hj,rfl⟩:=aaM (w.mem_iff.1 E);obtain⟨a1,⟨zs,a2,a3⟩,a4,a5⟩:=v.opn j _;have d4:u[j].rows.length<=b:=by
   rw[t.rows _ (aan _),<-hl];exact abm _ _
  exact a3.sl a8 (a2.mono a8) a4 a5 (by show u[j].m*64<=_;omega) (by omega)
end
section
variable {a f:List aO}{b g h:D'}{c d i j k l:Nat}{e:Heap}{m:I'}
def AJ:∀(c:List cT) (b:List cT),iX c [] b=b
 |[],_=>rfl
 | s::r,b=>by
  have e:jY [s.p] []=[]:=by
   have h:norm []=[]:=rfl;have d:∀a:List _,nV a []=[]:=λ a=>by simp[nV,uT]
   unfold jY;grind
  rw[iX,pieces,e,List.foldl_nil,AJ r]
def QT {l:List cT}{v:cT}(h:∀u,l.getLast?=some u->¬(u.p.hi=v.p.lo/\u.ids=v.ids)):cG l v=l++[v]:=by
 unfold cG;grind
def Up (c:∀x∈a,dm x.p=true)(b:∀x∈f,dm x.p=true):iX (iz (tg a []) (canon (bS a))) (diff (norm (a.map (·.p))) (norm (f.map (·.p)))) []=xH a f:=
 QO c b λ d=>by rw[Sc,fu,fu]
def Ie {H:Heap}{e:Nat}{l:List aO}{ps:List bc}(ht:Sl H g i j l)(hp:Sl H h k e ps)(hm:i<1700)(hk:k<3400)(hv:∀x∈l,dm x.p=true)(hb:(aG l).length*8<=140737488355328):
  ZB 121 [.agg ⟨[S b c d,S g i j]⟩,S h k e] H fi (λ A' n' c' H'=>Sl H' A' n' c' (iX (iz (tg l []) (canon (bS l))) (diff (norm (l.map (·.p))) ps) [])):=by
 refine ΦK 2 (aj [61] [(12,ab 2 6 [22,24,15,16,18,21,26,28,30,32,34,36,44,46,39,40,43,49,50,0]),(14,[2,4,6,8,11,12,15,17,18,0])] [(6,[.slot 6 false [.row 82 241],ag 22]),(9,[.slot 6 false [.row 83 241],ag 32])]) (λ a=>let f:=[ΦG [S b c d,S g i j]];C ZT 119 f H λ l m n o=>C ZT 182 [S m n o,S h k e] l λ p q r s=>J (O r=0) (a none 0 0 p) (C ZT 183 f p (λ t u v w=>W ZG t (λ x=>x 0 [] 0 t) λ x y z a0 a1 a2=>J (a2<O v) (ΦX u a2 v (ΦE Xs z u (N a2*3) (λ a3 a4 a5 a6 a7=>U z [I a3,I a4] 1 λ a8 a9 b0=>C ZT 184 [S a8 1 a9,S q r s] b0 λ b1 b2 b3 b4=>W ZG b1 (λ b5=>b5 a0 a1 0 b1) λ b5 b6 b7 b8 b9 c0=>J (c0<O b3) (ΦX b2 c0 b3 (ΦE ZK b7 b2 (N c0*2) (λ c1 c2=>let c3:=λ c3=>C ZT 186 [S a5 a6 a7] c3 λ c4 c5 c6 c7=>(b8+1)*40<=M/\ΦR (c0+1)/\let c8:=b9++[Value.int .i64 c1,I c2,S c5 c6 c7];b5 (b8+1) c8 (c0+1) c4/\b6 (b8+1) c8 (c0+1)<b6 b8 b9 c0;J (0<O b8) (ΦR (O b8-1)/\ΦY (O b8-1) b8 (ΦF ZE b9 (N (O b8-1)*3+0+1) 1 (λ c4=>J (c4=c1) (ΦR (O b8-1)/\ΦY (O b8-1) b8 (ΦF ZM b9 (N (O b8-1)*3+2) 1 (λ c5 c6 c7=>C ZO 185 [S c5 c6 c7,S a5 a6 a7] b7 λ c8 c9=>ΦQ c9 (ΦR (O b8-1)/\ΦY (O b8-1) b8 (N (O b8-1)*3+0+1+1<=L b9/\ΦR (c0+1)/\(let d0:=av b9 (N (O b8-1)*3+0+1) [I c2];b5 b8 d0 (c0+1) c8/\b6 b8 d0 (c0+1)<b6 b8 b9 c0))) (c3 c8)))) (c3 b7)))) (c3 b7)))) (ΦR (a2+1)/\x b8 b9 (a2+1) b7/\y b8 b9 (a2+1)<y a0 a1 a2)))) (U z a1 a0 (λ a3 a4 a5=>a a3 a0 a4 a5))))) ?_;dsimp only[PL,aQ,aR,aW,eQ,C,ΦE,ΦF,L,M,N,ΦQ,ΦR,W,ΦX,ΦY,O,J];have hl:=ht.len;have g5:=hp.len;refine⟨_,LH ht,?_⟩;intro H1 l1 A3 n4 c5 h3;refine⟨_,sX h3 (hp.mono l1),?_⟩;intro H8 l8 g2 f7 g4 a5;have d8:=a5.len;have e9:(diff (norm (l.map (·.p))) ps).length<=6000000:=by
  have b1:=AF (norm ps) (norm (norm (l.map (·.p))));have b2:=gD ps;have b3:=gD (norm (l.map (·.p)));have b4:=gD (l.map (·.p));rw[aaQ]at b4;have b5:(norm (norm (l.map (·.p)))).length*((norm ps).length+1)<=1700*3400:=Nat.mul_le_mul (by omega) (by omega);unfold diff;omega
 generalize hM:diff (norm (l.map (·.p))) ps=V at a5 d8 e9;refine⟨λ h0=>?_,λ h0=>?_⟩
 .have h0:=aab h0;have:V=[]:=aal (by omega);rw[this,AJ];exact Sl.nil
 refine⟨_,Ib (ht.mono (aa l1 l8)) (by omega) hv hb,?_⟩;intro g3 e6 g7 c2 g1 hs;have d7:=hs.len;have e3:(iz (tg l []) (canon (bS l))).length<=3400:=by
  have b1:=HW (tg l []) (canon (bS l));have b2:=dS (bS l);have b3:=iU l;omega
 generalize hS:iz (tg l []) (canon (bS l))=G at hs d7 e3;generalize hR:iX G V []=R;refine⟨λ u xs a H'=>0<=a/\a<=c2/\∃r:List cT,Row H' xs r/\r.length=u/\u<=a.toNat*6000000/\R=iX (G.drop a.toNat) V r,λ _ _ a=>c2-a.toNat,⟨by omega,by omega,[],rfl,rfl,by omega,hR.symm⟩,?_⟩;rintro g6 d2 u xs a ⟨i0,i1,r,hr,hu,e0,he⟩;refine⟨λ X=>?_,λ d0=>?_⟩
 .have X:=aab X;obtain⟨hi,hA,_,hc,⟨g0,f8,f9,rfl,q1,q2,q3⟩⟩:=hs.at d2 i0 X;have e1:(a+1).toNat=a.toNat+1:=by omega
  rw[aas hi,iX]at he;rw[show a.toNat+1=(a+1).toNat by omega]at he;generalize G[a.toNat]=s at hc q1 q2 q3 he;refine⟨hA,i0,X,_,_,_,_,_,hc,?_⟩;intro d9 f1 d1 a2 c9 c4;have b9:Sl d1 d9 1 f1 [s.p]:=Row.sl (H:=d1) (VR s.p q1 q2) (ah _) c9 rfl c4 (by decide) (by decide);refine⟨_,rI b9 (a5.mono (aa e6 (aa d2 a2))),?_⟩;intro h2 b8 f6 Q g8 hx;have d6:=hx.len;have e4:=BD s.p V;have f0:pieces s V r=(jY [s.p] V).foldl (λ o p=>cG o ⟨p,s.ids⟩) r:=rfl;generalize jY [s.p] V=a3 at hx d6 e4 f0;refine⟨λ t ys f H'=>0<=f/\f<=Q/\∃q:List cT,Row H' ys q/\q.length=t/\t<=a.toNat*6000000+f.toNat/\pieces s V r=(a3.drop f.toNat).foldl (λ o p=>cG o ⟨p,s.ids⟩) q,λ _ _ f=>Q-f.toNat,
   ⟨by simp,by simp,r,hr.mono (aa a2 b8),hu,aax e0 (acp _ _),by grind⟩,?_⟩
  rintro e5 c0 t ys f ⟨j0,j1,q,a1,e8,f4,a9⟩;refine⟨λ Y=>?_,λ c3=>?_⟩
  .have Y:=aab Y;obtain⟨ji,jA,_,jc,⟨rfl,r1,r2⟩⟩:=hx.at c0 j0 Y;have e2:(f+1).toNat=f.toNat+1:=by omega
   rw[aas ji,adu,show f.toNat+1=(f+1).toNat by omega]at a9;generalize a3[f.toNat]=p at jc r1 r2 a9;have b7:=a1.length;have a0:=q3.mono (aa a2 (aa b8 c0));have f2:a.toNat*6000000<=3400*6000000:=by omega
   have c6:=jG q ⟨p,s.ids⟩;have a7:(∀w,q.getLast?=some w->¬(w.p.hi=p.lo/\w.ids=s.ids))->∀{Hy:Heap} {z:D'} {E F:Nat},Heap.le e5 Hy->Sl Hy z E F s.ids->
     (t+1)*40<=140737488355328/\ae .i64 (f+1)/\(0<=f+1/\f+1<=Q/\∃y:List cT,Row Hy (ys++[Φi p.lo,Φi p.hi,S z E F]) y/\y.length=t+1/\t+1<=a.toNat*6000000+(f+1).toNat/\pieces s V r=(a3.drop (f+1).toNat).foldl (λ o p=>cG o ⟨p,s.ids⟩) y)/\Q-(f+1).toNat<Q-f.toNat:=by
    intro d5 Hy z E F ly b6;have hx:=QT (l:=q) (v:=⟨p,s.ids⟩) d5;refine⟨by omega,by simp[ae];omega,⟨by omega,by omega,q++[⟨p,s.ids⟩],(a1.mono ly).append (Row.one ⟨_,_,_,rfl,r1,r2,b6⟩),by grind,by omega,?_⟩,by omega⟩;grind
   refine⟨jA,j0,Y,_,_,jc,λ hn=>?_,λ hn=>?_⟩
   .have hn:=aab hn;have hq:((t:Int)-1).toNat<q.length:=by omega
    obtain⟨vs,⟨A1,n1,c1,rfl,w1,w2,w3⟩,hg,e7⟩:=a1.mg hq;have b0:q.getLast?=some q[((t:Int)-1).toNat]:=by
     grind
    have d4:=hg 1 1 (by decide);have d3:=hg 2 1 (by decide);refine⟨by simp[ae];omega,by omega,by omega,_,d4,λ hh=>⟨by simp[ae];omega,by omega,by omega,_,_,_,d3,_,Cr w3 a0,?_⟩,λ hh=>?_⟩
    .have hh:=aab hh;rintro g9 a4 _ rfl;refine⟨λ Z=>?_,λ Z=>?_⟩
     .have Z:=aab Z;have c6:cG q ⟨p,s.ids⟩=q.set ((t:Int)-1).toNat ⟨⟨q[((t:Int)-1).toNat].p.lo,p.hi⟩,q[((t:Int)-1).toNat].ids⟩:=by
       unfold cG;rw[b0];simp only;rw[if_pos ⟨hh,Z⟩,<-zy (by omega),show q.length-1=((t:Int)-1).toNat by omega]
      refine⟨by simp[ae];omega,by omega,by omega,?_,by simp[ae];omega,⟨by omega,by omega,q.set ((t:Int)-1).toNat ⟨⟨q[((t:Int)-1).toNat].p.lo,p.hi⟩,q[((t:Int)-1).toNat].ids⟩,?_,?_,by omega,?_⟩,by grind⟩
      .rw[b7];show _<=q.length*3;omega
      .exact(e7 1 _ ⟨⟨q[((t:Int)-1).toNat].p.lo,p.hi⟩,q[((t:Int)-1).toNat].ids⟩ (by show 1+1<=3;simp) ⟨A1,n1,c1,rfl,w1,r2,w3⟩).mono a4
      .grind
      grind
     .refine⟨_,vx (a0.mono a4),λ c8 T z E F P=>a7 (λ w hw hc=>?_) (aa a4 T) P⟩;grind
    .refine⟨_,vx a0,λ c8 T z E F P=>a7 (λ w hw hc=>?_) T P⟩;grind
   .refine⟨_,vx a0,λ c8 T z E F P=>a7 (λ w hw hc=>?_) T P⟩;grind
  .have c3:=aac c3;have kb:t<=(a+1).toNat*6000000:=by grind
   rw[aaN (by omega)]at a9;refine⟨by simp[ae];omega,⟨by omega,by omega,q,a1,e8,kb,by grind⟩,by grind⟩
 .have d0:=aac d0;rw[aaN (by omega)]at he;rw[he];intro h1 f3 f5 c7 a8 a6;exact hr.sl c7 a8 hu a6 (by show u*40<=_;omega) (by omega)
def ET {s:ByteArray}{v:Value}(h:cK (ΦT s) v=true):v= .string s:=by
 cases v<;>simp_all[cK]
def qC {s:ByteArray}:cK (ΦT s) (ΦT s)=true:=aau rfl
def qD {s:ByteArray}{x:Value}:∀b:List (Value×Value),cH (fL b (ΦT s) x) (ΦT s)=some x
 |[]=>by simp[cH,fL,qC]
 | p::r=>by
  have a:=qD (s:=s) (x:=x) r;unfold cH at a⊢;rw[fL];split
  .rw[abG,qC];rfl
  grind
def oE {s t:ByteArray}{x:Value}(a:t≠s):∀b:List (Value×Value),cH (fL b (ΦT s) x) (ΦT t)=cH b (ΦT t)
 |[]=>by
  have:cK (ΦT t) (ΦT s)=false:=aao a;simp[cH,fL,this]
 | p::r=>by
  have c:=oE (x:=x) a r;unfold cH at c⊢;rw[fL];split
  .rename_i h;have d:=ET h;have:cK (ΦT t) (ΦT s)=false:=aao a;grind
  grind
structure oF (H:Heap)(es:List (Value×Value))(ks:List (List az))(F:List az->List bc):Prop where
 has:∀v∈ks,∃A n c,cH es (.string (ee v))=some (.slice A n c)/\Sl H A n c (F v)
 non:∀v,v∉ks->cH es (.string (ee v))=none
def oF.mono {H d:Heap}{b:List (Value×Value)}{e:List (List az)}{F:List az->List bc}(h:oF H b e F)(a:Heap.le H d):oF d b e F:=
 ⟨λ v f=>let⟨A,n,c,i,g⟩:=h.has v f;⟨A,n,c,i,g.mono a⟩,h.non⟩
def oF.put {j:List (Value×Value)}{g:List (List az)}{F:List az->List bc}(h:oF e j g F){v:List az}(o:Sl e b c d (F v)):oF e (fL j (ΦT (ee v)) (S b c d)) (g++[v]) F:=by
 refine⟨λ u f=>?_,λ u f=>?_⟩
 .by_cases a:u=v
  .subst a;exact⟨b,c,d,qD _,o⟩
  .have f:u∈g:=by
    grind
   obtain⟨p,k,m,q,l⟩:=h.has u f;exact⟨p,k,m,by rw[oE λ i=>a (lp i)];grind,l⟩
 .simp at f;rw[oE λ i=>f.2 (lp i)];exact h.non u f.1
def oF.look {d:List (Value×Value)}{b:List (List az)}{F:List az->List bc}(h:oF e d b F)(v:List az)(i:v∉b->F v=[]):∃A n c,tp d (ΦT (ee v)) false [.slice none 0 0] [S A n c]/\Sl e A n c (F v):=by
 by_cases a:v∈b
 .obtain⟨A,n,c,g,f⟩:=h.has v a;exact⟨A,n,c,by unfold tp;rw[g];rfl,f⟩
 .exact⟨none,0,0,by unfold tp;rw[h.non v a],by rw[i a];exact Sl.nil⟩
def wX (b:vP a m):∀v∈bl a m,(keyBytes v).length<=140737488355328:=by
 intro v c;obtain⟨t,d,e,rfl⟩:=CN.1 ((fE a _ v).1 c);exact b t d
def qE (l:List aO)(c:I'):(bl l c).length<=l.length:=by
 refine HF ?_ (fE l _);refine(lV l _).imp λ {a b} h e=>?_;rw[e,aD.refl]at h;grind
def oG (l:List aO)(a:I')(v:List az):(bb l a v).length<=l.length:=abm _ _
def BE {D:D'}{p q:Nat}{s:I'}(hT:mr e)(h1:Sl e b c d a)(h2:Sl e g i j f)(h3:Sl e h k l m)(h4:Sl e D p q s)(I:Fit a m)(z:Fit f s):
  ZB 66 [S b c d,S g i j,S h k l,S D p q] e fi (λ A' n' c' H'=>Sl H' A' n' c' (AB a f m s)):=by
 refine ΦK 1 {aj [27,44] [(5,[2,4,6,10,9,13,15,0]),(11,[2,4,6,8,10,13,15,17,19,20,0])] [(3,[ag 20]),(9,[.slot 12 false [.row 50 241],ag 35])]with opn:=true} (λ a=>∀(f:Nat)(m:Nat->Option XO),Tu ux m f 200->C ZT 118 [S g i j,S D p q] e λ n o r s=>vb ZE n (λ t=>t 0 n m) λ t u v w x=>J (x<O r) (ΦX o x r (ΦE XI v o (N x*2) (λ y z a0 a1 a2 a3=>C YE 120 [S y z a0] v λ a4 a5=>C ZT 119 [ΦG [S y z a0,S a1 a2 a3]] a4 λ a6 a7 a8 a9=>∃b0:List (Value×Value),UW w (some f) 200 b0/\∀b1:Nat->Option XO,UX w b1 (some f) 200 (fL b0 (ΦT a5) (S a7 a8 a9))->ΦR (x+1)/\t (x+1) a6 b1/\u (x+1)<u x))) (C ZT 118 [S b c d,S h k l] v (λ y z a0 a1=>vb ZG y (λ a2=>a2 0 [] 0 y w) λ a2 a3 a4 a5 a6 a7 a8=>J (a8<O a0) (ΦX z a8 a0 (ΦE XI a4 z (N a8*2) (λ a9 b0 b1 b2 b3 b4=>C YE 120 [S a9 b0 b1] a4 λ b5 b6=>∃b7:List (Value×Value),UU a5 (some f) 200 b7/\∃(b8:D')(b9 c0:Nat),tp b7 (ΦT b6) false [S none 0 0] [S b8 b9 c0]/\C ZT 121 [ΦG [S a9 b0 b1,S b2 b3 b4],S b8 b9 c0] b5 λ c1 c2 c3 c4=>∃c5:G',Cells c1 c2 0 c5/\L c5=c3*3/\(a6+c3)*40<=M/\ΦR (a8+1)/\a2 (a6+c3) (a7++c5) (a8+1) c1 a5/\a3 (a6+c3) (a7++c5) (a8+1)<a3 a6 a7 a8))) (U a4 a7 a6 (λ a9 b0 b1=>a a9 a6 b0 b1))))) ?_;dsimp only[PL,aQ,aR,aW,eQ,C,ΦE,L,M,N,ΦR,vb,ΦX,O,J];have f1:=I.Bp;have f2:=z.Bp;have c1:=I.clen;have c2:=z.clen;have i1:=I.di;have i2:=z.di;have e3:=h3.len;have e4:=h4.len;rintro b0 O1 ⟨-,c5,-⟩;refine⟨_,CT hT h2 h4 (by omega) z.keys,?_⟩;intro H4 l4 A6 n7 c8 hg;have e8:(bl f s).length=n7:=by rw[<-hg.len];simp[fF]
 have b9:=wX z.keys;have d6:=qE f s;refine⟨λ o H' O'=>0<=o/\o<=n7/\∃es,O' b0=some (.mp 200 es)/\oF H' es ((bl f s).take o.toNat) (λ v=>norm ((bb f s v).map (·.p))),λ o=>n7-o.toNat,
  ⟨by simp,by simp,[],c5,⟨λ v hv=>by grind,λ v _=>rfl⟩⟩,?_⟩
 rintro f4 T h8 o ⟨i0,g0,es,ho,hd⟩;refine⟨λ t=>?_,λ E=>?_⟩
 .have t:=aab t;obtain⟨hi,hA,_,hc,⟨f9,h7,i6,e1,f5,i5,rfl,V,Q⟩⟩:=hg.at T i0 t;have a9:o.toNat<(bl f s).length:=by omega
  have c0:(fF _ _)[o.toNat]=⟨(bl _ _)[o.toNat],bb f s (bl _ _)[o.toNat]⟩:=by simp[fF]
  rw[c0]at V Q;have y:=aan a9;have G:(bl f s).take (o+1).toNat=(bl f s).take o.toNat++[(bl f s)[o.toNat]]:=by
   rw[show(o+1).toNat=o.toNat+1 by omega,aaj _]
  generalize (bl _ _)[o.toNat]=v at V Q y G;refine⟨hA,i0,t,_,_,_,_,_,_,hc,_,rl (hT.mono (aa l4 T)) V (b9 v y),?_⟩;rintro g6 a8 _ rfl;refine⟨_,LH (Q.mono a8),?_⟩;intro i3 d1 h9 e2 h5 c4;refine⟨es,⟨b0,rfl,ho⟩,?_⟩;rintro h6 ⟨c7,g7,d0,-⟩;obtain rfl:b0=c7:=by grind
  refine⟨by simp[ae];omega,⟨by omega,by omega,_,d0,?_⟩,by grind⟩;rw[G];exact(hd.mono (aa a8 d1)).put c4
 have E:=aac E;rw[aag (by omega)]at hd;have w:=aa l4 T;refine⟨_,CT (hT.mono w) (h1.mono w) (h3.mono w) (by omega) I.keys,?_⟩;intro f7 a1 e7 X e5 a6;have d4:(bl a m).length=X:=by rw[<-a6.len];simp[fF]
 have a5:=wX I.keys;have d5:=qE a m;have a0:=aa w a1;generalize hF:(λ v=>xH (bb a m v) (bb f s v))=F;have a4:AB a f m s=(bl a m).flatMap F:=by subst hF;rfl
 have c6:∀v,(F v).length<=7000:=λ v=>by
  have b1:=HY (bb a m v) (bb f s v);have b2:=oG a m v;have b3:=oG f s v;grind
 refine⟨λ u xs r H' O'=>0<=r/\r<=X/\O' _=some _/\Row H' xs (((bl a m).take r.toNat).flatMap F)/\u=(((bl a m).take r.toNat).flatMap F).length/\u<=r.toNat*7000,λ _ _ r=>X-r.toNat,
  ⟨by simp,by simp,ho,rfl,rfl,by simp⟩,?_⟩
 rintro g9 Y i4 u xs r ⟨j0,j1,Z,hr,hu,g2⟩;refine⟨λ t=>?_,λ E=>?_⟩
 .have t:=aab t;obtain⟨hj,hA,_,hc,⟨f6,d7,g8,g3,g1,g4,rfl,V,Q⟩⟩:=a6.at Y j0 t;have a7:r.toNat<(bl a m).length:=by omega
  have b8:(fF _ _)[r.toNat]=⟨(bl _ _)[r.toNat],bb a m (bl _ _)[r.toNat]⟩:=by simp[fF]
  rw[b8]at V Q;have y:=aan a7;have G:((bl a m).take (r+1).toNat).flatMap F=((bl a m).take r.toNat).flatMap F++F (bl _ _)[r.toNat]:=by
   rw[show(r+1).toNat=r.toNat+1 by omega,aaj a7,abo];simp
  generalize (bl _ _)[r.toNat]=v at V Q y G;refine⟨hA,j0,t,_,_,_,_,_,_,hc,_,rl (hT.mono (aa a0 Y)) V (a5 v y),?_⟩;rintro f0 W _ rfl;have R:=aa a1 (aa Y W);obtain⟨b5,d2,b6,k1,k2⟩:=(hd.mono R).look v λ hn=>by
   rw[AA (fE _ _) hn];rfl
  have k3:=k2.len;have b1:=gD ((bb f s v).map (·.p));rw[aaQ]at b1;have b2:=oG f s v;have b3:=oG a m v;have b4:=lq a m v;have d9:=Q.len;refine⟨es,.inr ⟨b0,rfl,Z⟩,b5,d2,b6,k1,_,Ie (Q.mono W) k2 (by grind) (by omega) (λ x hx=>AD x hx) (by grind),?_⟩;intro h0 c3 e6 g5 e0 P;rw[Up AD AD]at P;have c9:F v=xH (bb a m v) (bb f s v):=by grind
  rw[<-c9]at P;have b7:=P.len;have f8:=c6 v;obtain⟨ys,y1,y2⟩:=P.row;refine⟨ys,y1,by rw[y2.length,b7];rfl,by omega,by simp[ae];omega,⟨by omega,by omega,Z,by rw[G];exact(hr.mono (aa W c3)).append y2,by grind,by omega⟩,by grind⟩
 .have E:=aac E;rw[aag (by omega),<-a4]at hr hu;intro e9 d8 f3 d3 a3 a2;exact hr.sl d3 a3 hu.symm a2 (by show u*40<=_;omega) (by omega)
def QU {D:D'}{p q:Nat}{s:I'}(x:mr e)(y:Sl e b c d a)(v:Sl e g i j f)(z:Sl e h k l m)(w:Sl e D p q s)(u:Fit a m)(t:Fit f s):
  ZB 24 [S b c d,S g i j,S h k l,S D p q] e fg (λ r _=>r=decide ((AB a f m s).length=0)):=by
 refine ΦK 0 bE (λ a=>C ZT 66 [S b c d,S g i j,S h k l,S D p q] e λ f m n o=>a (decide (O n=0)) f) ?_;dsimp only[aQ,aR,C,O];refine⟨_,BE x y v z w u t,λ G J E L F o=>?_⟩;have I:=o.len;grind
end
def Od {S A:List aO}{f t:Int}{a:I'}{w:List cT}:oZ (tg S A) (f::t::a) w=oZ (tg S A) (t::a) (if(S.filter (jV f)).length=0 then w else if(A.filter (jV f)).length=0 then cG w ⟨⟨f,t⟩,canon (aG (S.filter (jV f)))⟩else w):=by
 rw[oZ];unfold tg;grind
def ta {H:Heap}{A B b D:D'}{n c m d k e p q:Nat}{l g:List aO}{o y:I'}(h1:Sl H A n c l)(h2:Sl H B m d g)(h3:Sl H b k e o)(h4:Sl H D p q y)(b8:Fit l o)(b0:Fit g y):
  ZB 63 [S A n c,S B m d,S b k e,S D p q] H fi (λ A' n' c' H'=>Sl H' A' n' c' (AB l g o y)):=by
 refine ΦK 3 {aj [] [(7,ab 2 7 [18,20,22,24,26,28,30,17,33,34,36,0]),(15,ab 2 13 [29,30,0])] [(4,[.slot 9 false [.row 100 241],ag 11]),(10,[.slot 9 false [.row 101 241],ag 16])]with res:=wj [(97,⟨false,[(false,[.row 99 241])]⟩)],mt:=ir [] [113]} (λ a=>C ZT 109 [S A n c,S b k e] H λ f g h i=>W ZG f (λ j=>j 0 [] 0 f) λ j l o r s t=>J (t<O h) (ΦX g t h (ΦE ZM o g (N t*2+0) (λ u v w=>ΦX g t h (ΦE ZM o g (N t*2+0) (λ x y z=>C ZT 110 [S A n c,S b k e,S u v w] o λ a0 a1 a2 a3=>C ZT 110 [S B m d,S D p q,S x y z] a0 λ a4 a5 a6 a7=>∃a8:G',Cells a4 a1 0 a8/\L a8=a2*4/\a2*64<=M/\∃a9:G',Cells a4 a5 0 a9/\L a9=a6*4/\(a2+a6)*64<=M/\U a4 (a8++a9) (a2+a6) λ b0 b1 b2=>C ZT 111 [S b0 (a2+a6) b1] b2 λ b3 b4 b5 b6=>W ZG b3 (λ b7=>b7 r s 0 b3) λ b7 b8 b9 c0 c1 c2=>ΦR (c2+1)/\J (c2+1<O b5) (ΦX b4 c2 b5 (ΦE ZE b9 b4 (N c2*1) (λ c3=>C YV 112 [S a1 a2 a3,I c3] b9 λ c4 c5 c6 c7 c8=>ΦX b4 c2 b5 (ΦE ZE c4 b4 (N c2*1) (λ c9=>C YV 112 [S a5 a6 a7,I c9] c4 λ d0 d1 d2 d3 d4=>let d5:=ΦR (c2+1)/\b7 c0 c1 (c2+1) d0/\b8 c0 c1 (c2+1)<b8 c0 c1 c2;J (0<c5) (J (d1=0) (ΦX b4 c2 b5 (ΦE ZE d0 b4 (N c2*1) (λ d6=>ΦR (c2+1)/\ΦX b4 (c2+1) b5 (ΦE ZE d0 b4 (N (c2+1)*1) (λ d7=>ZZ Zd 113 [S none 0 0,I (O r),ΦG [I d6,I d7],S c6 c7 c8] 0 241 c0 c1 false d0 λ d8 d9 e0 e1=>ΦR (c2+1)/\b7 e0 e1 (c2+1) d8/\b8 e0 e1 (c2+1)<b8 c0 c1 c2))))) d5) d5))))) (ΦR (t+1)/\j c0 c1 (t+1) b9/\l c0 c1 (t+1)<l r s t)))))) (U o s r (λ u v w=>a u r v w))) ?_;dsimp only[PL,aQ,aR,aW,eQ,C,ZZ,ΦE,L,M,N,ΦR,W,ΦX,O,J];have f1:=b8.Bp;have f2:=b0.Bp;have c1:=b8.clen;have c2:=b0.clen;have i1:=b8.di;have i2:=b0.di;have e3:=h3.len;have e4:=h4.len;have e1:=h1.len;have e2:=h2.len;refine⟨_,oB h1 h3 (by omega) (by omega),?_⟩;rintro H1 l1 A3 n4 c5 ⟨rs,e5,k1,e0,d2⟩;have f0:=e5.len;have a8:=iW e0 d2;have e7:=qE l o;generalize hF:(λ v=>xH (bb l o v) (bb g y v))=F;have X:AB l g o y=(bl l o).flatMap F:=by subst hF;rfl
 have f9:∀v,(F v).length<=7000:=λ v=>by
  subst hF;have b1:=HY (bb l o v) (bb g y v);have b2:=eG l o v;have b3:=eG g y v;simp only;omega
 rw[X];generalize bl l o=z at a8 e7;have k3:z.length=n4:=by rw[<-a8,aaQ,f0]
 have d5:∀i (h:i<rs.length) (h':i<z.length),z[i]=rs[i].vals:=by intro i h h';subst a8;simp
 refine⟨λ u xs i H'=>0<=i/\i<=n4/\Row H' xs ((z.take i.toNat).flatMap F)/\u=((z.take i.toNat).flatMap F).length/\u<=i.toNat*7000,λ _ _ i=>n4-i.toNat,⟨by omega,by omega,rfl,rfl,by omega⟩,?_⟩;rintro H9 l9 u xs i ⟨i0,j4,hr,hu,j7⟩;have g8:i.toNat*7000<=1700*7000:=Nat.mul_le_mul (by omega) (aaB _);refine⟨λ T=>?_,λ d8=>?_⟩
 .have T:=aab T;obtain⟨hi,hA,_,hc,⟨A9,n9,c9,B9,m9,d9,rfl,q1,q2⟩⟩:=e5.at l9 i0 T;have c0:i.toNat<z.length:=by omega
  rw[<-d5 _ hi c0]at q1;have g7:(i+1).toNat=i.toNat+1:=by omega
  have d1:(z.take (i+1).toNat).flatMap F=(z.take i.toNat).flatMap F++F z[i.toNat]:=by
   rw[g7,aaj c0,abo];simp
  have g0:=f9 z[i.toNat];have a6:F z[i.toNat]=xH (bb l o z[i.toNat]) (bb g y z[i.toNat]):=by subst hF;rfl
  generalize z[i.toNat]=v at q1 d1 g0 a6;have a0:=aa l1 l9;refine⟨hA,i0,T,_,_,_,hc.cy (k:=0) rfl,hA,i0,T,_,_,_,hc.cy (k:=0) rfl,_,jj (h1.mono a0) (h3.mono a0) q1 (by omega),?_⟩;intro i7 a1 k8 c4 i6 hw;refine⟨_,jj ((h2.mono a0).mono a1) ((h4.mono a0).mono a1) (q1.mono a1) (by omega),?_⟩;intro k7 d7 k6 c3 k4 Z;have hw:=hw.mono d7;have b6:=hw.len;have V:=Z.len;have g6:=eG l o v;have f4:=eG g y v;have g3:=lq l o v;have e8:=lq g y v;generalize bb l o v=a at hw b6 g6 g3 a6;generalize bb g y v=P at Z V f4 e8 a6;obtain⟨ys,y1,y2⟩:=hw.row;obtain⟨zs,z1,z2⟩:=Z.row;refine⟨ys,y1,by rw[y2.length,b6];rfl,by omega,zs,z1,by rw[z2.length,V];rfl,by omega,?_⟩;intro f8 f5 f6 c8 c7 d3;have b4:Sl f6 f8 (c4+c3) f5 (a++P):=(y2.append z2).sl c8 c7 (by rw[aae,b6,V]) d3 (by show(c4+c3)*64<=_;omega) (by omega);refine⟨_,oP b4,?_⟩;intro j9 g2 j2 E j6 hp;have e6:F v=oZ (tg a P) (canon (bS (a++P))) []:=a6;have f7:=hp.len;have h7:=hp.bn;have k9:E<=7000:=by
   have a2:=dS (bS (a++P));have a3:=iU (a++P);rw[aae]at a3;omega
  have Q:=aa c8 g2;generalize hP:canon (bS (a++P))=G at hp e6 f7;generalize hO:(z.take i.toNat).flatMap F=O0 at hr hu d1;subst hu;refine⟨λ k2 a9 j H'=>0<=j/\(j<=E\/E=0/\j=0)/\∃w:List cT,Row H' a9 (O0++w)/\k2=(O0++w).length/\w.length<=j.toNat/\F v=oZ (tg a P) (G.drop j.toNat) w,λ _ _ j=>E-j.toNat,
   ⟨by omega,by omega,[],by simpa using(hr.mono (aa a1 (aa d7 Q))),by simp,by simp,by simpa using e6⟩,?_⟩
  rintro k0 b5 k2 a9 j ⟨j0,j1,w,a5,rfl,i5,he⟩;have R:ae .i64 (j+1):=by omega
  refine⟨R,λ a4=>?_,λ i4=>?_⟩
  .have a4:=aab a4;have hj:j.toNat<G.length:=by omega
   have c6:j.toNat+1<G.length:=by omega
   obtain⟨_,hB,_,hd,⟨rfl,r1⟩⟩:=hp.at b5 j0 (by omega);obtain⟨_,e9,_,d4,⟨rfl,r2⟩⟩:=hp.at b5 (i:=j+1) (by omega) a4;have e2:(j+1).toNat=j.toNat+1:=by omega
   simp only[e2]at d4 r2;have g5:G.drop j.toNat=G[j.toNat]::G[j.toNat+1]::G.drop (j.toNat+1+1):=by
    rw[aas hj,aas c6]
   have d6:G.drop (j.toNat+1)=G[j.toNat+1]::G.drop (j.toNat+1+1):=aas c6;generalize hf:G[j.toNat]=f at*;generalize i3:G[j.toNat+1]=t at*;rw[g5,Od]at he;have Y:=aa Q b5;refine⟨hB,j0,by omega,_,hd,_,mq (hw.mono Y) (by omega),?_⟩;rintro h5 b7 h9 h6 j3 k5 ⟨rfl,b9⟩;refine⟨hB,j0,by omega,_,hd.mono b7,_,mq ((Z.mono Y).mono b7) (by omega),?_⟩;rintro g1 d0 j8 i9 h8 j5 ⟨rfl,-⟩;have s:=aa b7 d0;have h0:F v=oZ (tg a P) (t::G.drop (j.toNat+1+1)) w->ae .i64 (j+1)/\(0<=j+1/\(j+1<=E\/E=0/\j+1=0)/\∃w:List cT,Row g1 a9 (O0++w)/\(O0++w).length=(O0++w).length/\w.length<=(j+1).toNat/\F v=oZ (tg a P) (G.drop (j+1).toNat) w)/\E-(j+1).toNat<E-j.toNat:=
    λ he=>⟨R,⟨by omega,by omega,w,a5.mono s,rfl,by omega,by rw[e2,d6];exact he⟩,by omega⟩
   refine⟨λ hz=>?_,λ hz=>?_⟩
   .have hz:=aab hz;rw[if_neg (by omega)]at he;refine⟨λ hy=>?_,λ hy=>?_⟩
    .have a7:=ur (r:=99) (v:=⟨⟨f,t⟩,canon (aG (a.filter (jV f)))⟩) (first:=(O0.length:Int)) (a5.mono s) rfl (by simp) (by grind) r1 r2 (b9.mono d0);rw[LB]at a7;refine⟨hB,j0,by omega,_,hd.mono s,R,e9,by omega,a4,_,by rw[e2];exact d4.mono s,_,a7,?_⟩;have i8:=jG w ⟨⟨f,t⟩,canon (aG (a.filter (jV f)))⟩;grind
    .exact⟨R,⟨by omega,by omega,w,a5.mono s,rfl,by omega,by grind⟩,by grind⟩
   .exact⟨R,⟨by omega,by omega,w,a5.mono s,rfl,by omega,by grind⟩,by grind⟩
  .have g9:F v=w:=by
    rw[he];have:(G.drop j.toNat).length<=1:=by grind
    match G.drop _,this with
    |[],_=>rfl
    |[x],_=>rfl
   grind
 .have d8:=aac d8;have X:z.take i.toNat=z:=aag (by omega);rw[X]at hr hu;intro A2 c2 H2 l2 f3 g4;exact hr.sl l2 f3 hu.symm g4 (by show u*40<=_;omega) (by omega)
section
abbrev QV (l:I'):I':=l.map (·-1)
def kB (t:eC):Bool:=decide (0<t.sch.key.length)&&decide (0<(eJ (dR t) (QV t.sch.key)).length)
def vS (a:List eC)(b:ByteArray):List aO:=if cO b a<0 then[]else((a[(cO b a).toNat]?).map dR).getD []
def fB (a:List eC)(t:eC)(f:nz):Bool:=decide (0<(AB (dR t) (vS a f.table) (QV f.cols) (QV f.refs)).length)
def cB (t:eC)(c:Rs):Bool:=decide (0<(qB (dR t) c.kind (QV c.cols)).length)
def tb (a:List eC):Int:=if a.any kB=true then 15 else if(a.any λ t=>t.sch.fks.any (fB a t))=true then 16 else if(a.any λ t=>t.sch.csts.any (cB t))=true then 17 else 0
structure Kr (l:List aO)(cols:I'):Prop where
 fit:Fit l (QV cols)
 pos:∀x∈cols,0<=x
structure Ow (ts:List eC):Prop where
 ok:∀t∈ts,JO t.sch/\nk t.vs/\t.vs.length<=1000000000
 key:∀t∈ts,Kr (dR t) t.sch.key
 fk:∀t∈ts,∀f∈t.sch.fks,Kr (dR t) f.cols/\Kr (vS ts f.table) f.refs
 cst:∀t∈ts,∀c∈t.sch.csts,Kr (dR t) c.cols
section
variable {H:Heap}{now nid hor:Int}{X Y Z:D'}{xn xc hn hc cn cc:Nat}{D:Db}
def Ig (hd:um H now nid X xn xc hn cn D)(hk:Ow D.tabs):
  ZB 20 [Ir now nid X xn xc hor Y hn hc Z cn cc] H gL (λ r _=>r=tb D.tabs):=by
 have hs:=hd.tabs;have s1:=hs.len;have s2:=hs.bn;refine ΦK 0 (aj [72] [(5,ab 2 7 [18,20,22,17,25,27,28,30,32,0]),(19,[2,6,8,10,14,16,5,13,19,21,22,24,0]),(29,[2,6,8,10,12,5,15,17,18,20,0])] [(2,[ag 3]),(8,[ag 5]),(12,[ag 7]),(22,[ag 11]),(26,[ag 13])]) (λ a=>W ZE H (λ b=>b 0 H) λ b c d e=>let f:=λ(f:Int) g h i=>ΦR (f+1)/\g (f+1) h/\i (f+1)<i f;let g:=λ g h (i j:Nat) k (l m:Nat) n (o p:Nat) q (r s:Nat) t (u v:Nat)=>[ΦG [ΦT g,S h i j,S k l m,S n o p,S q r s,S t u v]];J (e<O xn) (ΦX X e xn (ΦE XM d X (N e*6) (λ h i j k l m n o p q r s t u v w=>J (0<O m) (C ZT 15 (g h i j k l m n o p q r s t u v w) d (λ x y z a0=>C ZT 23 [S l m n] x λ a1 a2 a3 a4=>C ZT 62 [S y z a0,S a2 a3 a4] a1 λ a5 a6 a7 a8=>J (0<O a7) (a 15 a5) (f e b a5 c))) (f e b d c)))) (W ZE d (λ h=>h 0 d) (λ h i j k=>J (k<O xn) (ΦX X k xn (ΦE XM j X (N k*6) (λ l m n o p q r s t u v w x y z a0=>W ZE j (λ a1=>a1 0 j) λ a1 a2 a3 a4=>J (a4<O t) (ΦX s a4 t (ΦE Xu a3 s (N a4*3) (λ a5 a6 a7 a8 a9 b0 b1=>C ZP 18 [ΦG [I now,I nid,S X xn xc,I hor,S Y hn hc,S Z cn cc],ΦT a8] a3 λ b2 b3=>J (0<=b3) (ΦX X b3 xn (ΦE XM b2 X (N b3*6) (λ b4 b5 b6 b7 b8 b9 c0 c1 c2 c3 c4 c5 c6 c7 c8 c9=>C ZT 15 (g b4 b5 b6 b7 b8 b9 c0 c1 c2 c3 c4 c5 c6 c7 c8 c9) b2 λ d0 d1 d2 d3=>C ZT 15 (g l m n o p q r s t u v w x y z a0) d0 λ d4 d5 d6 d7=>C ZT 23 [S a5 a6 a7] d4 λ d8 d9 e0 e1=>C ZT 23 [S a9 b0 b1] d8 λ e2 e3 e4 e5=>C ZT 63 [S d5 d6 d7,S d1 d2 d3,S d9 e0 e1,S e3 e4 e5] e2 λ e6 e7 e8 e9=>J (0<O e8) (a 16 e6) (f a4 a1 e6 a2)))) (C ZT 15 (g l m n o p q r s t u v w x y z a0) b2 (λ b4 b5 b6 b7=>C ZT 23 [S a5 a6 a7] b4 λ b8 b9 c0 c1=>C ZT 23 [S a9 b0 b1] b8 λ c2 c3 c4 c5=>C ZT 63 [S b5 b6 b7,S none 0 0,S b9 c0 c1,S c3 c4 c5] c2 λ c6 c7 c8 c9=>J (0<O c8) (a 16 c6) (f a4 a1 c6 a2)))))) (f k h a3 i)))) (W ZE j (λ l=>l 0 j) (λ l m n o=>J (o<O xn) (ΦX X o xn (ΦE XM n X (N o*6) (λ p q r s t u v w x y z a0 a1 a2 a3 a4=>W ZE n (λ a5=>a5 0 n) λ a5 a6 a7 a8=>J (a8<O a0) (ΦX z a8 a0 (ΦE Xv a7 z (N a8*2) (λ a9 b0 b1 b2=>C ZT 15 (g p q r s t u v w x y z a0 a1 a2 a3 a4) a7 λ b3 b4 b5 b6=>C ZT 23 [S b0 b1 b2] b3 λ b7 b8 b9 c0=>C ZT 64 [S b4 b5 b6,I a9,S b8 b9 c0] b7 λ c1 c2 c3 c4=>J (0<O c3) (a 17 c1) (f a8 a5 c1 a6)))) (f o l a7 m)))) (a 0 n)))))) ?_;dsimp only[PL,aQ,aR,aW,eQ,C,ΦE,N,ΦR,W,ΦX,O,J];refine⟨λ i _=>0<=i/\i<=xn/\D.tabs.any kB=(D.tabs.drop i.toNat).any kB,λ i=>xn-i.toNat,⟨by omega,by omega,rfl⟩,?_⟩;rintro H1 a5 i ⟨G,i1,l⟩;dsimp only;refine⟨λ b=>?_,λ d=>?_⟩
 .have b:=aab b;obtain⟨U,hA,_,M,nm,A1,m1,c1,A2,m2,c2,A3,m3,c3,A4,m4,c4,A5,m5,c5,rfl,B⟩:=hs.at a5 G b;have c:=aan U;obtain⟨o1,o2,o3⟩:=hk.ok _ c;obtain⟨k1,k2⟩:=hk.key _ c;rw[ak G U,aaS]at l;generalize D.tabs[i.toNat]=t at*;have kl:=B.sch.key.len;have go:kB t=false->ae .i64 (i+1)/\(0<=i+1/\i+1<=xn/\D.tabs.any kB=(D.tabs.drop (i+1).toNat).any kB)/\xn-(i+1).toNat<xn-i.toNat:=λ h=>by
   rw[h,abh]at l;exact⟨by omega,⟨by omega,by omega,l⟩,by omega⟩
  refine⟨hA,G,b,_,_,_,_,_,_,_,_,_,_,_,_,_,_,_,_,M,λ h0=>?_,λ h0=>?_⟩
  .have h0:=aab h0;refine⟨_,jh B o1,?_⟩;rintro H2 n P p z hP;refine⟨_,jg (B.sch.key.mono n) k2,?_⟩;rintro H3 j Q q y hQ;have q1:=hQ.len;refine⟨_,kf (hP.mono j) hQ (by rw[<-q1];exact k1.clen) (by have:=hP.len;have:=k1.Bp;omega) k1.di,?_⟩;rintro H4 A V v w ⟨vs,a8,a9,hV⟩;have hV:=hV.len;have e:(vs.flatMap (rG (dR t) (QV t.sch.key))).length=(eJ (dR t) (QV t.sch.key)).length:=by rw[eJ,iW a8 a9]
   have kb:kB t=decide (0<v):=by rw[kB,aau (show 0<t.sch.key.length by omega),aaY,<-e,hV]
   refine⟨λ E=>?_,λ E=>go ?_⟩
   .have E:=aab E;rw[tb,if_pos (by rw[l,kb,aau (by omega),abE])]
   .have E:=aac E;rw[kb,aao (by omega)]
  .have h0:=aac h0;exact go (by rw[kB,aao (by omega),Bool.false_and])
 have d:=aac d;rw[ai d s1,abJ]at l;rw[tb,if_neg (by rw[l];decide)];clear l;refine⟨λ i _=>0<=i/\i<=xn/\(D.tabs.any λ t=>t.sch.fks.any (fB D.tabs t))=(D.tabs.drop i.toNat).any λ t=>t.sch.fks.any (fB D.tabs t),λ i=>xn-i.toNat,⟨by omega,by omega,rfl⟩,?_⟩;rintro H2 n i ⟨G,i1,l⟩;dsimp only;have n:=aa a5 n;refine⟨λ b=>?_,λ d=>?_⟩
 .have b:=aab b;obtain⟨U,hA,_,M,nm,A1,m1,c1,A2,m2,c2,A3,m3,c3,A4,m4,c4,A5,m5,c5,rfl,B⟩:=hs.at n G b;have c:=aan U;obtain⟨o1,o2,o3⟩:=hk.ok _ c;have b0:=hk.fk _ c;rw[ak G U,aaS]at l;generalize D.tabs[i.toNat]=t at*;have fl:=B.sch.fks.len;have b1:=B.sch.fks.bn;refine⟨hA,G,b,_,_,_,_,_,_,_,_,_,_,_,_,_,_,_,_,M,?_⟩;refine⟨λ k _=>0<=k/\k<=m3/\t.sch.fks.any (fB D.tabs t)=(t.sch.fks.drop k.toNat).any (fB D.tabs t),λ k=>m3-k.toNat,⟨by omega,by omega,rfl⟩,?_⟩;rintro H3 j k ⟨k0,k1,g⟩;dsimp only;refine⟨λ m=>?_,λ u=>?_⟩
  .have m:=aab m;obtain⟨h6,hB,_,a2,E1,p1,z1,E2,p2,z2,rfl,u1,u2,u3⟩:=B.sch.fks.at j k0 m;obtain⟨g1,g2⟩:=b0 _ (aan h6);rw[ak k0 h6,aaS]at g;generalize t.sch.fks[k.toNat]=f at*;refine⟨hB,k0,m,_,_,_,_,_,_,_,a2,_,ot (hs.mono (aa n j)),?_⟩;rintro H4 A _ rfl;obtain⟨f0,f1⟩:=uo f.table D.tabs;have a4:=aa n (aa j A);have b2:=B.mono (aa j A);refine⟨λ hp=>?_,λ hn=>?_⟩
   focus
    have hp:=aab hp;obtain⟨h7,hC,_,a6,b9,D1,q1,b8,D2,q2,b4,D3,q3,b6,D4,q4,b7,D5,q5,b5,rfl,hU⟩:=hs.at a4 hp (by omega);have F:vS D.tabs f.table=dR D.tabs[(cO f.table D.tabs).toNat]:=by
     rw[vS,if_neg (by omega),aai h7];rfl
    refine⟨hC,hp,by omega,_,_,_,_,_,_,_,_,_,_,_,_,_,_,_,_,a6,_,jh hU (hk.ok _ (aan h7)).1,?_⟩;rintro H5 a3 P p z hP;rw[<-F]at hP
   rotate_left
   focus
    have hn:=aac hn;have F:vS D.tabs f.table=[]:=by rw[vS,if_pos (by omega)]
    have a3:=ah H4;have hP:Sl H4 none 0 0 (vS D.tabs f.table):=by rw[F];exact Sl.nil
   all_goals
    refine⟨_,jh (b2.mono a3) o1,?_⟩;rintro H6 T R r y hR;have a0:=aa A (aa a3 T);refine⟨_,jg (u1.mono a0) g1.pos,?_⟩;rintro H7 L Q q x hQ;refine⟨_,jg (u3.mono (aa a0 L)) g2.pos,?_⟩;rintro H8 a1 a s w hS;refine⟨_,ta (hR.mono (aa L a1)) (hP.mono (aa T (aa L a1))) (hQ.mono a1) hS g1.fit g2.fit,?_⟩;rintro H9 b3 V v o hV;have hv:=hV.len;have fb:fB D.tabs t f=decide (0<v):=by rw[fB,<-hv]
    refine⟨λ E=>?_,λ E=>?_⟩
    .have E:=aab E;rw[fb,aau (by omega),abE]at g;rw[g,abE]at l;rw[if_pos l]
    .have E:=aac E;rw[fb,aao (by omega),abh]at g;exact⟨by omega,⟨by omega,by omega,g⟩,by omega⟩
  .have u:=aac u;rw[ai u fl,abJ]at g;rw[g,abh]at l;exact⟨by omega,⟨by omega,by omega,l⟩,by omega⟩
 have d:=aac d;rw[ai d s1,abJ]at l;rw[if_neg (by rw[l];decide)];clear l;refine⟨λ i _=>0<=i/\i<=xn/\(D.tabs.any λ t=>t.sch.csts.any (cB t))=(D.tabs.drop i.toNat).any λ t=>t.sch.csts.any (cB t),λ i=>xn-i.toNat,⟨by omega,by omega,rfl⟩,?_⟩;rintro H3 j i ⟨G,i1,l⟩;dsimp only;have j:=aa n j;refine⟨λ b=>?_,λ d=>?_⟩
 .have b:=aab b;obtain⟨U,hA,_,M,nm,A1,m1,c1,A2,m2,c2,A3,m3,c3,A4,m4,c4,A5,m5,c5,rfl,B⟩:=hs.at j G b;have c:=aan U;obtain⟨o1,o2,o3⟩:=hk.ok _ c;have a7:=hk.cst _ c;rw[ak G U,aaS]at l;generalize D.tabs[i.toNat]=t at*;have fl:=B.sch.csts.len;have b1:=B.sch.csts.bn;refine⟨hA,G,b,_,_,_,_,_,_,_,_,_,_,_,_,_,_,_,_,M,?_⟩;refine⟨λ k _=>0<=k/\k<=m4/\t.sch.csts.any _=(t.sch.csts.drop k.toNat).any (cB t),λ k=>m4-k.toNat,⟨by simp,by simp,rfl⟩,?_⟩;rintro H4 A k ⟨k0,k1,g⟩;refine⟨λ m=>?_,λ u=>?_⟩
  .have m:=aab m;obtain⟨h6,hB,_,a2,E1,p1,z1,rfl,u1,u2⟩:=B.sch.csts.at A k0 m;have g1:=a7 _ (aan h6);rw[ak k0 h6]at g;generalize t.sch.csts[k.toNat]=f at*;refine⟨hB,k0,m,_,_,_,_,a2,_,jh (B.mono A) o1,?_⟩;rintro H6 T R r y hR;refine⟨_,jg (u2.mono T) g1.pos,?_⟩;rintro H7 L Q q x hQ;refine⟨_,lr (hR.mono L) hQ g1.fit,?_⟩;rintro H9 b3 V v o hV;have hv:=hV.len;have fb:cB t f=decide (0<v):=by rw[cB,<-hv]
   grind
  .have u:=aac u;rw[ai u fl]at g;grind
 have d:=aac d;rw[ai d s1]at l;grind
end
end
section
section
variable {H:Heap}{now nid hor:Int}{X Y Z R:D'}{xn xc hn hc cn cc rn rc:Nat}{D:Db}
def EU (G:mr H)(hd:um H now nid X xn xc hn cn D)(hk:Ow D.tabs)(hR:Sl H R rn rc (D.tabs.map dR)):
  ZB 61 [Ir now nid X xn xc hor Y hn hc Z cn cc,S R rn rc] H fg (λ r _=>r= !(D.tabs.any λ t=>t.sch.fks.any (fB D.tabs t))):=by
 have M:=hd.tabs;have s1:=M.len;have s2:=M.bn;have r1:=hR.len;simp only[aaQ]at r1;refine ΦK 0 (aj [30,48] [(11,ab 2 7 [18,20,17,23,25,26,0])] [(2,[ag 14]),(5,[ag 23])]) (λ a=>W ZE H (λ b=>b 0 H) λ b c d e=>J (e<O xn) (ΦX X e xn (ΦE XM d X (N e*6) (λ f g h i j k l m n o p q r s t u=>W ZE d (λ v=>v 0 d) λ v w x y=>J (y<O n) (ΦX m y n (ΦE Xu x m (N y*3) (λ z a0 a1 a2 a3 a4 a5=>C ZP 16 [ΦG [I now,I nid,S X xn xc,I hor,S Y hn hc,S Z cn cc],ΦT a2] x λ a6 a7=>let a8:=λ a8 a9=>ΦQ (!a8) (a false a9) (ΦR (y+1)/\v (y+1) a9/\w (y+1)<w y);J (0<=a7) (ΦX R a7 rn (ΦE ZM a6 R (N a7*1) (λ a9 b0 b1=>ΦX R e rn (ΦE ZM a6 R (N e*1) (λ b2 b3 b4=>C ZT 60 [S z a0 a1] a6 λ b5 b6 b7 b8=>C ZT 60 [S a3 a4 a5] b5 λ b9 c0 c1 c2=>C ZO 24 [S b2 b3 b4,S a9 b0 b1,S b6 b7 b8,S c0 c1 c2] b9 λ c3 c4=>a8 c4 c3))))) (ΦX R e rn (ΦE ZM a6 R (N e*1) (λ a9 b0 b1=>C ZT 60 [S z a0 a1] a6 λ b2 b3 b4 b5=>C ZT 60 [S a3 a4 a5] b2 λ b6 b7 b8 b9=>C ZO 24 [S a9 b0 b1,S none 0 0,S b3 b4 b5,S b7 b8 b9] b6 λ c0 c1=>a8 c1 c0)))))) (ΦR (e+1)/\b (e+1) x/\c (e+1)<c e)))) (a true d)) ?_;dsimp only[PL,aQ,aR,aW,eQ,C,ΦE,N,ΦQ,ΦR,W,ΦX,O,J];refine⟨λ i _=>0<=i/\i<=xn/\(D.tabs.any λ t=>t.sch.fks.any (fB D.tabs t))=(D.tabs.drop i.toNat).any λ t=>t.sch.fks.any (fB D.tabs t),λ i=>xn-i.toNat,⟨by omega,by omega,rfl⟩,?_⟩;rintro H2 n i ⟨v,i1,T⟩;dsimp only;refine⟨λ h=>?_,λ u=>?_⟩
 .have h:=aab h;obtain⟨h5,hA,_,a2,nm,A1,m1,c1,A2,m2,c2,A3,m3,c3,A4,m4,c4,A5,m5,c5,rfl,hT⟩:=M.at n v h;have B:=aan h5;have a1:=hk.fk _ B;rw[ak v h5,aaS]at T;have F:(D.tabs.map dR)[i.toNat]'(by simpa using h5)=dR D.tabs[i.toNat]:=by simp
  generalize D.tabs[i.toNat]=t at*;have fl:=hT.sch.fks.len;have a3:=hT.sch.fks.bn;refine⟨hA,v,h,_,_,_,_,_,_,_,_,_,_,_,_,_,_,_,_,a2,?_⟩;refine⟨λ k _=>0<=k/\k<=m3/\t.sch.fks.any (fB D.tabs t)=(t.sch.fks.drop k.toNat).any (fB D.tabs t),λ k=>m3-k.toNat,⟨by omega,by omega,rfl⟩,?_⟩;rintro H3 m k ⟨k0,k1,c⟩;dsimp only;refine⟨λ j=>?_,λ l=>?_⟩
  .have j:=aab j;obtain⟨h6,hB,_,a0,E1,p1,z1,E2,p2,z2,rfl,u1,u2,u3⟩:=hT.sch.fks.at m k0 j;obtain⟨g1,g2⟩:=a1 _ (aan h6);rw[ak k0 h6,aaS]at c;generalize t.sch.fks[k.toNat]=f at*;refine⟨hB,k0,j,_,_,_,_,_,_,_,a0,_,qY (M.mono (aa n m)),?_⟩;rintro H4 o _ rfl;obtain⟨f0,f1⟩:=uo f.table D.tabs;have d:=aa n (aa m o);obtain⟨h9,A,_,L,C1,y1,w1,rfl,b⟩:=hR.at d v (by omega);rw[F]at b;refine⟨λ U=>?_,λ hn=>?_⟩
   focus
    have U:=aab U;obtain⟨h7,hC,_,V,P,p,z,rfl,hP⟩:=hR.at d U (by omega);have e:vS D.tabs f.table=(D.tabs.map _)[(cO _ _).toNat]:=by
     rw[vS,if_neg (by omega),aai (by grind)];simp
    rw[<-e]at hP;refine⟨hC,U,by omega,_,_,_,V,A,v,by omega,_,_,_,L,?_⟩
   rotate_left
   focus
    have hn:=aac hn;have e:vS D.tabs f.table=[]:=by rw[vS,if_pos (by omega)]
    have hP:Sl H4 none 0 0 (vS D.tabs f.table):=by rw[e];exact Sl.nil
    refine⟨A,v,by omega,_,_,_,L,?_⟩
   all_goals
    refine⟨_,eX (u1.mono o) g1.pos,?_⟩;rintro H7 E Q q x hQ;refine⟨_,eX (u3.mono (aa o E)) g2.pos,?_⟩;rintro H8 y a s w hS;have g:=aa E y;refine⟨_,QU (G.mono (aa d g)) (b.mono g) (hP.mono g) (hQ.mono y) hS g1.fit g2.fit,?_⟩;rintro H9 a4 _ rfl;refine⟨λ hb=>?_,λ hb=>?_⟩
    .have fb:fB D.tabs t f=true:=by rw[fB];grind
     grind
    .have fb:fB D.tabs t f=false:=by rw[fB];grind
     rw[fb]at c;exact⟨by simp[ae];omega,⟨by omega,by omega,c⟩,by omega⟩
  .have l:=aac l;rw[ai l fl]at c;rw[c]at T;exact⟨by simp[ae];omega,⟨by omega,by omega,T⟩,by omega⟩
 have u:=aac u;rw[ai u s1]at T;grind
def Ih (R:mr H)(hd:um H now nid X xn xc hn cn D)(hk:Ow D.tabs):
  ZB 19 [Ir now nid X xn xc hor Y hn hc Z cn cc] H gL (λ r _=>r=tb D.tabs):=by
 have hs:=hd.tabs;have s1:=hs.len;have s2:=hs.bn;have s3:xn*136<=140737488355328:=hs.bnd;refine ΦK 1 (aj [52,58,85] [(10,ab 2 8 [22,24,26,19,21,29,31,32,34,0,1,1,29,21,31,32,34,0,1,1,1,29,19,21,31,32,34,0]),(21,[2,4,10,12,14,16,7,9,19,21,22,0,1,1,19,9,21,22,0,1,1,1,19,7,9,21,22,0])] [(3,[.slot 3 false [.row 89 55],ag 19]),(8,[ag 33]),(16,[ag 63]),(19,[ag 72])]) (λ a=>O xn=O xn/\0<=O xn/\O xn*O 24<=M/\∀b:G',b=dE [S none 0 0] (N (O xn))->W ZG H (λ c=>c (N (O xn)) b 0 H) λ c d e f g h=>J (h<O xn) (ΦX X h xn (ΦE XM e X (N h*6) (λ i j k l m n o p q r s t u v w x=>C ZT 14 [ΦG [ΦT i,S j k l,S m n o,S p q r,S s t u,S v w x]] e λ y z a0 a1=>ΦY h f (N h*1+1<=L g/\ΦR (h+1)/\(let a2:=av g (N h*1) [S z a0 a1];c f a2 (h+1) y/\d f a2 (h+1)<d f g h))))) (W ZE e (λ i=>i 0 e) (λ i j k l=>let m:=λ(m:Int) n o p=>ΦR (m+1)/\n (m+1) o/\p (m+1)<p m;let n:=λ(n:Int) o (p q:Nat) r s=>ΦY n f (ΦF ZM g (N n*1) 1 (λ t u v=>C ZT 60 [S o p q] r λ w x y z=>s t u v x y z w)/\C ZT 60 [S o p q] r (λ t u v w=>ΦF ZM g (N n*1) 1 λ x y z=>s x y z u v w t))/\C ZT 60 [S o p q] r λ t u v w=>ΦY n f (ΦF ZM g (N n*1) 1 (λ x y z=>s x y z u v w t));J (l<O xn) (ΦX X l xn (ΦE XM k X (N l*6) (λ o p q r s t u v w x y z a0 a1 a2 a3=>J (0<O t) (let a4:=λ a4 (a5 a6:Nat) a7 (a8 a9:Nat) b0=>C ZO 22 [S a4 a5 a6,S a7 a8 a9] b0 λ b1 b2=>ΦQ (!b2) (a 15 b1) (m l i b1 j);n l s t u k a4) ((m l i k j/\m l i k j)/\m l i k j)))) (∃o:Bool->Heap->Prop,U k g f (λ p q r=>af Tryz.prog 61 [ΦG [I now,I nid,S X xn xc,I hor,S Y hn hc,S Z cn cc],S p f q] r ⟨false,[(false,[.bool])]⟩ o)/\∀(p:Heap)(q:Bool),o q p->ΦQ (!q) (a 16 k) (W ZE k (λ r=>r 0 k) (λ r s t u=>J (u<O xn) (ΦX X u xn (ΦE XM t X (N u*6) (λ v w x y z a0 a1 a2 a3 a4 a5 a6 a7 a8 a9 b0=>W ZE t (λ b1=>b1 0 t) λ b1 b2 b3 b4=>J (b4<O a6) (ΦX a5 b4 a6 (ΦE Xv b3 a5 (N b4*2) (λ b5 b6 b7 b8=>let b9:=λ b9 (c0 c1:Nat) c2 (c3 c4:Nat) c5=>C ZO 25 [S b9 c0 c1,I b5,S c2 c3 c4] c5 λ c6 c7=>ΦQ (!c7) (a 17 c6) (m b4 b1 c6 b2);n u b6 b7 b8 b3 b9))) (m u r b3 s)))) (a 0 t))))))) ?_;dsimp only[PL,aQ,aR,aW,eQ,C,ΦE,ΦF,L,M,N,ΦQ,ΦR,W,ΦX,ΦY,O,J];refine⟨rfl,by omega,by omega,?_⟩;rintro zs rfl;rw[aaV];have hz:Row H (dE [.slice none 0 0] xn) (List.replicate xn ([]:List aO)):=Row.gS (⟨none,0,0,rfl,Sl.nil⟩:Rep.rel H [.slice none 0 0] ([]:List aO)) xn;refine⟨λ p ys i H'=>0<=i/\i<=xn/\xn=p/\Row H' ys ((D.tabs.take i.toNat).map dR++List.replicate (xn-i.toNat) []),λ _ _ i=>xn-i.toNat,⟨by omega,by omega,rfl,by simpa using hz⟩,?_⟩;rintro H1 a1 p ys i ⟨c,i1,rfl,hr⟩;dsimp only;refine⟨λ a=>?_,λ b=>?_⟩
 .have a:=aab a;obtain⟨w,hA,_,u,nm,A1,m1,c1,A2,m2,c2,A3,m3,c3,A4,m4,c4,A5,m5,c5,rfl,s⟩:=hs.at a1 c a;obtain⟨o1,o2,o3⟩:=hk.ok _ (aan w);have v1:=s.vs.len;refine⟨hA,c,a,_,_,_,_,_,_,_,_,_,_,_,_,_,_,_,_,u,_,Ab s o2 (by omega),?_⟩;rintro H2 m P p z F;have a2:=hr.length;have a7:((D.tabs.take i.toNat).map dR).length=i.toNat:=by simp;omega
  have a9:((D.tabs.take i.toNat).map dR++List.replicate (xn-i.toNat) []).length=xn:=by simp;omega
  have a2:ys.length=xn*1:=by rw[a2,a9];rfl
  have E:=(hr.mono m).dV (i:=i.toNat) (by omega) (us:=[S P p z]) (t:=dR D.tabs[i.toNat]) ⟨P,p,z,rfl,F⟩;refine⟨c,a,by omega,by simp only[ae];omega,⟨by omega,by omega,rfl,?_⟩,by omega⟩;have e1:((D.tabs.take i.toNat).map dR++List.replicate (xn-i.toNat) []).set i.toNat (dR D.tabs[i.toNat])=(D.tabs.take (i+1).toNat).map dR++List.replicate (xn-(i+1).toNat) []:=by
   rw[bu c w,aaR,show xn-i.toNat=(xn-(i+1).toNat)+1 by omega,acW,xS _ _ _ _ a7];simp
  rw[e1]at E;exact E
 have b:=aac b;rw[ez b s1,show xn-i.toNat=0 by omega,adt,aar]at hr;refine⟨λ i _=>0<=i/\i<=xn/\D.tabs.any kB=(D.tabs.drop i.toNat).any kB,λ i=>xn-i.toNat,⟨by omega,by omega,rfl⟩,?_⟩;rintro H2 m i ⟨c,i1,n⟩;dsimp only;have j:=aa a1 m;refine⟨λ a=>?_,λ b=>?_⟩
 .have a:=aab a;obtain⟨w,hA,_,u,nm,A1,m1,c1,A2,m2,c2,A3,m3,c3,A4,m4,c4,A5,m5,c5,rfl,s⟩:=hs.at j c a;obtain⟨k1,k2⟩:=hk.key _ (aan w);obtain⟨_,⟨P,p,z,rfl,F⟩,v,-⟩:=(hr.mono m).vJ (i:=i.toNat) (by simp;omega);have w1:=v 0 1 (by decide);rw[show(D.tabs.map dR)[i.toNat]'(by simpa using w)=dR D.tabs[i.toNat]by simp]at F;rw[ak c w,aaS]at n;generalize D.tabs[i.toNat]=t at*;have kl:=s.sch.key.len;have go:kB t=false->ae .i64 (i+1)/\(0<=i+1/\i+1<=xn/\D.tabs.any kB=(D.tabs.drop (i+1).toNat).any kB)/\xn-(i+1).toNat<xn-i.toNat:=λ h=>by
   rw[h,abh]at n;exact⟨by simp only[ae];omega,⟨by omega,by omega,n⟩,by omega⟩
  refine⟨hA,c,a,_,_,_,_,_,_,_,_,_,_,_,_,_,_,_,_,u,λ h0=>?_,λ h0=>?_⟩
  .have h0:=aab h0;refine⟨⟨c,a,⟨_,_,_,w1,_,eX s.sch.key k2,?_⟩,⟨_,eX s.sch.key k2,?_⟩⟩,⟨_,eX s.sch.key k2,?_⟩⟩
   focus
    rintro H3 d Q q y G
   rotate_left
   focus
    rintro H3 d Q q y G;refine⟨_,_,_,w1,?_⟩
   rotate_left
   focus
    rintro H3 d Q q y G;refine⟨c,a,_,_,_,w1,?_⟩
   all_goals
    have q1:=G.len;refine⟨_,JB (F.mono d) G (by rw[<-q1];exact k1.clen) (by have:=F.len;have:=k1.Bp;omega) k1.di,?_⟩;rintro H4 V _ ⟨g,g1,g2,rfl⟩;have e:(ka g).length=(eJ (dR t) (QV t.sch.key)).length:=by rw[Hw g1 g2 (lV _ _) (fE _ _)];rfl
    rw[e];refine⟨λ l=>?_,λ l=>go ?_⟩
    .have l:=aac (oL l);rw[tb,if_pos (by rw[n,kB,aau (by omega),aau (Nat.pos_of_ne_zero l)];rfl)]
    .have l:=aab (np l);rw[kB,aao (p:=0<(eJ (dR t) (QV t.sch.key)).length) λ h=>absurd l (Nat.ne_of_gt h),acT]
  .have h0:=aac h0;have:=go (by rw[kB,aao (by omega),Bool.false_and]);exact⟨Bu this,this⟩
 have b:=aac b;rw[ai b s1,abJ]at n;rw[tb,if_neg (by rw[n];decide)];clear n;refine⟨_,λ A6 c6 H3 d a8 a6=>EU (R.mono (aa j d)) (hd.mono (aa j d)) hk ((hr.mono m).sl d a8 (by simpa using s1) a6 (by show xn*24<=_;omega) (by omega)),?_⟩;rintro H3 _ rfl;refine⟨λ l=>?_,λ l=>?_⟩
 .rw[if_pos (by simpa using l)]
 rw[if_neg (by simpa using l)];refine⟨λ i _=>0<=i/\i<=xn/\(D.tabs.any λ t=>t.sch.csts.any (cB t))=(D.tabs.drop i.toNat).any λ t=>t.sch.csts.any (cB t),λ i=>xn-i.toNat,⟨by omega,by omega,rfl⟩,?_⟩;rintro H4 V i ⟨c,i1,n⟩;dsimp only;have B:=aa j V;refine⟨λ a=>?_,λ b=>?_⟩
 .have a:=aab a;obtain⟨w,hA,_,u,nm,A1,m1,c1,A2,m2,c2,A3,m3,c3,A4,m4,c4,A5,m5,c5,rfl,s⟩:=hs.at B c a;have a4:=hk.cst _ (aan w);obtain⟨_,⟨P,p,z,rfl,F⟩,v,-⟩:=(hr.mono (aa m V)).vJ (i:=i.toNat) (by grind);have w1:=v 0 1 (by decide);rw[show(D.tabs.map _)[i.toNat]'(by grind)=dR D.tabs[i.toNat]by simp]at F;rw[ak c w,aaS]at n;generalize D.tabs[i.toNat]=t at*;have fl:=s.sch.csts.len;have b1:=s.sch.csts.bn;refine⟨hA,c,a,_,_,_,_,_,_,_,_,_,_,_,_,_,_,_,_,u,?_⟩;refine⟨λ k _=>0<=k/\k<=m4/\t.sch.csts.any _=(t.sch.csts.drop k.toNat).any (cB t),λ k=>m4-k.toNat,⟨by simp,by simp,rfl⟩,?_⟩;rintro H5 a3 k ⟨k0,k1,o⟩;dsimp only;refine⟨λ x=>?_,λ T=>?_⟩
  .have x:=aab x;obtain⟨h6,hB,_,a5,E1,p1,z1,rfl,u1,u2⟩:=s.sch.csts.at a3 k0 x;have g1:=a4 _ (aan h6);rw[ak k0 h6,aaS]at o;generalize t.sch.csts[k.toNat]=f at*;refine⟨hB,k0,x,_,_,_,_,a5,⟨c,a,⟨_,_,_,w1,_,eX u2 g1.pos,?_⟩,⟨_,eX u2 g1.pos,?_⟩⟩,⟨_,eX u2 g1.pos,?_⟩⟩
   focus
    rintro H6 a0 Q q y G
   rotate_left
   focus
    rintro H6 a0 Q q y G;refine⟨_,_,_,w1,?_⟩
   rotate_left
   focus
    rintro H6 a0 Q q y G;refine⟨c,a,_,_,_,w1,?_⟩
   all_goals
    have A:=aa a3 a0;refine⟨_,vQ (R.mono (aa B A)) (F.mono A) G g1.fit,?_⟩;rintro H7 b0 _ rfl;refine⟨λ l=>?_,λ l=>?_⟩
    .have fb:cB t f=true:=by rw[cB];grind
     grind
    .have fb:cB t f=false:=by rw[cB];grind
     rw[fb]at o;exact⟨by simp[ae];omega,⟨by omega,by omega,o⟩,by omega⟩
  .have T:=aac T;rw[ai T fl]at o;rw[o]at n;exact⟨by simp[ae];omega,⟨by omega,by omega,n⟩,by omega⟩
 have b:=aac b;rw[ai b s1]at n;grind
end
end
section
section
variable {H:Heap}{now nid hor:Int}{X Y Z E:D'}{xn xc hn hc cn cc en ec:Nat}{D:Db}{es:List Ed}
def pd (D:Db)(es:List Ed):Int:=Bv D es (tb (bJ D es).1.tabs)
def Ks (a:mr H)(d:um H now nid X xn xc hn cn D)(f:Sl H E en ec es)(h:Fg D es)(e:(bJ D es).2=0->Ow (bJ D es).1.tabs):
  ZB 29 [Ir now nid X xn xc hor Y hn hc Z cn cc,S E en ec] H Ac (Rz (mZ D es) hor (pd D es)):=
 NF d f h λ g {i X Y Z now nid hor xn xc hn hc cn cc} c b=>Ih (a.mono c) b (e g)
def Oe (b:um H now nid X xn xc hn cn D)(d:Sl H E en ec es)(f:Fg D es)(c:(bJ D es).2=0->Ow (bJ D es).1.tabs):
  ZB 143 [Ir now nid X xn xc hor Y hn hc Z cn cc,S E en ec] H Ac (Rz (mZ D es) hor (pd D es)):=
 ED b d f λ e {g X Y Z now nid hor xn xc hn hc cn cc} a=>Ig a (c e)
end
end
section
variable {a:List az}{b c:Int}{d:List Xp}{e f:Nat}
abbrev v2:az->Prop:=si 2
instance (b:Nat)(v:az):Decidable (si b v):=by unfold si;exact inferInstance
def LK:v2 v0:=by decide
def Uq (a b:az):v2 (lA a b):=by
 unfold lA;split
 .rename_i h;exact⟨(by decide:ae _ 1),h.2.2,(by decide:(⟨⟨[]⟩⟩:ByteArray).size<=2)⟩
 .exact LK
def SJ (b:Bool):v2 (wy b):=by cases b<;>decide
def Ur {x:Xp}{c b:az}(d:v2 x.k)(e:∀v∈a,v2 v):v2 (eI x a c b):=by
 unfold eI;split
 .grind
 split
 .split
  .grind
  .exact LK
 split
 .exact Uq _ _
 repeat' split
 all_goals exact SJ _
def VT (e:∀x∈d,v2 x.k)(h:∀v∈a,v2 v){b:List az}(f:∀v∈b,v2 v):∀v∈On a d b,v2 v:=by
 induction d generalizing b with
 | nil=>exact f
 | cons x d g=>
  refine g (λ y i=>e y (by grind)) λ v c=>?_;rcases aam.1 c with c | c
  .grind
  .rw[aaD]at c;subst c;exact Ur (e x (by simp)) h
def Us (c:∀x∈d,v2 x.k)(e:∀v∈a,v2 v):v2 (Lb d b a):=by
 unfold Lb;rw[aaq];cases h:(ve _ _ _)[b.toNat]? with
 | none=>exact LK
 | some v=>exact VT (λ x f=>c x (acb f)) e (λ _ h=>by grind) v (aaJ h)
def Ut (g:∀x∈d,v2 x.k)(j:∀v∈a,v2 v):∀(e:List xP) (c:List az),(∀v∈c,v2 v)->∀v∈e.foldl (zq d a) c,v2 v:=by
 intro e;induction e with
 | nil=>simp
 | cons b r i=>
  intro c h;refine i _ λ v f=>?_;unfold zq at f;split at f
  .rcases acP f with f | rfl
   .grind
   .exact Us g j
  grind
def Uu:∀{b:List cz} {o a r:List az},iB o b a=some r->(∀v∈o,v2 v)->(∀v∈a,v2 v)->∀v∈r,v2 v:=by
 intro b;induction b with
 | nil=>intro o a r h d _;rw[iB]at h;grind
 | cons c g e=>
  intro o a r h d f;cases a with
  | nil=>rw[iB]at h;grind
  | cons x i=>
   rw[iB]at h;grind
def Of {b:List cz}{w:Int}(d:∀v∈a,v2 v):∀v∈(expand b a w).1,v2 v:=by
 intro v h;unfold expand at h;split at h
 .grind
 split at h
 .grind
 split at h
 .grind
 .rename_i o c;exact Uu c (λ u e=>by rw[List.eq_of_mem_replicate e];decide) d v h
def QW {w:Int}(h:∀v∈a,v2 v):∀v∈xB a w,v2 v:=by
 intro v b;rcases aam.1 b with b | b
 .grind
 .rw[List.eq_of_mem_replicate b];exact LK
def PW (p:bc):Prop:=0<=p.lo/\p.lo<=54/\(0<=p.hi/\p.hi<=54\/p.hi=1000000)
def wP (p:bc):Nat:=(min p.hi 55-p.lo).toNat
def pw (l:List aO):Nat:=(l.map λ a=>wP a.p).sum
def cw (a:List bR):Nat:=(a.map λ v=>if sS v=true then wP v.vd else 0).sum
def Kt (a b:List aO):pw (a++b)=pw a+pw b:=by simp[pw]
def QX (a b:List bR):cw (a++b)=cw a+cw b:=by simp[cw]
def QY {id:Int}:pw (pc a b c id)=if b<c then wP ⟨b,c⟩else 0:=by
 unfold pc;split<;>simp[pw]
def QZ {p:bc}{g:Option (List az)}{v:bR}(q:PW p)(r:PW v.vd)(o:gi v.vd p=true)(k:∀x∈v.vals,v2 x)(s:∀l,g=some l->∀x∈l,v2 x):
  pw (fK p g v)<=wP v.vd/\∀a∈fK p g v,PW a.p/\∀x∈a.vals,v2 x:=by
 have e:cv v.vd p=⟨max v.vd.lo p.lo,min v.vd.hi p.hi⟩:=by rw[cv,if_pos o]
 simp only[gi,aah,aad]at o;obtain⟨A,z,w⟩:=q;obtain⟨u,y,B⟩:=r;unfold fK;rw[e];have d:∀{b:List _} {f t id:Int} {a:aO},a∈pc b f t id->f<t/\a.p=⟨f,t⟩/\a.vals=b:=by
  intro b f t id a h;unfold pc at h;grind
 refine⟨?_,λ a c=>?_⟩
 .rw[Kt,Kt,QY,QY];have j:pw (match(generalizing:=false) g with | some l=>pc l (max v.vd.lo p.lo) (min v.vd.hi p.hi) v.id | none=>[])<=if max v.vd.lo p.lo<min v.vd.hi p.hi then wP ⟨max v.vd.lo p.lo,min v.vd.hi p.hi⟩else 0:=by
   cases g with
   | none=>exact abi _
   | some l=>rw[QY];simp
  refine aax (Nat.add_le_add_right (Nat.add_le_add_left j _) _) ?_;simp[wP];grind
 .rcases aam.1 c with c | c
  .rcases aam.1 c with c | c
   .obtain⟨n,m,i⟩:=d c;rw[i];exact⟨⟨by grind,by grind,by grind⟩,k⟩
   .cases g with
    | none=>grind
    | some l=>
     obtain⟨n,m,i⟩:=d c;rw[i];exact⟨⟨by grind,by grind,by grind⟩,s l rfl⟩
  .obtain⟨n,m,i⟩:=d c;rw[i];exact⟨⟨by grind,by grind,by grind⟩,k⟩
def Ra {a:I'}(f:b≠1099511627776)(c:List bR):cw (cp a b c)<=(c.map λ v=>if sS v=true/\v.id∉a then wP v.vd else 0).sum:=by
 induction c with
 | nil=>exact aaB _
 | cons v r d=>
  have e:cp a b (v::r)=kR a b v++cp a b r:=by rfl
  rw[e,QX];refine Nat.add_le_add ?_ d;unfold kR;split
  .split
   .exact abi _
   .simp[cw,sS,f]
  .rename_i h;simp[cw,h]
def Rb {x:Int}:∀{l:List aO} {f:Int},cw (gN f x l)=pw l
 |[],f=>rfl
 | a::r,f=>by
  have:=Rb (x:=x) (l:=r) (f:=f+1);simp[cw,gN,abq]at this⊢;rw[this];rfl
structure TI (W L:Nat)(t:eC):Prop where
 len:t.vs.length<=L
 v:∀v∈t.vs,PW v.vd/\∀x∈v.vals,v2 x
 w:cw t.vs<=W
structure GE (x:Ed):Prop where
 k:x.kind=1\/x.kind=2\/x.kind=3\/x.kind=5\/x.kind=6
 ok:x.kind=2\/x.kind=3->Eo x
 per:x.kind<=3->PW x.vd
 vals:∀v∈x.vals,v2 v
 con:∀y∈x.ex,v2 y.k
def EV {T:Type}{f g:T->Nat}:∀{l:List T},(∀x∈l,f x<=g x)->(l.map f).sum<=(l.map g).sum
 |[],_=>aaB _
 | x::r,h=>by
  exact Nat.add_le_add (h x (by simp)) (EV λ y a=>h y (by grind))
def sum_add {T:Type}{f g:T->Nat}:∀{l:List T},(l.map f).sum+(l.map g).sum=(l.map λ x=>f x+g x).sum
 |[]=>rfl
 | x::r=>by
  have:=sum_add (f:=f) (g:=g) (l:=r);grind
def TI.put {L c:Nat}{t:eC}{cl:I'}{ad:List aO}{x f:Int}(h:TI e L t)(i:x≠1099511627776)(l:∀a∈ad,PW a.p/\∀y∈a.vals,v2 y)(j:ad.length<=3*t.vs.length+1)
  (d:(t.vs.map λ v=>if sS v=true/\v.id∉cl then wP v.vd else 0).sum+pw ad<=c):TI c (4*L+1) ⟨t.sch,jN t.vs cl ad x f⟩:=by
 refine⟨?_,λ u b=>?_,?_⟩
 .have:=JP (cl:=cl) (ad:=ad) (x:=x) (f:=f) (vs:=t.vs);have:=h.len;grind
 .rcases aam.1 (b)with b | b
  .obtain⟨v,g,b⟩:=aaZ.1 b;have:=h.v v g;rw[kR]at b;grind
  .obtain⟨-,-,-,a,m,k,n⟩:=lg b;grind
 .show cw (cp _ x _++gN f x _)<=_;rw[QX,Rb];exact aax (Nat.add_le_add_right (Ra i _) _) d
def TI.mod {t:eC}{p:bc}{es:List Xp}{r:Int}{ch:bR->Option (List az)}(h:TI e f t)(B:PW p)(D:b≠1099511627776)(F:∀v,(∀y∈v.vals,v2 y)->∀l,ch v=some l->∀y∈l,v2 y):
  TI e (4*f+1) ⟨t.sch,jN t.vs (oV (iS t) p es r) (fS p ch (cW (iS t) p es r)) b c⟩:=by
 have o:∀v∈t.vs,PW (dY (wd t.sch) v).vd/\∀y∈(dY (wd t.sch) v).vals,v2 y:=λ v g=>by
  obtain⟨m,j⟩:=h.v v g;rw[(dZ _ v).2.2];refine⟨m,?_⟩;unfold dY;split
  .exact QW j
  grind
 have n:∀u∈cW (iS t) p es r,∃v∈t.vs,u=dY _ v/\sS v=true/\gi u.vd p=true:=λ u d=>by
  rw[cW,abc,iS,aaO]at d;obtain⟨⟨v,g,rfl⟩,i⟩:=d;rw[nX,aah,aah,(dZ _ v).2.1]at i;exact⟨v,g,rfl,i.1.1,i.1.2⟩
 have q:∀u∈cW _ p _ r,pw (fK p _ u)<=wP _/\∀a∈fK p (ch u) u,PW a.p/\∀y∈a.vals,v2 y:=λ u d=>by
  obtain⟨v,g,rfl,m,j⟩:=n u d;obtain⟨C,z⟩:=o v g;exact QZ B C j z (F _ z)
 refine h.put D (λ a A=>?_) ?_ ?_
 .obtain⟨u,d,A⟩:=aaZ.1 A;grind
 .have:=jB (p:=p) (ch:=ch) (l:=cW (iS t) p es r);have:=mX (t:=t) (p:=p) (es:=es) (r:=r);omega
 .have m:pw (fS p ch (cW (iS t) p es r))<=((cW (iS t) p es r).map λ u=>wP u.vd).sum:=by
   have:∀l:List _,pw (fS p ch l)=(l.map λ u=>pw (fK p (ch u) u)).sum:=by
    intro l;induction l with
    | nil=>rfl
    | cons u l s=>rw[abq,adR,<-s,<-Kt];rfl
   rw[this];exact EV λ u d=>(q u d).1
  have j:((cW (iS t) p es r).map λ u=>wP u.vd).sum=(t.vs.map λ v=>if nX p es r (dY (wd t.sch) v)=true then wP v.vd else 0).sum:=by
   unfold cW iS;generalize t.vs=l;induction l with
   | nil=>rfl
   | cons v l s=>
    rw[abq,aba,abq,adR,<-s];split
    .rw[abq,adR,(dZ _ v).2.2]
    simp
  refine aax (Nat.add_le_add_left m _) ?_;rw[j,sum_add];refine aax (EV λ v g=>?_) h.w;have E:nX p _ r (dY (wd _) v)=true->sS v=true/\v.id∈oV (iS t) p es r:=λ i=>by
   refine⟨?_,?_⟩
   .have k:=i;rw[nX,aah,aah,(dZ _ v).2.1]at k;exact k.1.1
   .rw[oV,aaO];exact⟨dY _ v,abc.2 ⟨aaO.2 ⟨v,g,rfl⟩,i⟩,(dZ _ v).1⟩
  grind
def TI.ed {t:eC}{x:Ed}(h:TI e f t)(k:GE x)(C:b<=1000000)(z:x.kind<=3)(i:(iT b t x).1=0):
  TI (e+55) (4*f+1) ⟨t.sch,jN t.vs (iT b t x).2.1 (iT b t x).2.2 (b+1) c⟩:=by
 have q:b+1≠1099511627776:=by omega
 have m:=k.per z;have u:∀{s:eC},TI e (4*f+1) s->TI (e+55) _ s:=λ h=>⟨h.len,h.v,by have:=h.w;omega⟩;unfold iT at*;split at i
 .rename_i o;simp[if_pos o];unfold rE at*;split at i
  .grind
  rename_i j;split at i
  .grind
  rename_i p;simp[if_neg j,if_neg p];refine h.put q (λ a B=>?_) (by simp) ?_
  .rw[aaD.1 B];exact⟨m,Of k.vals⟩
  .have d:pw [(⟨(expand ((cY (b+1) t.sch.vers).getD og).cols x.vals (width t.sch)).1,x.vd,[]⟩:aO)]<=55:=by
    simp[pw,abq,List.map_nil,adR,List.sum_nil,wP];have:=m.1;omega
   refine Nat.add_le_add (aax (EV λ v n=>?_) h.w) d;grind
 rename_i o;simp[if_neg o];split at i
 .rename_i j;simp[if_pos j];unfold Bs at*;split
  .grind
  exact u (h.mod m q λ v n l r=>by grind)
 .rename_i j;simp[if_neg j];unfold zX at*;split at i
  .grind
  rename_i p;split at i
  .grind
  rename_i A;simp[if_neg p,if_neg A];refine u (h.mod m q λ v n l r=>?_);cases r;refine Ut ?_ n _ _ n;intro y g;unfold gO at g;split at g
  .rcases aam.1 g with g | g
   .exact k.con y g
   .rw[aaD.1 g];decide
  .exact k.con y g
def qF (s:bp):Bool:=s.key.all (λ x=>decide (0<=x))&&decide (s.key.length<=4)&&(s.fks.all λ f=>f.cols.all (λ x=>decide (0<=x))&&decide (f.cols.length<=4)&&f.refs.all (λ x=>decide (0<=x))&&decide (f.refs.length<=4))&&
 s.csts.all λ c=>c.cols.all (λ x=>decide (0<=x))&&decide (c.cols.length<=4)
def tc {s:bp}(h:aw s=true):JO s:=by
 refine⟨(qp h).2,λ v a c b=>?_⟩;have:=zV h a;simp[aB]at this;exact(mP _ 0 _ (abt _) this.2 c b).1
def LL {l:List dh}{a:List cz}:(bf l a b).length<=l.length+1:=by
 unfold bf;grind
def Og {s:bp}{c:cz}{x:Int}(h:(eW s c x).2=0):qF (eW s c x).1=qF s/\(eW s c x).1.vers.length<=s.vers.length+1:=by
 unfold eW at*;repeat' split at h
 all_goals first
  | cases h;done
  | skip
 simp[*];exact⟨rfl,LL⟩
def Ku {s:bp}(h:(bN s b c).2=0):qF (bN s b c).1=qF s/\(bN s b c).1.vers.length<=s.vers.length+1:=by
 unfold bN at*;repeat' split at h
 all_goals first
  | cases h;done
  | skip
 simp[*];exact⟨rfl,LL⟩
end
section
variable {a:eC}{b c:Nat}{f:List Ed}
structure DI (e L:Nat)(d:Db):Prop where
 n0:0<=d.now
 n1:d.now<=e
 i0:1<=d.nid
 i1:d.nid<=1+e*1000000
 two:d.tabs.length<=2
 tab:∀t∈d.tabs,aw t.sch=true/\qF t.sch=true/\t.sch.vers.length<=e+1/\Br d.now d.nid t/\TI (e*55) L t
section
variable {e L:Nat}{d:Db}{x:Ed}
def DI.n (h:DI e L d)(a:e<=30):Lt d.now d.nid:=by
 have:=h.n1;have:=h.i1;exact⟨h.n0,by omega,h.i0,by omega⟩
def DI.ok (h:DI e L d)(a:e<=30)(i:L<=1000000):Tn d:=by
 refine⟨h.n a,by have:=h.two;omega,λ t c=>?_⟩;obtain⟨-,-,g,f,b⟩:=h.tab t c;have:=b.len;grind
def TI.up {e d:Nat}(h:TI b c a)(f:b<=e)(g:c<=d):TI e d a:=⟨aax h.len g,h.v,aax h.w f⟩
def DI.set {L2:Nat}{j:Nat}{t':eC}{m:Nat}(h:DI e L d)(i:L<=L2)(k:m<=1000000)
  (l:aw t'.sch=true/\qF t'.sch=true/\t'.sch.vers.length<=e+2/\Br d.now (d.nid+m) t'/\TI ((e+1)*55) L2 t'):DI (e+1) L2 ⟨d.now,d.nid+m,d.tabs.set j t'⟩:=by
 have:=h.n1;have:=h.i1;have:=h.i0;refine⟨h.n0,by grind,by grind,by grind,by rw[abd];exact h.two,λ t a=>?_⟩;rcases acP a with a | rfl
 .obtain⟨f,b,n,c,g⟩:=h.tab t a;exact⟨f,b,by omega,c.up (by grind),g.up (by omega) i⟩
 grind
def DI.ed (h:DI e L d)(z:GE x)(K:e<=29)(I:L<=100000)(f:(oX d x).2=0):DI (e+1) (4*L+1) (oX d x).1:=by
 have H:=z.k;have A:=h.n (by omega);unfold oX at*;rw[if_neg (by omega)]at f⊢;split at f
 .rename_i t B;split at f
  .grind
  rename_i E;rw[if_neg E];have F:=aaJ B;generalize (cO _ _).toNat=j at*;obtain⟨D,y,J,g,i⟩:=h.tab t F;unfold NB at*;split at f
  .rename_i r;rw[if_pos r];obtain⟨l,q⟩:=Ho g A f;have:=i.len;rw[Lv f];refine h.set (by omega) (by omega) ⟨D,y,by grind,g.apply l,?_⟩;exact(i.ed z A.n1 r f).up (by omega) (aaB _)
  rename_i r;rw[if_neg r];have p:∀{s:bp},aw s=true->qF s=qF _->s.vers.length<=t.sch.vers.length+1->DI _ _ _:=λ {s} a b c=>by
   have:=h.set (L2:=4*L+1) (j:=j) (t':=⟨s,t.vs⟩) (m:=0) (by omega) (by simp) ⟨a,b.trans y,by grind,⟨tc a,g.lI,λ v G=>by have:=g.id v G;omega,g.day,g.lo⟩,⟨by have:=i.len;grind,i.v,by have:=i.w;grind⟩⟩;simpa[zZ]using this
  split at f
  .rename_i u;rw[if_pos u];rw[rF,if_pos f];obtain⟨l,q⟩:=Og (s:=t.sch) (c:=x.col) (x:=d.now+1) f;exact p (Et f) l q
  .rename_i u;rw[if_neg u];unfold sR at f⊢;split at f
   .grind
   rename_i o;split at f
   .grind
   rename_i C;rw[if_neg o,if_neg C];have o:=acQ o;obtain⟨l,q⟩:=Ku o;exact p (Bq o) l q
 grind
def DI.tA (a:GE x):Ws d x:=by
 have:=a.k;exact⟨by omega,by omega,λ h=>by omega,a.ok⟩
def DI.cons (h:DI e L d)(a:GE x)(c:e<=29)(i:L<=100000)(b:(oX d x).2=0->Fg (oX d x).1 f):Fg d (x::f):=
 ⟨h.ok (by omega) (by omega),DI.tA a,λ g=>by have:=a.k;omega,b⟩
def DI.up {j i:Nat}(h:DI e L d)(m:e<=j)(k:L<=i):DI j i d:=by
 have:=h.n1;have:=h.i1;refine⟨h.n0,by omega,h.i0,by omega,h.two,λ t l=>?_⟩;obtain⟨a,b,c,f,g⟩:=h.tab t l;exact⟨a,b,by omega,f,g.up (by omega) k⟩
def DI.run:∀{es:List Ed} {e L:Nat} {d:Db},DI e L d->(∀x∈es,GE x)->e+es.length<=30->(L+1)*4^es.length<=400000->Fg d es/\((bJ d es).2=0->DI (e+es.length) 400000 (bJ d es).1)
 |[],e,L,d,h,_,he,hL=>⟨h.ok (by grind) (by grind),λ _=>h.up (by simp) (by grind)⟩
 | x::r,e,L,d,h,hg,he,hL=>by
  rw[aav]at he hL⊢;have g:0<4^r.length:=Nat.pow_pos (by simp);rw[Nat.pow_succ]at hL;have b:L<=100000:=by
   have:(L+1)*4<=(L+1)*(4^r.length*4):=acx _ (by omega);omega
  have c:=hg x (by simp);have f:=λ a=>DI.run (es:=r) (h.ed c (by omega) b a) (λ y i=>hg y (by grind)) (by omega) (by
   grind)
  refine⟨h.cons c (by omega) b λ a=>(f a).1,λ a=>?_⟩;rw[bJ]at a⊢;grind
def SK (h:TI b c a)(f:∀v∈a.vs,eo v.vd=true):(dR a).length<=b:=by
 refine aax ?_ h.w;unfold dR oY cw;have g:=h.v;generalize a.vs=l at g f;induction l with
 | nil=>simp
 | cons v r i=>
  rw[abq];have:=i (λ u j=>g u (by grind)) (λ u j=>f u (by grind));split
  .have e:=(g v (by simp)).1;have d:=vI.1 (f v (by simp));obtain⟨k,m,n⟩:=e;have:1<=wP v.vd:=by simp[wP];omega
   grind
  grind
def Rc:(aG (dR a)).length=(dR a).length:=by
 unfold aG dR oY;generalize a.vs.filter _=l;induction l with
 | nil=>rfl
 | cons v r b=>grind
def LM {a:I'}(c:a.all (λ x=>decide (0<=x))=true)(b:a.length<=4):Kr [] a:=
 ⟨⟨by simp,by grind,by decide,λ t d=>by grind⟩,λ x e=>by grind⟩
def SL {W:Nat}{e:I'}(h:TI W c a)(k:W<=1650)(f:∀v∈a.vs,eo v.vd=true)(n:e.all (λ x=>decide (0<=x))=true)(m:e.length<=4):Kr (dR a) e:=by
 have l:=SK h f;refine⟨⟨by omega,by grind,by rw[Rc];omega,NY (b:=2) (by simp) (by grind) λ d g v i=>?_⟩,λ x o=>by grind⟩;obtain⟨u,j,rfl⟩:=aaO.1 g;exact QW (h.v u (abc.1 j).1).2 v i
def DI.UP (h:DI e L d)(y:e<=30)(v:L<=1000000):Ow d.tabs:=by
 have l:∀t∈d.tabs,∀i:List _,i.all _=true->i.length<=4->Kr _ _:=λ t j i a b=>by
  obtain⟨-,-,-,k,m⟩:=h.tab t j;exact SL m (by omega) k.day a b
 refine⟨λ t j=>?_,λ t j=>?_,λ t j f p=>?_,λ t j c B=>?_⟩;all_goals
  obtain⟨r,n,w,k,m⟩:=h.tab t j;simp[qF,aaG]at n;obtain⟨⟨⟨q,x⟩,o⟩,A⟩:=n
 .exact⟨k.s,k.lI,by have:=m.len;omega⟩
 .grind
 .obtain⟨⟨⟨a,b⟩,c⟩,g⟩:=o f p;refine⟨l t j _ (by grind) b,?_⟩;unfold vS;split
  .exact LM (by grind) g
  .cases z:d.tabs[(cO _ _).toNat]? with
   | none=>exact LM (by grind) g
   | some u=>grind
 grind
def Re {D:Db}(h:pd D f=0):(bJ D f).2=0/\uq (bJ D f).1=false:=by
 unfold pd Bv at h;grind
def SM (d:Db)(x:Ed):(oX d x).1.now=d.now:=by
 unfold oX NB Hs Ev vK rF zZ;grind
def DI.WT (h:DI e 4096 d)(u:f.length<=2)(o:∀x∈f,GE x)(F:e<=28):
  Fg d f/\((bJ d f).2=0->Ow (bJ d f).1.tabs)/\(pd d f=0->DI (e+2) 4096 (mZ d f)):=by
 have n:(4096+1)*4^f.length<=400000:=by
  have:4^f.length<=4^2:=Nat.pow_le_pow_right (by simp) u;omega
 obtain⟨p,j⟩:=h.run o (by omega) n;refine⟨p,λ i=>(j i).UP (by omega) (by simp),λ i=>?_⟩;obtain⟨a,b⟩:=Re i;have k:=j a;have E:=k.i1;have C:=h.n1;have g:(bJ d f).1.now<=e:=by
  have:∀(f:List Ed) (d:Db),(bJ d f).1.now=d.now:=by
   intro f;induction f with
   | nil=>intro d;rfl
   | cons x r y=>
    intro d;rw[bJ];split
    .rw[y];exact SM d x
    simp
  grind
 refine⟨by have:=k.n0;show 0<=(bJ d _).1.now+1;omega,by show(bJ d _).1.now+1<=_;omega,k.i0,by show(bJ d _).1.nid<=_;omega,k.two,λ t l=>?_⟩;obtain⟨z,A,D,c,m⟩:=k.tab t l;have q:t.vs.length<=4096:=by
  have:=abj.1 b t l;grind
 exact⟨z,A,by omega,⟨c.s,c.lI,c.id,c.day,λ v B=>by have:=c.lo v B;show v.rc.lo<=(bJ d _).1.now+1+1;omega⟩,⟨q,m.v,aax m.w (by omega)⟩⟩
end
end
section
variable {a:bp}
def CU:ByteArray:=⟨⟨[116]⟩⟩
def LN:ByteArray:=⟨⟨[117]⟩⟩
def WU (s:bp):Bool:=(match((cY 1 s.vers).getD og).cols.find? (λ c=>decide (c.id=1))with | some y=>decide (y.kind=1) | none=>false)&&decide ((br s 1)[0]?=some 1)
def VU (h:WU a=true):C1 a 1:=by
 unfold WU at h;refine⟨?_,by grind⟩;grind
def Zs (f:nz):Bool:=decide (f.cols=[1])&&decide (f.refs=[1])&&(decide (f.table=CU)||decide (f.table=LN))
def EW (a:ByteArray)(s:bp):Bool:=
 decide ((bt s 1).2=0)&&decide ((bt s 1).1.name=a)&&aw (bt s 1).1&&qF (bt s 1).1&&decide ((bt s 1).1.vers.length=1)&&WU (bt s 1).1&&(bt s 1).1.fks.all Zs
def VV (d:ByteArray)(n:Nat)(b:I')(c:List nz)(a:List Rs):bp:=⟨d,[⟨⟨0,1099511627776⟩,vp n⟩],b,c,a⟩
def EX (t:ByteArray):List nz:=[⟨[1],t,[1]⟩]
def SN:([CU,LN].all λ d=>[2,3].all λ n=>[[],[1],[2,1]].all λ b=>[[],EX CU,EX LN].all λ c=>[[],[⟨1,[2]⟩],[⟨2,[1,2]⟩]].all λ a=>EW d (VV d n b c a))=true:=by kernel_rfl
def Rf {e:ByteArray}{a b d:Int}{c:List nz}(g:e=CU\/e=LN)(f:ae .u16 a)(i:c=[]\/c=EX CU\/c=EX LN):EW e (VV e (2+(a.tmod 2).toNat) (mkKey b) c (jR d))=true:=by
 have j:=dM f.1 (m:=2) (by decide);have h:=aaG.1 SN e (by rcases g with rfl | rfl<;>simp);have h:=aaG.1 h (2+(a.tmod 2).toNat) (by
  obtain h | h:a.tmod 2=0\/a.tmod 2=1:=by omega
  all_goals rw[h];decide)
 have h:=aaG.1 h (mkKey b) (by unfold mkKey;split<;>first | decide |(split<;>decide));have h:=aaG.1 h c (by grind);exact aaG.1 h (jR d) (by unfold jR;split<;>first | decide |(split<;>decide))
def Kv (a:I'):bl [] a=[]:=rfl
def SO {b:List eC}(h:∀t∈b,t.vs=[]):tb b=0:=by
 have a:∀t∈b,dR t=[]:=λ t d=>by unfold dR oY;grind
 have g:b.any kB=false:=abj.2 λ t d=>by
  unfold kB eJ;rw[a t d,Kv];simp
 have i:(b.any λ t=>t.sch.fks.any (fB b t))=false:=abj.2 λ t d=>by
  rw[abZ,abj];intro f e;unfold fB AB;rw[a t d,Kv];simp
 have j:(b.any λ t=>t.sch.csts.any (cB t))=false:=abj.2 λ t d=>by
  rw[abZ,abj];intro c k;unfold cB qB ya eJ;rw[a t d,Kv];simp
 unfold tb;grind
def yd:Db:=⟨0,1,[]⟩
structure VW (nm:ByteArray)(s s':bp):Prop where
 cr:bt s 1=(s',0)
 name:s'.name=nm
 valid:aw s'=true
 sm:qF s'=true
 len:s'.vers.length=1
 c1:C1 s' 1
 fks:∀f∈s'.fks,f.cols=[1]/\f.refs=[1]/\(f.table=CU\/f.table=LN)
def EY {b:ByteArray}(h:EW b a=true):∃c,VW b a c:=by
 unfold EW at h;simp only[aah,aad]at h;obtain⟨⟨⟨⟨⟨⟨j,g⟩,m⟩,i⟩,l⟩,e⟩,k⟩:=h;refine⟨(bt a 1).1,Prod.ext rfl j,g,m,i,l,VU e,λ f d=>?_⟩;have:=aaG.1 k f d;unfold Zs at this;grind
def Br.new {c b:Int}(h:JO a):Br c b ⟨a,[]⟩:=⟨h,List.Pairwise.nil,λ v d=>(by grind),λ v d=>(by grind),λ v d=>(by grind)⟩
def TI.new {W L:Nat}:TI W L ⟨a,[]⟩:=⟨abi _,λ v b=>(by grind),abi _⟩
def Oh {B:bp}{i k:Ed}(C:i.kind=4)(M:k.kind=4)(N:i.sch=a)(G:k.sch=B)(E:EW CU a=true)(H:a.fks=[])(D:EW LN B=true):
  Fg yd [i,k]/\((bJ yd [i,k]).2=0->Ow (bJ yd [i,k]).1.tabs)/\pd yd [i,k]=0/\DI 2 4096 (mZ yd [i,k]):=by
 subst N G;obtain⟨t,j⟩:=EY E;obtain⟨u,m⟩:=EY D;have o:∀d:Db,d.now=0->Ou d i=t:=λ d x=>by unfold Ou;rw[x];exact aak Prod.fst j.cr
 have n:∀d:Db,d.now=0->Ou d k=u:=λ d x=>by unfold Ou;rw[x];exact aak Prod.fst m.cr
 have r:oX yd i=(⟨0,1,[⟨t,[]⟩]⟩,0):=by rw[oX,if_pos C,o yd rfl];rfl
 have q:oX ⟨0,1,[⟨t,[]⟩]⟩ k=(⟨0,1,[⟨t,[]⟩,⟨u,[]⟩]⟩,0):=by rw[oX,if_pos M,n _ rfl];rfl
 have l:bJ yd [i,k]=(⟨0,1,[⟨t,[]⟩,⟨u,[]⟩]⟩,0):=by
  rw[bJ,r,if_pos rfl,bJ,q,if_pos rfl,bJ]
 have K:t.fks=[]:=by
  have:(bt i.sch 1).1.fks=i.sch.fks:=by
   have:=j.cr;unfold bt at this⊢;repeat' split at this
   all_goals first
    |(have:=aak Prod.snd this;cases this;done)
    | skip
   simp only[*];rfl
  rw[<-H,<-this,j.cr]
 have A:∀w:List eC,(∀s∈w,s=⟨t,[]⟩\/s=⟨u,[]⟩)->w.length<=2->DI 2 4096 ⟨0,1,w⟩:=λ w L J=>by
  refine⟨by simp,by simp,by simp,by simp,J,λ s h=>?_⟩;rcases L s h with rfl | rfl
  .exact⟨j.valid,j.sm,by rw[j.len];decide,Br.new (tc j.valid),TI.new⟩
  .exact⟨m.valid,m.sm,by rw[m.len];decide,Br.new (tc m.valid),TI.new⟩
 have I:=A [] (λ s h=>(by cases h)) (by simp);have F:=A [⟨t,[]⟩] (λ s h=> .inl (aaD.1 h)) (by simp);have y:=A [⟨t,[]⟩,⟨u,[]⟩] (λ s h=>by simpa using h) (by simp);have z:pd yd [i,k]=0:=by
  unfold pd Bv;rw[l,if_neg (by simp),if_neg (by simp),if_neg (by simp[uq])];exact SO λ s h=>by
   rcases(show s=⟨t,[]⟩\/s=⟨u,[]⟩by simpa using h)with rfl | rfl<;>rfl
 refine⟨⟨I.ok (by decide) (by decide),⟨by omega,by omega,λ _=>?_,λ h=>(by omega)⟩,λ _=>by rw[o yd rfl];exact tc j.valid,λ _=>?_⟩,λ _=>by rw[l];exact y.UP (by decide) (by decide),z,?_⟩
 .rw[o yd rfl];exact⟨j.cr,by decide,λ s h=>(by cases h),λ f p=>(by rw[K]at p;cases p)⟩
 .rw[r];refine⟨F.ok (by decide) (by decide),⟨by omega,by omega,λ _=>?_,λ h=>(by omega)⟩,λ _=>by rw[n _ rfl];exact tc m.valid,λ _=>?_⟩
  .rw[n _ rfl];refine⟨m.cr,by simp,λ s h=>?_,λ f p=>?_⟩
   .rw[aaD.1 h];show Ey t.name u.name;rw[j.name,m.name];unfold Ey;kernel_rfl
   .obtain⟨e,b,c⟩:=m.fks f p;refine⟨e,b,m.c1,?_⟩;rcases c with c | c
    .refine .inr ⟨0,⟨t,[]⟩,?_,rfl,j.c1⟩;show cO f.table [⟨t,[]⟩]=0;unfold cO idxOf;rw[if_pos (by rw[c];simpa using j.name)]
    .exact .inl (c.trans m.name.symm)
  .rw[q];exact y.ok (by decide) (by decide)
 .have:mZ yd [i,k]=⟨1,1,[⟨t,[]⟩,⟨u,[]⟩]⟩:=by unfold mZ;rw[l];rfl
  rw[this];refine⟨by simp,by simp,by simp,by simp,by simp,λ s h=>?_⟩;obtain⟨e,b,c,f,g⟩:=y.tab s h;exact⟨e,b,c,⟨f.s,f.lI,f.id,f.day,λ v O=>by have P:v.rc.lo<=0+1:=f.lo v O;show v.rc.lo<=1+1;omega⟩,g⟩
end
section
variable {a b f g:Int}{c:Heap}{d:az}{e:Nat}
def gv (v:az):Prop:=v2 v/\bG v=true
def gv.ok (h:gv d):dp d:=⟨h.1.1,h.1.2.1,by have:=h.1.2.2;unfold str;omega⟩
def dD:gv ⟨0,0,⟨⟨[]⟩⟩⟩:=⟨by decide,by rfl⟩
def gJ (d:0<=b):ZB 70 [Φi a,Φu b] c uY (λ k n s _=>gv ⟨k,n,s⟩):=by
 refine ΦK 0 bE (λ d=>(7:Int)≠0/\J (Int.tmod b 7=6) (d 0 0 ⟨⟨[]⟩⟩ c) ((2:Int)≠0/\J (Int.tmod a 2=0) ((3:Int)≠0/\(∃e:Int,IntKind.wrap IntKind.i64 (Int.tmod b 3)=e/\ΦR (e-1)/\C ZU 123 [I (e-1)] c λ f g h i=>d g h i f)) ((3:Int)≠0/\ΦY (Int.tmod b 3) 3 (ΦF Xr [ΦT ⟨⟨[]⟩⟩,ΦT {data:=⟨[(97:UInt8)]⟩},ΦT {data:=⟨[(98:UInt8),(39:UInt8)]⟩}] (N (Int.tmod b 3)*1) 1 (λ e=>d 2 0 e c))))) ?_;dsimp only[aQ,aR,eQ,C,ΦF,N,ΦR,ΦY,J];refine⟨by simp,λ h=>dD,λ h=>⟨by simp,λ _=>⟨by simp,?_⟩,λ _=>?_⟩⟩
 .rcases CA d with e | e | e<;>rw[e]<;>refine⟨_,rfl,by decide,_,rW,?_⟩<;>rintro f _ _ _ _ ⟨rfl,rfl,rfl⟩<;>exact⟨by decide,by rfl⟩
 .rcases CA d with e | e | e<;>rw[e]<;>refine⟨by simp,by simp,by simp,_,rfl,?_⟩<;>exact⟨by decide,by rfl⟩
def Kw (o:0<=a)(i:0<=b):ZB 58 [Φu a,Φu b] c ⟨false,[(false,[.row e 133])]⟩ (λ m j q=>∃l:List az,m=l.length/\Row q j l/\l.length<=2/\∀v∈l,v2 v):=by
 refine ΦK 0 bE (λ d=>C ZU 70 [I 0,.int .u16 a] c λ e f g h=>C ZU 70 [I 1,.int .u16 b] e λ i j k l=>d 2 [I f,I g,ΦT h,I j,I k,ΦT l] i) ?_;dsimp only[aQ,aR,C];refine⟨_,gJ o,?_⟩;intro u z k n s g;refine⟨_,gJ i,?_⟩;intro w A p t h f;refine⟨[⟨k,n,s⟩,⟨p,t,h⟩],rfl,⟨[_,_,_],[_,_,_],rfl,⟨rfl,g.ok⟩,[_,_,_],[],rfl,⟨rfl,f.ok⟩,rfl⟩,by simp,λ v d=>?_⟩;rcases aaw.1 d with rfl | d
 .exact g.1
 .rw[aaD.1 d];exact f.1
def SP (c:0<=a)(d:0<=b):PW (Ni a b):=by
 unfold Ni PW;grind
def aeU:fI where
 res:=λ _=>none
 lend:=λ _=>false
 sch:=λ _=> .done
 lt:=λ _=>[]
 kz:=Gh
def Kx:ZB 73 [] c fi (λ A n a b=>Sl b A n a [(1:Int),2]):=by
 refine uJ (an:=aeU) (fn:=Tryz.f73) mix tO Tryz.func73 (by rfl) (extra:=0) ?_;intro A a f g d e;exact Ee d (ah _) e (by grind) (by grind)
def CV (g:0<=a)(f:0<b)(h:b<=100):ZB 124 [Φi a,Φi b] c gL (λ r _=>0<=r/\r<b):=by
 refine ΦK 0 bE (λ d=>J (b<=0) (d 0 c) (b≠0/\ΦR (Int.tmod a b+b)/\b≠0/\d (Int.tmod (Int.tmod a b+b) b) c)) ?_;dsimp only[ΦR,J];have e:=dM g f;have d:=dM (x:=a.tmod b+b) (by omega) f;grind
def BF (f:0<=b):ZB 125 [Φi a,Φu b] c uY (λ a n s _=>gv ⟨a,n,s⟩):=by
 refine ΦK 0 bE (λ d=>J (a=1) ((6:Int)≠0/\C ZU 70 [I 0,.int .u16 (Int.tmod b 6)] c (λ e f g h=>d f g h e)) (J (a=2) ((6:Int)≠0/\C ZU 70 [I 1,.int .u16 (Int.tmod b 6)] c (λ e f g h=>d f g h e)) (J (a=3) ((2:Int)≠0/\(∃e:Int,IntKind.wrap IntKind.i64 (Int.tmod b 2)=e/\d 3 e ⟨⟨[]⟩⟩ c)) (d 0 0 ⟨⟨[]⟩⟩ c)))) ?_;dsimp only[aQ,aR,C,J];have e:=dM f (m:=6) (by simp);have d:=dM f (m:=2) (by simp);refine⟨λ _=>⟨by simp,_,gJ e.1,λ _ _ _ _ _ h=>h⟩,λ _=>⟨λ _=>⟨by simp,_,gJ e.1,λ _ _ _ _ _ h=>h⟩,λ _=>⟨λ _=>⟨by simp,_,wrap_i64 d.1 (by omega),?_⟩,λ _=>dD⟩⟩⟩;obtain h | h:b.tmod 2=0\/b.tmod 2=1:=by omega
 all_goals rw[h];exact⟨by decide,by rfl⟩
def RA:Nat->List Xp->Prop
 | _,[]=>True
 | i,x::r=>rQ i x/\RA (i+1) r
def LO:∀{a b:List Xp} {i:Nat},RA i (a++b)↔RA i a/\RA (i+a.length) b
 |[],b,i=>by simp[RA]
 | x::r,b,i=>by
  rw[aby,RA,RA,LO,aav,aeo,show i+1+r.length=i+(r.length+1)by omega]
def LP:∀{a:List Xp} {i:Nat},RA i a->∀k (b:k<a.length),rQ (i+k) a[k]
 | x::r,i,h,0,_=>h.1
 | x::r,i,h,k+1,b=>by
  have:=LP h.2 k (by grind);grind
structure GX (es:List Xp):Prop where
 wf:RA 0 es
 k:∀x∈es,gv x.k
 len:es.length<=10
def GX.ok {a:List Xp}(h:GX a):Su a:=by
 have:=h.len;refine⟨λ i b=>?_,λ x c _=>(h.k x c).2,by omega⟩;have:=LP h.wf i b;grind
def GX.app {a r:List Xp}(h:GX a)(d:RA a.length r)(b:∀x∈r,gv x.k)(e:a.length+r.length<=10):GX (a++r):=
 ⟨LO.2 ⟨h.wf,by grind⟩,λ x c=>(aam.1 c).elim (h.k x) (b x),by grind⟩
def GX.nil:GX []:=⟨trivial,λ x a=>(by grind),abi _⟩
def Ky (h:a=1\/a=2):rQ e ⟨a,0,0,b,d⟩:=by
 rcases h with rfl | rfl
 .exact⟨.inl rfl,λ h=>absurd h (by simp[aZ]),λ h=>absurd h (by simp[aZ])⟩
 .exact⟨.inr (.inl rfl),λ h=>absurd h (by simp[aZ]),λ h=>absurd h (by simp[aZ])⟩
def VX (h:a=10\/a=11)(l:0<=b)(j:b<e):rQ e ⟨a,b,f,g,d⟩:=by
 rcases h with rfl | rfl
 .exact⟨by simp[Be],λ _=>⟨l,j⟩,λ h=>absurd h (by simp[aZ])⟩
 .exact⟨by simp[Be],λ _=>⟨l,j⟩,λ h=>absurd h (by simp[aZ])⟩
def Uv (h:a=3\/a=6\/a=7)(j:0<=b)(m:b<e)(n:0<=f)(l:f<e):rQ e ⟨a,b,f,g,d⟩:=by
 rcases h with rfl | rfl | rfl;all_goals exact⟨by simp[Be],λ _=>⟨j,m⟩,λ _=>⟨n,l⟩⟩
def qG {k:az}(h:ae .i64 a)(d:ae .i64 b)(j:ae .i64 f)(e:ae .i64 g)(i:gv k):Row c [Φi a,Φi b,Φi f,Φi g,Φi k.kind,Φi k.n,ΦT k.s] [(⟨a,b,f,g,k⟩:Xp)]:=
 Row.one ⟨rfl,h,d,j,e,i.ok⟩
end
section
variable {a:Heap}{b c d f:Int}{e:Xp}
def n0:az:=⟨0,0,⟨⟨[]⟩⟩⟩
def GX.one {a:List Xp}(h:GX a)(c:rQ a.length e)(d:gv e.k)(b:a.length<10):GX (a++[e]):=
 h.app ⟨c,trivial⟩ (λ y f=>by grind) b
structure PX (m:Nat)(xs:G')(r:Int)(H:Heap):Prop where
 ex:∃es:List Xp,m=es.length/\Row H xs es/\GX es/\es.length<=4/\0<=r/\r<es.length
abbrev SQ (f:Int):G':=[.int .i64 2,.int .i64 0,.int .i64 0,.int .i64 f,.int .i64 0,.int .i64 0,.string ⟨⟨[]⟩⟩]
def rp {f:Int}(b:ae .i64 f):Row a (SQ f) [(⟨2,0,0,f,n0⟩:Xp)]:=qG (k:=n0) (by grind) (by grind) (by grind) b dD
def Kz:GX [⟨2,0,0,b,n0⟩]:=GX.nil.one (Ky (.inr rfl)) dD (by simp)
def pf2 (g:ae .i64 b)(e:c=0)(h:d=1):PX (1+1) (SQ b++[Φi 11,Φi c,Φi 0,Φi 0,Φi 0,Φi 0,.string ⟨⟨[]⟩⟩]) d a:=by
 subst e h;exact⟨_,rfl,(rp g).append (qG (k:=n0) (by grind) (by grind) (by grind) (by grind) dD),Kz.one (VX (.inr rfl) (by simp) (by simp)) dD (by simp),by simp,by simp,by simp⟩
def Zt {i:G'}{r:Int}(j:ae .i64 b)(n:Row a i [e])(l:gv e.k)(p:rQ 1 e)(h:c=6\/c=7)(m:d=0)(o:f=1)(g:r=2):
  PX (1+1+1) (SQ b++i++[Φi c,Φi d,Φi f,Φi 0,Φi 0,Φi 0,.string ⟨⟨[]⟩⟩]) r a:=by
 subst m o g;have g:ae .i64 c:=by grind
 exact⟨_,rfl,((rp j).append n).append (qG (k:=n0) g (by grind) (by grind) (by grind) dD),(Kz.one p l (by simp)).one (Uv (.inr h) (by simp) (by simp) (by simp) (by simp)) dD (by simp),by simp,by simp,by simp⟩
def Zu {j:G'}{g r:Int}(l:ae .i64 b)(p:Row a j [e])(m:gv e.k)(n:rQ 1 e)(i:c=6\/c=7)(o:d=0)(q:f=1)(s:g=2)(h:r=3):
  PX (1+1+1+1) (SQ b++j++[Φi c,Φi d,Φi f,Φi 0,Φi 0,Φi 0,.string ⟨⟨[]⟩⟩]++[Φi 10,Φi g,Φi 0,Φi 0,Φi 0,Φi 0,.string ⟨⟨[]⟩⟩]) r a:=by
 subst o q s h;have h:ae .i64 c:=by grind
 exact⟨_,rfl,(((rp l).append p).append (qG (k:=n0) h (by grind) (by grind) (by grind) dD)).append (qG (k:=n0) (by grind) (by grind) (by grind) (by grind) dD),
  ((Kz.one n m (by simp)).one (Uv (.inr i) (by simp) (by simp) (by simp) (by simp)) dD (by simp)).one (VX (.inl rfl) (by simp) (by simp)) dD (by simp),by simp,by simp,by simp⟩
def AK {A:D'}{n k q:Nat}(v:Sl a A n k [(1:Int),2])(w:ae .u16 b)(p:ae .u16 c)(T:ae .u16 d)(B:ae .u16 f):
  ZB 72 [.slice none 0 0,S A n k,.agg ⟨[Φu b,Φu c,Φu d,Φu f]⟩] a ⟨true,[(false,[.row q 142]),(false,[.int .i64])]⟩ PX:=by
 refine ΦK 0 (aj [17,23] [(1,ov),(7,ab 2 15 [0]),(9,ab 2 7 [17,18,21,23,24,0])] []) (λ e=>ΦY 0 4 (let g:=[.int .u16 b,.int .u16 c,.int .u16 d,.int .u16 f];ΦF Xz g (N 0*1) 1 λ h=>∃i:Int,IntKind.wrap IntKind.i64 h=i/\ΦY 1 4 (ΦF Xz g (N 1*1) 1 (λ j=>∃k:Int,IntKind.wrap IntKind.i64 j=k/\C ZP 124 [I i,I (O n)] a λ l m=>C ZP 124 [I k,I (O n)] l λ o p=>1*64<=M/\ΦR (O 1-1)/\ΦY 2 4 (ΦF Xz g (N 2*1) 1 (λ q=>(5:Int)≠0/\let r:=λ(r:Int)=>[Value.int .i64 2,I 0,I 0,I r,I 0,I 0,ΦT ⟨⟨[]⟩⟩];J (Int.tmod q 5=0) ((1+1)*64<=M/\ΦR (O (1+1)-1)/\e (1+1) (r m++[Value.int .i64 11,I (O 1-1),I 0,I 0,I 0,I 0,ΦT ⟨⟨[]⟩⟩]) (O (1+1)-1) o) (ΦX A m n (ΦE ZE o A (N m*1) (λ s=>ΦX A p n (ΦE ZE o A (N p*1) (λ t=>let u:=[Value.int .i64 7,I (O 1-1),I (O 1-1+1),I 0,I 0,I 0,ΦT ⟨⟨[]⟩⟩];let v:=[Value.int .i64 6,I (O 1-1),I (O 1-1+1),I 0,I 0,I 0,ΦT ⟨⟨[]⟩⟩];let w:=[Value.int .i64 10,I (O (1+1+1)-1),I 0,I 0,I 0,I 0,ΦT ⟨⟨[]⟩⟩];let x:=ΦX A m n (ΦE ZE o A (N m*1) (λ x=>ΦY 3 4 (ΦF Xz g (N 3*1) 1 (λ y=>C ZU 125 [I x,.int .u16 y] o λ z a0 a1 a2=>(1+1)*64<=M/\ΦY 2 4 (ΦF Xz g (N 2*1) 1 (λ a3=>(2:Int)≠0/\let a4:=λ a4=>ΦR (O 1-1+1)/\(1+1+1)*64<=M/\ΦY 3 4 (ΦF Xz g (N 3*1) 1 (λ a5=>(4:Int)≠0/\let a6:=r m++[Value.int .i64 1,I 0,I 0,I 0,I a0,I a1,ΦT a2]++a4;J (Int.tmod a5 4=0) (ΦR (O (1+1+1)-1)/\(1+1+1+1)*64<=M/\ΦR (O (1+1+1+1)-1)/\e (1+1+1+1) (a6++w) (O (1+1+1+1)-1) z) (ΦR (O (1+1+1)-1)/\e (1+1+1) a6 (O (1+1+1)-1) z)));J (Int.tmod a3 2=0) (a4 u) (a4 v)))))));J (s=t) (ΦY 2 4 (ΦF Xz g (N 2*1) 1 (λ y=>(5:Int)≠0/\J (Int.tmod y 5<3) ((1+1)*64<=M/\ΦY 2 4 (ΦF Xz g (N 2*1) 1 (λ z=>(2:Int)≠0/\let a0:=λ a0=>ΦR (O 1-1+1)/\(1+1+1)*64<=M/\ΦY 3 4 (ΦF Xz g (N 3*1) 1 (λ a1=>(4:Int)≠0/\J (Int.tmod a1 4=0) (ΦR (O (1+1+1)-1)/\(1+1+1+1)*64<=M/\ΦR (O (1+1+1+1)-1)/\e (1+1+1+1) (r m++r p++a0++w) (O (1+1+1+1)-1) o) (ΦR (O (1+1+1)-1)/\e (1+1+1) (r m++r p++a0) (O (1+1+1)-1) o)));J (Int.tmod z 2=0) (a0 u) (a0 v)))) x))) x))))))))))) ?_;dsimp only[aQ,aR,eQ,C,ΦE,ΦF,M,N,ΦR,ΦX,ΦY,O,J];have L:2=n:=v.len;subst L;simp only[ae]at w p T B;refine⟨by decide,by decide,_,rfl,_,wrap_i64 w.1 (by omega),by decide,by decide,_,rfl,_,wrap_i64 p.1 (by omega),_,CV w.1 (by decide) (by decide),?_⟩;rintro Y P e ⟨r,s⟩;refine⟨_,CV p.1 (by decide) (by decide),?_⟩;rintro H2 Q g ⟨E,G⟩;have l:=aa P Q;have m:ae .i64 e:=by omega
 have D:ae .i64 g:=by omega
 obtain⟨Z,F,_,o,rfl,U⟩:=v.at l r s;obtain⟨V,t,_,u,rfl,r2⟩:=v.at l E G;refine⟨by decide,by decide,by decide,by decide,_,rfl,by decide,λ h=>⟨by decide,by decide,pf2 m rfl rfl⟩,λ h=>⟨F,r,s,_,o,t,E,G,_,u,?_⟩⟩;have j:∀{R:Heap} {x y:Int} {z:ByteArray},gv ⟨x,y,z⟩->Row R [Φi 1,Φi 0,Φi 0,Φi 0,Φi x,Φi y,ΦT z] [(⟨1,0,0,0,⟨x,y,z⟩⟩:Xp)]:=λ i=>qG (by decide) (by decide) (by decide) (by decide) i;refine⟨λ _=>⟨by decide,by decide,_,rfl,by decide,λ _=>?_,λ _=>?_⟩,λ _=>?_⟩
 .refine⟨by decide,by decide,by decide,_,rfl,by decide,λ _=>?_,λ _=>?_⟩;all_goals
   refine⟨by decide,by decide,by decide,by decide,_,rfl,by decide,λ _=>⟨by decide,by decide,by decide,?_⟩,λ _=>⟨by decide,?_⟩⟩
   .exact Zu m (rp D) dD (Ky (.inr rfl)) (by decide) rfl rfl rfl rfl
   .exact Zt m (rp D) dD (Ky (.inr rfl)) (by grind) rfl rfl rfl
 all_goals
  refine⟨F,r,s,_,o,by simp,by simp,_,rfl,_,BF B.1,?_⟩;rintro W X x y z i;refine⟨by simp,by simp,by simp,_,rfl,by simp,λ _=>?_,λ _=>?_⟩;all_goals
   refine⟨by grind,by simp,by simp,by simp,_,rfl,by simp,λ _=>⟨by grind,by simp,by grind,?_⟩,λ _=>⟨by grind,?_⟩⟩
   .exact Zu m (j i) i (Ky (.inl rfl)) (by simp) rfl rfl rfl rfl
   .exact Zt m (j i) i (Ky (.inl rfl)) (by simp) rfl rfl rfl
end
section
variable {a c:Int}{b:Heap}{d:bc}{e:D'}{f:Nat}
abbrev shE:cj:=⟨false,[(true,[.int .i64,.str,.sl,.int .i64,.int .i64,.sl,.int .i64,.sl,.str,.sl,.sl,.sl,.sl,.int .i64,.str,.int .i64])]⟩
def Uw (i:Int)(p:ByteArray)(s:D')(u v:Nat)(h w:Int)(a:D')(g j:Nat)(y:Int)(z:D')(r C:Nat)(b:ByteArray)(A:D')(n c:Nat)(B:D')(m d:Nat)(E:D')(k e:Nat)(F:D')(l f:Nat)(t:Int)(q:ByteArray)(o:Int)(H:Heap):Prop:=
 ∃x:Ed,qj H ⟨i,p,s,u,v,h,w,a,g,j,y,z,r,C,b,A,n,c,B,m,d,E,k,e,F,l,f,t,q,o⟩ x/\GE x
def mt:ByteArray:=⟨⟨[]⟩⟩
def Rg:ae .i64 0:=by decide
def VY:str mt:=abi _
def PW.r (h:PW d):ae .i64 d.lo/\ae .i64 d.hi:=by
 obtain⟨a,b,c⟩:=h;simp[ae];omega
def Ux {t:ByteArray}{c:Nat}{l:List az}(g:Sl b e f c l)(a:PW d)(i:∀v∈l,v2 v):
  Uw 1 t e f c d.lo d.hi none 0 0 0 none 0 0 ⟨⟨[]⟩⟩ none 0 0 none 0 0 none 0 0 none 0 0 0 ⟨⟨[]⟩⟩ 0 b:=
 ⟨⟨1,t,l,d,[],0,[],kr,⟨0,mt,0⟩⟩,⟨rfl,rfl,g,rfl,rfl,Sl.nil,rfl,Sl.nil,ba,rfl,rfl,rfl,a.r.1,a.r.2,Rg,Rg,VY⟩,
  ⟨.inl rfl,λ h=>by grind,λ _=>a,i,λ y j=>by grind⟩⟩
def Rh {t:ByteArray}{c:cz}(g:a=5\/a=6)(e:ae .i64 c.id)(d:str c.name)(f:ae .i64 c.kind):
  Uw a t none 0 0 0 0 none 0 0 0 none 0 0 ⟨⟨[]⟩⟩ none 0 0 none 0 0 none 0 0 none 0 0 c.id c.name c.kind b:=
 ⟨⟨a,t,[],⟨0,0⟩,[],0,[],kr,c⟩,⟨rfl,rfl,Sl.nil,rfl,rfl,Sl.nil,rfl,Sl.nil,ba,rfl,rfl,rfl,Rg,Rg,e,f,d⟩,
  ⟨by grind,λ h=>absurd (show a=2\/a=3 from h) (by omega),λ h=>absurd (show a<=3 from h) (by omega),λ v i=>(by grind),λ y j=>by grind⟩⟩
def Uy {t:ByteArray}{B:D'}{h m g:Nat}{j:List Xp}{i:List xP}(z:a=2\/a=3)(x:Sl b e f h j)(o:GX j)(u:c= -1\/0<=c/\c<j.length)(w:Sl b B m g i)(q:Rx j i)(l:PW d):
  Uw a t none 0 0 d.lo d.hi e f h c B m g ⟨⟨[]⟩⟩ none 0 0 none 0 0 none 0 0 none 0 0 0 ⟨⟨[]⟩⟩ 0 b:=
 ⟨⟨a,t,[],d,j,c,i,kr,⟨0,mt,0⟩⟩,⟨rfl,rfl,Sl.nil,rfl,rfl,x,rfl,w,ba,rfl,rfl,rfl,l.r.1,l.r.2,Rg,Rg,VY⟩,
  ⟨by grind,λ _=>⟨o.ok,u,q⟩,λ _=>l,λ v C=>(by grind),λ y s=>(o.k y s).1⟩⟩
def z0 (c:ByteArray):Iq:=⟨1,c,none,0,0,0,0,none,0,0,0,none,0,0,⟨⟨[]⟩⟩,none,0,0,none,0,0,none,0,0,none,0,0,0,⟨⟨[]⟩⟩,0⟩
def Uz (c:0<=a)(b:a<9):∃e,win [Φi 1,Φi 1,Φi 1,Φi 1,Φi 3,Φi 3,Φi 2,Φi 5,Φi 6] (Int.toNat a*1) 1=[Φi e]/\(e=1\/e=2\/e=3\/e=5\/e=6):=by
 obtain rfl | rfl | rfl | rfl | rfl | rfl | rfl | rfl | rfl:a=0\/a=1\/a=2\/a=3\/a=4\/a=5\/a=6\/a=7\/a=8:=by omega
 all_goals exact⟨_,rfl,by decide⟩
def SR (i:Cells b e 0 [Φi a,Φi c])(j:1<=f)(d:ae .i64 a)(g:ae .i64 c):Sl b e 1 f [(⟨a,c⟩:xP)]:=by
 have h:Rep.rel b _ (⟨a,c⟩:xP):=⟨rfl,d,g⟩;exact(Row.one h).sl (ah _) i rfl j (by decide) (by simp)
def SS {H:Heap}{t:Int}{s:ByteArray}(g:0<=t)(e:t<=10)(d:gv ⟨a,c,s⟩):
  Row H [Φi 2,Φi 0,Φi 0,Φi 0,Φi 0,Φi 0,.string ⟨⟨[]⟩⟩,Φi 1,Φi 0,Φi 0,Φi 0,Φi a,Φi c,ΦT s,Φi 3,Φi t,Φi (t+1),Φi 0,Φi 0,Φi 0,.string ⟨⟨[]⟩⟩]
   [(⟨2,0,0,0,n0⟩:Xp),⟨1,0,0,0,⟨a,c,s⟩⟩,⟨3,t,t+1,0,n0⟩]:=
 ((rp (f:=0) (by decide)).append (qG (k:=⟨a,c,s⟩) (by decide) (by decide) (by decide) (by decide) d)).append (qG (k:=n0) (by decide) (by simp[ae];omega) (by simp[ae];omega) (by decide) dD)
def UA {a:List Xp}{v:az}(c:GX a)(e:a.length<=4)(d:gv v):GX (a++[(⟨2,0,0,0,n0⟩:Xp),⟨1,0,0,0,v⟩,⟨3,a.length,a.length+1,0,n0⟩]):=by
 refine c.app ⟨Ky (.inr rfl),Ky (.inl rfl),Uv (.inl rfl) (by simp) (by omega) (by omega) (by omega),trivial⟩ (λ x b=>?_) (by grind);simp at b;rcases b with rfl | rfl | rfl
 .exact dD
 .grind
 .exact dD
def CW {x0 x1 F x3 x4 x5 x6 x7:Int}{H:Heap}(h0:ae .u16 x0)(h1:ae .u16 x1)(P:ae .u16 F)(h3:ae .u16 x3)(h4:ae .u16 x4)(h5:ae .u16 x5)(h6:ae .u16 x6)(h7:ae .u16 x7):
  ZB 28 [.agg ⟨[Φu x0,Φu x1,Φu F,Φu x3,Φu x4,Φu x5,Φu x6,Φu x7]⟩] H shE Uw:=by
 refine ΦK 3 {aj [9] [(10,[2,4,6,8,11,13,15,16,19,0]),(15,ab 4 9 [3,23,24,26,28,30,33,34,37,0]),(20,ab 2 8 [22,24,26,28,19,20,31,33,34,37,0])] [(8,[ag 5,.box 3 48 [.int .i64,.str,.row 151 133,.int .i64,.int .i64,.sl,.int .i64,.sl,.str,.sl,.sl,.sl,.sl,.int .i64,.str,.int .i64]])]with res:=wj [(26,⟨false,[(false,[.row 149 133])]⟩),(72,⟨true,[(false,[.row 150 142]),(false,[.int .i64])]⟩)]} (λ a=>ΦY 1 8 (let b:=[.int .u16 x0,.int .u16 x1,.int .u16 F,.int .u16 x3,.int .u16 x4,.int .u16 x5,.int .u16 x6,.int .u16 x7];ΦF Xz b (N 1*1) 1 λ c=>C YE 69 [.int .u16 c] H λ d e=>L [Value.int .i64 0,I 0,I 0,I 0,I 0,I 0,I 0,I 0,I 0]=9/\ΦY 0 8 (ΦF Xz b (N 0*1) 1 (λ f=>(9:Int)≠0/\ΦY (Int.tmod f 9) 9 (ΦF ZE [I 1,I 1,I 1,I 1,I 3,I 3,I 2,I 5,I 6] (N (Int.tmod f 9)*1) 1 (λ g=>J (g=1) (ΦY 2 8 (ΦF Xz b (N 2*1) 1 (λ h=>ΦY 3 8 (ΦF Xz b (N 3*1) 1 (λ i=>C Ze 58 [.int .u16 h,.int .u16 i] d λ j k l=>W Yp j (λ m=>m 2 g e k l 0 0 none 0 0 0 none 0 0 ⟨⟨[]⟩⟩ none 0 0 none 0 0 none 0 0 none 0 0 0 ⟨⟨[]⟩⟩ 0 j) λ m n o p q r s t u v w x y z a0 a1 a2 a3 a4 a5 a6 a7 a8 a9 b0 b1 b2 b3 b4 b5 b6 b7 b8=>ΦY 4 8 (ΦF Xz b (N 4*1) 1 (λ b9=>(5:Int)≠0/\∃c0:Int,IntKind.wrap IntKind.i64 (Int.tmod b9 5)=c0/\(3:Int)≠0/\ΦR (Int.tdiv c0 3)/\ΦR (2+Int.tdiv c0 3)/\J (p<2+Int.tdiv c0 3) (ΦY 5 8 (ΦF Xz b (N 5*1) 1 (λ c1=>C ZU 70 [I 0,.int .u16 c1] o λ c2 c3 c4 c5=>(s+1)*32<=M/\ΦR (p+1)/\let c6:=t++[Value.int .i64 c3,I c4,ΦT c5];m (p+1) q r (s+1) c6 u v w x y z a0 a1 a2 a3 a4 a5 a6 a7 a8 a9 b0 b1 b2 b3 b4 b5 b6 b7 b8 c2/\n (p+1) q r (s+1) c6 u v w x y z a0 a1 a2 a3 a4 a5 a6 a7 a8 a9 b0 b1 b2 b3 b4 b5 b6 b7 b8<n p q r s t u v w x y z a0 a1 a2 a3 a4 a5 a6 a7 a8 a9 b0 b1 b2 b3 b4 b5 b6 b7 b8))) (ΦY 6 8 (ΦF Xz b (N 6*1) 1 (λ c1=>ΦY 7 8 (ΦF Xz b (N 7*1) 1 (λ c2=>C Zf 71 [.int .u16 c1,.int .u16 c2] o λ c3 c4 c5=>U c3 t s λ c6 c7 c8=>a q r c6 s c7 c4 c5 w x y z a0 a1 a2 a3 a4 a5 a6 a7 a8 a9 b0 b1 b2 b3 b4 b5 b6 b7 b8 c8)))))))))))) (let h:=ΦY 6 8 (ΦF Xz b (N 6*1) 1 (λ h=>ΦY 7 8 (ΦF Xz b (N 7*1) 1 (λ i=>C Zf 71 [.int .u16 h,.int .u16 i] d λ j k l=>ΦY 2 8 (ΦF Xz b (N 2*1) 1 (λ m=>ΦY 3 8 (ΦF Xz b (N 3*1) 1 (λ n=>ΦY 4 8 (ΦF Xz b (N 4*1) 1 (λ o=>ΦY 5 8 (ΦF Xz b (N 5*1) 1 (λ p=>C ZT 73 [] j λ q r s t=>C Zg 72 [S none 0 0,S r s t,ΦG [.int .u16 m,.int .u16 n,.int .u16 o,.int .u16 p]] q λ u v w x=>ΦY 4 8 (ΦF Xz b (N 4*1) 1 (λ y=>(4:Int)≠0/\let z:=λ(z a0:Int) a1=>w++[Value.int .i64 2,I 0,I 0,I 0,I 0,I 0,ΦT ⟨⟨[]⟩⟩,I 1,I 0,I 0,I 0,I z,I a0,ΦT a1,I 3,I (O v),I (O v+1),I 0,I 0,I 0,ΦT ⟨⟨[]⟩⟩];let a0:=λ(a0:Int)=>[I a0,I (O v+1)];let a1:=λ a1 (a2 a3:Int) a4 (a5:Int) a6 (a7:Int)=>let a8:=U a1 (z a2 a3 a4) (v+3) λ a8 a9 b0=>U b0 (a0 a5) 1 λ b1 b2 b3=>a6 a8 a9 b1 b2 b3;J (Int.tmod a7 2=0) (ΦY 5 8 (ΦF Xz b (N 5*1) 1 (λ a9=>(3:Int)≠0/\J (Int.tmod a9 3=0) (ΦR (O v+2)/\ΦY 0 1 (N 0*2+1+1<=L [Value.int .i64 a5,I (O v+1)]/\U a1 (z a2 a3 a4) (v+3) (λ b0 b1 b2=>U b2 (av (a0 a5) (N 0*2+1) [I (O v+2)]) 1 λ b3 b4 b5=>a6 b0 b1 b3 b4 b5))) a8))) a8;J (Int.tmod y 4=3) (J (g=3) (ΦY 2 8 (ΦF Xz b (N 2*1) 1 (λ a2=>∃a3:Int,IntKind.wrap IntKind.i64 a2=a3/\ΦY 5 8 (ΦF Xz b (N 5*1) 1 (λ a4=>ΦR (O v+1)/\C ZU 70 [I a3,.int .u16 a4] u λ a5 a6 a7 a8=>(v+3)*64<=M/\ΦY 2 8 (ΦF Xz b (N 2*1) 1 (λ a9=>(2:Int)≠0/\∃b0:Int,IntKind.wrap IntKind.i64 (Int.tmod a9 2)=b0/\ΦR (O v+1)/\ΦY 2 8 (ΦF Xz b (N 2*1) 1 (λ b1=>(2:Int)≠0/\let b2:=λ b2 (b3:Nat) b4 (b5:Nat) b6=>a g e none 0 0 k l b2 (v+3) b3 (-1) b4 1 b5 ⟨⟨[]⟩⟩ none 0 0 none 0 0 none 0 0 none 0 0 0 ⟨⟨[]⟩⟩ 0 b6;a1 a5 a6 a7 a8 b0 b2 b1))))))))) (U u w v (λ a2 a3 a4=>a g e none 0 0 k l a2 v a3 (-1) none 0 0 ⟨⟨[]⟩⟩ none 0 0 none 0 0 none 0 0 none 0 0 0 ⟨⟨[]⟩⟩ 0 a4))) (J (g=3) (ΦY 2 8 (ΦF Xz b (N 2*1) 1 (λ a2=>∃a3:Int,IntKind.wrap IntKind.i64 a2=a3/\ΦY 5 8 (ΦF Xz b (N 5*1) 1 (λ a4=>ΦR (O v+1)/\C ZU 70 [I a3,.int .u16 a4] u λ a5 a6 a7 a8=>(v+3)*64<=M/\ΦY 2 8 (ΦF Xz b (N 2*1) 1 (λ a9=>(2:Int)≠0/\∃b0:Int,IntKind.wrap IntKind.i64 (Int.tmod a9 2)=b0/\ΦR (O v+1)/\ΦY 2 8 (ΦF Xz b (N 2*1) 1 (λ b1=>(2:Int)≠0/\let b2:=λ b2 (b3:Nat) b4 (b5:Nat) b6=>a g e none 0 0 k l b2 (v+3) b3 x b4 1 b5 ⟨⟨[]⟩⟩ none 0 0 none 0 0 none 0 0 none 0 0 0 ⟨⟨[]⟩⟩ 0 b6;a1 a5 a6 a7 a8 b0 b2 b1))))))))) (U u w v (λ a2 a3 a4=>a g e none 0 0 k l a2 v a3 x none 0 0 ⟨⟨[]⟩⟩ none 0 0 none 0 0 none 0 0 none 0 0 0 ⟨⟨[]⟩⟩ 0 a4)))))))))))))))));let i:=J (g=5) (ΦY 2 8 (ΦF Xz b (N 2*1) 1 (λ i=>(3:Int)≠0/\∃j:Int,IntKind.wrap IntKind.i64 (Int.tmod i 3)=j/\ΦR (2+j)/\C YD 74 [I (2+j)] d λ k l m n=>a g e none 0 0 0 0 none 0 0 0 none 0 0 ⟨⟨[]⟩⟩ none 0 0 none 0 0 none 0 0 none 0 0 l m n k))) (J (g=6) (ΦY 2 8 (ΦF Xz b (N 2*1) 1 (λ i=>(4:Int)≠0/\∃j:Int,IntKind.wrap IntKind.i64 (Int.tmod i 4)=j/\ΦR (2+j)/\a g e none 0 0 0 0 none 0 0 0 none 0 0 ⟨⟨[]⟩⟩ none 0 0 none 0 0 none 0 0 none 0 0 (2+j) ⟨⟨[]⟩⟩ 0 d))) (a g e none 0 0 0 0 none 0 0 0 none 0 0 ⟨⟨[]⟩⟩ none 0 0 none 0 0 none 0 0 none 0 0 0 ⟨⟨[]⟩⟩ 0 d));J (g=3) (J (g=3) h i) (J (g=2) h i)))))))) ?_;dsimp only[PL,aQ,aR,aW,eQ,C,ΦF,L,M,N,ΦR,W,ΦY,O,J];have d9:=dM h0.1 (m:=9) (by decide);have d5:=dM h4.1 (m:=5) (by decide);have d3:=dM P.1 (m:=3) (by decide);have d4:=dM P.1 (m:=4) (by decide);have d2:=dM P.1 (m:=2) (by decide);have z:=SP h6.1 h7.1;have g2:=P;simp only[ae]at P;refine⟨by decide,by decide,_,rfl,_,zB h1.1,?_⟩;rintro H1 l1 c ⟨-,b2⟩;obtain⟨e,he,b3⟩:=Uz d9.1 d9.2;refine⟨by decide,by decide,by decide,_,rfl,by decide,d9.1,d9.2,e,he,λ V=>?_,λ V=>?_⟩
 .have V:=aab V;subst V;refine⟨by decide,by decide,_,rfl,by decide,by decide,_,rfl,_,Kw P.1 h3.1,?_⟩;rintro H2 l2 m xs ⟨l,rfl,y,hl,o⟩;refine⟨λ i k t n xs vf vt xA xn xc ep sA sn sc nm A1 n1 c1 A2 n2 c2 A3 n3 c3 A4 n4 c4 ci cn ck H'=>2<=i/\i<=3/\(∃l:List az,n=l.length/\Row H' xs l/\l.length<=i/\∀v∈l,v2 v)/\(⟨k,t,none,0,0,vf,vt,xA,xn,xc,ep,sA,sn,sc,nm,A1,n1,c1,A2,n2,c2,A3,n3,c3,A4,n4,c4,ci,cn,ck⟩:Iq)=z0 c,
   λ i _ _ _ _ _ _ _ _ _ _ _ _ _ _ _ _ _ _ _ _ _ _ _ _ _ _ _ _ _=>(4-i).toNat,⟨by omega,by omega,⟨l,rfl,y,by omega,o⟩,rfl⟩,?_⟩
  rintro H3 l3 i k t n xs vf vt xA xn xc ep sA sn sc nm A1 n1 c1 A2 n2 c2 A3 n3 c3 A4 n4 c4 ci cn ck ⟨i0,i1,⟨l,rfl,y,hl,o⟩,hz⟩;simp only[Iq.mk.injEq,z0,true_and,and_true]at hz;obtain⟨rfl,rfl,rfl,rfl,rfl,rfl,rfl,rfl,rfl,rfl,rfl,rfl,rfl,rfl,rfl,rfl,rfl,rfl,rfl,rfl,rfl,rfl,rfl,rfl,rfl,rfl,rfl⟩:=hz;dsimp only;have q:(x4.tmod 5).tdiv 3=(x4.tmod 5)/3:=Int.tdiv_eq_ediv_of_nonneg d5.1;refine⟨by decide,by decide,_,rfl,by decide,_,wrap_i64 d5.1 (by omega),by decide,by simp only[ae];omega,by simp only[ae];omega,λ a1=>?_,λ b4=>?_⟩
  .have a1:=aab a1;refine⟨by decide,by decide,_,rfl,_,gJ h5.1,?_⟩;rintro H4 l4 a b s G;refine⟨by omega,by simp only[ae];omega,⟨by omega,by omega,⟨l++[⟨a,b,s⟩],by simp,(y.mono l4).append (Row.one (T:=az) (t:=⟨a,b,s⟩) ⟨rfl,G.ok⟩),by simp;omega,λ v j=>?_⟩,rfl⟩,by omega⟩;rcases aam.1 j with j | j
   .exact o v j
   .rw[aaD.1 j];exact G.1
  .refine⟨by decide,by decide,_,rfl,by decide,by decide,_,rfl,_,wK h6.1 h7.1,?_⟩;rintro H4 l4 lo hi X;intro A c2 R l5 hc hn;have:=Ux (t:=t) (y.sl (aa l4 l5) hc rfl hn (by show l.length*32<=_;omega) (by omega)) z o;rw[<-X]at this;exact this
 have V:=aac V;have a0:∀{H':Heap} {A B:D'} {n c' m d:Nat} {f:List Xp} {a3:List xP} {lo hi r:Int},(⟨lo,hi⟩:bc)=Ni x6 x7->(e=2\/e=3)->Sl H' A n c' f->GX f->(r= -1\/0<=r/\r<f.length)->Sl H' B m d a3->Rx f a3->Uw e c none 0 0 lo hi A n c' r B m d ⟨⟨[]⟩⟩ none 0 0 none 0 0 none 0 0 none 0 0 0 ⟨⟨[]⟩⟩ 0 H':=
  λ X hk hx G y hs ho=>by
   have:=Uy (t:=c) hk hx G y hs ho z;rw[<-X]at this;exact this
 refine⟨λ Q=>⟨λ _=>?f1,λ k=>?x⟩,λ Q=>⟨λ k2=>?f2,λ k2=>?g⟩⟩;case x=>rw[Q]at k;cases k
 case f1 | f2=>
  have D:e=2\/e=3:=by first | exact .inr (aab Q) | exact .inl (aab k2)
  refine⟨by grind,by grind,_,rfl,by grind,by grind,_,rfl,_,wK h6.1 h7.1,?_⟩;rintro H2 l2 lo hi X;refine⟨by grind,by grind,_,rfl,by grind,by grind,_,rfl,by grind,by grind,_,rfl,by grind,by grind,_,rfl,_,Kx,?_⟩;rintro H3 l3 A n c' hK;refine⟨_,AK hK g2 h3 h4 h5,?_⟩;rintro H4 l4 t xs v ⟨f,rfl,y,G,hl,v0,v1⟩;have b1:∀{r:Int} {A5:Option _} {c5:Nat} {R:Heap},¬e=3->(r= -1\/0<=r/\r<f.length)->Heap.le _ _->Cells R A5 0 _->f.length<=c5->Uw e c _ 0 0 _ _ _ _ _ r none 0 0 _ _ 0 0 _ 0 0 _ 0 0 _ 0 0 0 _ 0 _:=
   λ h3 E a7 hc hn=>a0 X D (y.sl a7 hc rfl hn (by show f.length*64<=_;omega) (by omega)) G E Sl.nil (λ a ha=>by grind)
  have a2:∀{r F u a b:Int} {s:ByteArray} {A5 A6:Option _} {c5 c6:Nat} {R H6 H7:Heap},(r= -1\/0<=r/\r<f.length)->gv ⟨a,b,s⟩->Heap.le _ _->Heap.le R _->Cells _ A5 0 _->f.length+3<=c5->Heap.le _ _->Cells _ A6 0 [.int _ _,.int _ u]->1<=c6->ae _ F->0<=u->u<f.length+3->
    Uw e c _ 0 0 _ _ _ _ _ r _ 1 _ _ _ 0 0 _ 0 0 _ 0 0 _ 0 0 0 _ 0 H7:=λ {r F u a b s A5 A6 c5 c6 R H6 H7} E o a5 b0 a9 a8 a6 p w hx u0 u1=>by
   refine a0 X D ((((y.mono (aa a5 b0)).append (SS (H:=H6) (t:=f.length) (by simp) (by omega) o)).sl (ah _) a9 (by simp) a8 (by show(f.length+3)*64<=_;omega) (by grind)).mono a6) (UA G hl o) (E.imp id λ h=>⟨h.1,by grind⟩) (SR p w hx (by simp[ae];omega)) λ a ha=>?_;grind
  refine⟨by simp,by simp,_,rfl,by simp,λ _=>⟨λ Q=>?a,λ Q=>?b⟩,λ _=>⟨λ Q=>?c,λ Q=>?d⟩⟩;case b=>grind
  case d=>grind
  case a | c=>
   refine⟨by simp,by simp,_,rfl,_,wrap_i64 P.1 (by omega),by simp,by simp,_,rfl,by simp[ae];omega,_,gJ h5.1,?_⟩;rintro R l5 a b s o;have Y:ae .i64 (F.tmod 2):=by simp[ae];omega
   refine⟨by omega,by simp,by simp,_,rfl,by simp,_,wrap_i64 d2.1 (by omega),by simp[ae];omega,by simp,by simp,_,rfl,by simp,λ _=>⟨by simp,by simp,_,rfl,by simp,λ _=>⟨by simp[ae];omega,by simp,by simp,by simp,?_⟩,λ _=>?_⟩,λ _=>?_⟩;all_goals
    intro A5 c5 H6 l6 p w;intro A6 c6 H7 l7 Z a4;first
     | exact a2 (.inl rfl) o l5 l6 p w l7 Z a4 Y (by omega) (by omega)
     | exact a2 (.inr ⟨v0,v1⟩) o l5 l6 p w l7 Z a4 Y (by omega) (by simp)
 case g=>
  refine⟨λ k5=>⟨by simp,by simp,_,rfl,by simp,_,wrap_i64 d3.1 (by omega),by simp[ae];omega,_,wF (by omega) (by omega),?_⟩,λ k5=>⟨λ k6=>⟨by simp,by simp,_,rfl,by simp,_,wrap_i64 d4.1 (by omega),by simp[ae];omega,?_⟩,λ k6=>?_⟩⟩
  .rintro H2 l2 a b k ⟨-,r1,r2,r3⟩;exact Rh (c:=⟨a,b,k⟩) (.inl (aab k5)) r1 r2 r3
  .exact Rh (c:=⟨2+F.tmod 4,mt,0⟩) (.inr (aab k6)) (by simp[ae];omega) VY Rg
  grind
end
end Go.Vc
