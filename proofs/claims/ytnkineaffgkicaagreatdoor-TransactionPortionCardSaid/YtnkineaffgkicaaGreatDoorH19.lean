/- A part of the proof. -/
import Derived.Test.YtnkineaffgkicaaGreatDoorH18
set_option maxHeartbeats 0
set_option maxRecDepth 100000
set_option linter.unusedVariables false
set_option linter.defProp false
namespace Go.Vc
open Go
section
variable {a:cT}{b:List cT}{c:I'}{d:Int}
def Kj (v:List az):List (List az)->List (List az)
 |[]=>[v]
 | u::r=>if v=u then u::r else if bK v u= -1 then v::u::r else u::Kj v r
def Au {v x:List az}:∀{r:List (List az)},x∈Kj v r↔x=v\/x∈r
 |[]=>by simp[Kj]
 | u::r=>by
  unfold Kj;by_cases h:v=u
  .grind
  .rw[if_neg h];split
   .simp
   .simp[Au];grind
def HM {v:List az}:∀{r:List (List az)},oz r->oz (Kj v r)
 |[],_=>abz _ _
 | u::r,h=>by
  obtain⟨f,d⟩:=aaz.1 h;unfold Kj;by_cases e:v=u
  .grind
  .rw[if_neg e];split
   .rename_i c;refine aaz.2 ⟨λ x b=>?_,h⟩;rcases aaw.1 b with rfl | b
    .grind
    .exact aD.trans _ _ _ c (f x b)
   .refine aaz.2 ⟨λ x b=>?_,HM d⟩;rcases Au.1 b with rfl | b
    .have a:=aD.anti u x;have s:=aD.sign u x;have z:bK x u≠0:=λ h=>e (cR.1 h);omega
    grind
def bl (l:List aO)(a:I'):List (List az):=(bZ l a).foldr (λ k b=>Kj k.key b) []
def lV (l:List aO)(a:I'):oz (bl l a):=by
 unfold bl;induction bZ l _ with
 | nil=>exact List.Pairwise.nil
 | cons k r b=>exact HM b
def fE (l:List aO)(a:I'):cS (bl l a) l a:=by
 unfold cS bl;induction bZ l a with
 | nil=>simp
 | cons k r b=>
  intro v;rw[List.foldr_cons,Au];grind
def iW {l:List aO}{a:List (List az)}(d:oz a)(b:cS a l c):a=bl l c:=
 wW d (lV l c) λ v=>(b v).trans (fE l c v).symm
def ya (l:List aO)(a:I'):List cT:=(bl l a).flatMap (gI l a)
def eJ (l:List aO)(a:I'):List cT:=(bl l a).flatMap (rG l a)
def qB (l:List aO)(a:Int)(b:I'):List cT:=if a=1 then ya l b else if a=2 then eJ l b else[]
def gp (l:List cT)(d:Int)(x:I'):Prop:=∃v∈l,Ud v d/\v.ids=x
structure fa (l:List cT):Prop where
 chain:jT l
 pos:∀v∈l,v.p.lo<v.p.hi
def Kk:∀{r:List cT},jT (a::r)->jT r
 |[],_=>trivial
 | _::_,h=>h.2
def HN {u:cT}:∀{r:List cT},jT (u::r)->(∀v∈r,v.p.lo<v.p.hi)->∀v∈r,u.p.hi<=v.p.lo
 |[],_,_,v,a=>by grind
 | w::r,h,hp,v,a=>by
  rcases aaw.1 a with rfl | a
  .exact h.1.1
  .have:=HN h.2 (λ v a=>hp v (by grind)) v a;have:=h.1.1;grind
def fa.tail (h:fa (a::b)):fa b:=⟨Kk h.chain,λ v c=>h.pos v (by grind)⟩
def fa.ge (h:fa (a::b)):∀v∈b,a.p.hi<=v.p.lo:=HN h.chain λ v c=>h.pos v (by grind)
def fa.head (h:fa (a::b))(f:gp (a::b) d c)(i:d<a.p.hi):Ud a d/\a.ids=c:=by
 obtain⟨w,e,g,j⟩:=f;rcases aaw.1 e with rfl | e
 .grind
 .have:=h.ge w e;have:=g.1;omega
def fa.first (h:fa (a::b))(g:gp (a::b) d c):a.p.lo<=d:=by
 obtain⟨w,e,f,i⟩:=g;rcases aaw.1 e with rfl | e
 .exact f.1
 .have:=h.ge w e;have:=h.pos a (by simp);have:=f.1;omega
def fa.To {v:cT}{s:List cT}(c:fa (a::b))(m:fa (v::s))(h:∀d x,gp (v::s) d x->gp (a::b) d x)(j:a.p.lo=v.p.lo)(l:a.ids=v.ids):v.p.hi<=a.p.hi:=by
 refine Classical.byContradiction λ z=>?_;have o:=c.pos a (by simp);have i:gp (v::s) a.p.hi _:=⟨v,by simp,u' (by omega),rfl⟩;obtain⟨w,g,f,q⟩:=h _ _ i;rcases aaw.1 g with rfl | g
 .have:=f.2;omega
 .rcases b with _ |⟨k,b⟩
  .grind
  .rcases aaw.1 g with rfl | e
   .have:=c.chain.1;exact this.2 ⟨by have:=this.1;have:=f.1;omega,by grind⟩
   .have t:=c.ge k (by simp);have y:=c.tail.ge w e;have n:=c.pos k (by simp);have:=f.1;omega
def CO:∀{a b:List cT},fa a->fa b->(∀d x,gp a d x↔gp b d x)->a=b
 |[],[],_,_,_=>rfl
 |[],v::s,_,hb,h=>by
  obtain⟨w,l,-⟩:=(h _ _).2 ⟨v,by simp,⟨abt _,hb.pos v (by simp)⟩,rfl⟩;grind
 | u::r,[],ha,_,h=>by
  obtain⟨w,l,-⟩:=(h _ _).1 ⟨u,by simp,⟨abt _,ha.pos u (by simp)⟩,rfl⟩;grind
 | u::r,v::s,ha,hb,h=>by
  have y:=ha.pos u (by simp);have A:=hb.pos v (by simp);have t:gp (u::r) _ _:=⟨u,by simp,⟨abt _,y⟩,rfl⟩;have B:gp (v::s) _ _:=⟨v,by simp,⟨abt _,A⟩,rfl⟩;have i:u.p.lo=v.p.lo:=by
   have C:=hb.first ((h _ _).1 t);have D:=ha.first ((h _ _).2 B);omega
  have j:=((hb.head ((h _ _).1 t) (by omega)).2).symm;have q:u.p.hi=v.p.hi:=by
   have C:=ha.To hb (λ d x g=>(h d x).2 g) i j;have D:=hb.To ha (λ d x g=>(h d x).1 g) i.symm j.symm;omega
  have z:=Uj.2 ⟨i,q,j⟩;congr 1;refine CO ha.tail hb.tail λ d x=>⟨λ g=>?_,λ g=>?_⟩
  .obtain⟨w,l,k,o⟩:=g;have m:=ha.ge w l;obtain⟨n,c,e,f⟩:=(h d x).1 ⟨w,by grind,k,o⟩;rcases aaw.1 c with rfl | c
   .have:=e.2;have:=k.1;omega
   .exact⟨n,c,e,f⟩
  .obtain⟨w,l,k,o⟩:=g;have m:=hb.ge w l;obtain⟨n,c,e,f⟩:=(h d x).2 ⟨w,by grind,k,o⟩;rcases aaw.1 c with rfl | c
   .have:=e.2;have:=k.1;omega
   .exact⟨n,c,e,f⟩
def CP {v:cT}(h:fa b)(r:v.p.lo<v.p.hi)(n:∀u,b.getLast?=some u->u.p.hi<=v.p.lo):
  fa (cG b v)/\(∀u,(cG b v).getLast?=some u->u.p.hi=v.p.hi)/\∀d x,gp (cG b v) d x↔gp b d x\/(Ud v d/\v.ids=x):=by
 obtain⟨q,k⟩:=JC h.chain n;have f:(∀w∈cG b v,w.p.lo<w.p.hi)/\∀d x,gp (cG b v) d x↔gp b d x\/(Ud v d/\v.ids=x):=by
  have i:(∀w∈b++[v],w.p.lo<w.p.hi)/\∀d x,gp (b++[v]) d x↔gp b d x\/(Ud v d/\v.ids=x):=by
   refine⟨λ w a=>?_,λ d x=>?_⟩
   .rcases aam.1 a with a | a
    .exact h.pos w a
    grind
   .constructor
    .rintro⟨w,a,c⟩;rcases aam.1 a with a | a
     .exact .inl ⟨w,a,c⟩
     grind
    .rintro(⟨w,a,c⟩ | c)
     .exact⟨w,T' c⟩
     .exact⟨v,N' c⟩
  unfold cG;split
  .rename_i u o;obtain⟨s,rfl⟩:=abX.1 o;split
   .refine⟨λ w a=>?_,λ d x=>?_⟩
    .grind
    .constructor
     .rintro⟨w,a,c,e⟩;rcases aam.1 a with a | a
      .exact .inl ⟨w,by grind,c,e⟩
      .rw[aaD]at a;subst a;have j:=c.1;have g:=c.2;by_cases m:d<u.p.hi
       .exact .inl ⟨u,by simp,⟨j,m⟩,e⟩
       .exact .inr ⟨(u' g),by grind⟩
     .rintro(⟨w,a,c,e⟩ |⟨c,e⟩)
      .rcases aam.1 a with a | a
       .exact⟨w,by grind,c,e⟩
       .rw[aaD]at a;subst a;exact⟨⟨⟨w.p.lo,v.p.hi⟩,w.ids⟩,by simp,⟨c.1,by have:=c.2;grind⟩,e⟩
      .exact⟨⟨⟨u.p.lo,v.p.hi⟩,u.ids⟩,by simp,⟨by have:=c.1;grind,c.2⟩,by grind⟩
   grind
  grind
 exact⟨⟨q,f.1⟩,k,f.2⟩
def iz (F:Int->Option (I')):I'->List cT
 | f::t::ps=>(match F f with | some x=>[⟨⟨f,t⟩,x⟩] | none=>[])++iz F (t::ps)
 | _=>[]
def oZ (F:Int->Option (I')):I'->List cT->List cT
 | f::t::ps,out=>oZ F (t::ps) (match F f with | some x=>cG out ⟨⟨f,t⟩,x⟩ | none=>out)
 | _,out=>out
def Ov:I'->Int->Prop
 | f::t::ps,d=>(f<=d/\d<t)\/Ov (t::ps) d
 | _,_=>False
def HO (F:Int->Option (I')):I'->Prop
 | f::t::ps=>(∀d,f<=d->d<t->F d=F f)/\HO F (t::ps)
 | _=>True
def Kl {a b d:Int}(k:a<=d)(h:d<b):∀{c:I'},c.Pairwise (λ x y=>x<y)->a∈c->b∈c->Ov c d
 |[],_,g,_=>by grind
 |[f],_,g,hb=>by
  grind
 | f::t::c,hp,g,hb=>by
  obtain⟨l,i⟩:=aaz.1 hp;by_cases j:d<t
  .refine .inl ⟨?_,j⟩;grind
  .right;have e:b∈t::c:=by
    grind
   rcases aaw.1 g with rfl | g
   .exact Kl (a:=t) (by omega) h i (by simp) e
   .exact Kl k h i g e
def HQ {F:Int->Option (I')}{d:Int}{x:I'}:∀{c:I'},HO F c->(gp (iz F c) d x↔Ov c d/\F d=some x)
 |[],_=>by simp[iz,gp,Ov]
 |[_],_=>by simp[iz,gp,Ov]
 | f::t::c,hc=>by
  obtain⟨k,h⟩:=hc;have i:=HQ (d:=d) (x:=x) h;have e:gp (iz F (f::t::c)) d x↔(f<=d/\d<t/\F f=some x)\/gp (iz F (t::c)) d x:=by
   rw[iz];constructor
   .rintro⟨v,a,b,g⟩;rcases aam.1 a with a | a
    .split at a
     .rw[aaD]at a;subst a;exact .inl ⟨b.1,b.2,by grind⟩
     grind
    .exact .inr ⟨v,a,b,g⟩
   .rintro(⟨b,g,j⟩ |⟨v,a,b⟩)
    .exact⟨⟨⟨f,t⟩,x⟩,by grind,⟨b,g⟩,rfl⟩
    .exact⟨v,adp _ a,b⟩
  rw[Ov];grind
def Av {F:Int->Option (I')}:∀{b:I'} {out:List cT},b.Pairwise (λ x y=>x<y)->HO F b->fa out->(∀u f,out.getLast?=some u->b.head?=some f->u.p.hi<=f)->
  fa (oZ F b out)/\∀d x,gp (oZ F b out) d x↔gp out d x\/(Ov b d/\F d=some x)
 |[],out,_,_,hn,_=>⟨hn,λ d x=>by simp[oZ,Ov]⟩
 |[_],out,_,_,hn,_=>⟨hn,λ d x=>by simp[oZ,Ov]⟩
 | f::t::b,out,hp,hc,hn,hl=>by
  obtain⟨w,l⟩:=hc;obtain⟨A,k⟩:=aaz.1 hp;have j:=A t (by simp);rw[oZ];rcases z:F f with _ | y
  .obtain⟨i,m⟩:=Av (out:=out) k l hn (λ u g e s=>by
    grind)
   refine⟨i,λ d x=>?_⟩;rw[Ov];grind
  .obtain⟨o,B,q⟩:=CP (v:=⟨⟨f,t⟩,y⟩) hn j (λ u e=>hl u f e rfl);obtain⟨i,m⟩:=Av (out:=cG _ _) k l o (λ u g e s=>by
    grind)
   refine⟨i,λ d x=>?_⟩;rw[m,q,Ov];constructor
   .rintro((h |⟨a,c⟩) |⟨a,c⟩)
    .grind
    .have r:=a.1;have n:=a.2;grind
    grind
   .rintro(h |⟨a | a,c⟩)
    .grind
    .rw[w d a.1 a.2,z]at c;exact .inl (.inr ⟨⟨a.1,a.2⟩,abC c⟩)
    grind
def CQ {S:List aO}{t c:Int}{ps:I'}(i:∀x∈S,x.p.lo∉ps\/x.p.lo<=d\/t<=x.p.lo)(h:∀x∈S,x.p.lo<=d\/t<=x.p.lo)(e:∀x∈S,x.p.hi<=d\/t<=x.p.hi)(k:d<=c)(j:c<t):S.filter (jV c)=S.filter (jV d):=by
 refine acg λ x g=>?_;have a:=h x g;have b:=e x g;unfold jV;rw[aaH,aY,aY];omega
end
end Go.Vc
namespace Go.Vc
open Go Go.Shelf Go.Proofs
section
variable {a:Heap}{b e:Nat}{c:List bc}{d:D'}{f g:Int}
def Hz (X:Sl a d b e c)(b0:ae .i64 f)(a9:ae .i64 g)(hb:(c.length+1)*16<=140737488355328):
  ZB 300 [S d b e,.agg ⟨[Φi f,Φi g]⟩] a fi (λ A' n' c' H'=>Sl H' A' n' c' (ins ⟨f,g⟩ c)):=by
 refine ΦK 1 (aj [] [(3,ab 2 14 [0]),(6,ab 2 14 [0]),(7,ab 2 9 [21,0]),(8,ab 2 9 [21,0]),(10,[2,4,10,12,14,7,9,17,18,0])] [(3,[.slot 5 false [.row 72 36],ag 6]),(6,[ag 6,.box 3 36 [.int .i64,.int .i64]])]) (λ c=>W ZG a (λ h=>h 0 [] 0 a) λ h i j k l m=>let n:=W Yn j (λ n=>n m f g j) λ n o p q r s=>let t:=0<=q/\q<=O b/\O b<=O e/\∀t:D',t=eM d e (N q) 2->(k+1)*16<=M/\∃u:G',Cells p t 0 u/\L u=(N (O b)-N q)*2/\(k+1+(N (O b)-N q))*16<=M/\U p (l++[Value.int .i64 r,I s]++u) (k+1+(N (O b)-N q)) λ v w x=>c v (k+1+(N (O b)-N q)) w x;J (q<O b) (ΦX d q b (ΦE ZE p d (N q*2+0) (λ u=>J (u<=s) (ΦX d q b (ΦE ZE p d (N q*2+0) (λ v=>ΦX d q b (ΦE ZE p d (N q*2+1) (λ w=>ΦR (q+1)/\n (q+1) (min r v) (max s w) p/\o (q+1) (min r v) (max s w)<o q r s))))) t))) t;J (m<O b) (ΦX d m b (ΦE ZE j d (N m*2+1) (λ o=>J (o<f) (ΦX d m b (ΦE ZK j d (N m*2) (λ p q=>(k+1)*16<=M/\ΦR (m+1)/\h (k+1) (l++[Value.int .i64 p,I q]) (m+1) j/\i (k+1) (l++[Value.int .i64 p,I q]) (m+1)<i k l m))) n))) n) ?_;dsimp only[PL,aW,eQ,ΦE,L,M,N,ΦR,W,ΦX,O,J];have b1:=X.bn;have b2:=X.len;have b3:=X.cap;have b5:=nR ⟨f,g⟩ c;refine⟨λ m P i H'=>0<=i/\i<=b/\∃w:List bc,Row H' P w/\w.length=m/\m=i.toNat/\ins ⟨f,g⟩ c=w++ins ⟨f,g⟩ (c.drop i.toNat),λ _ _ i=>b-i.toNat,y' ⟨[],rfl,rfl,rfl,rfl⟩,?_⟩;rintro Y l2 m P i ⟨h0,h1,w,hr,hm,b6,he⟩;have E:∀{Y:Heap},Heap.le a Y->Row Y P w->ins ⟨f,g⟩ c=w++sB f g (c.drop i.toNat)->
   ∃(B:Int->Int->Int->Heap->Prop),∃(a5:Int->Int->Int->Nat),B i f g Y/\∀(r:Heap),Heap.le Y r->∀(h C z:Int),B h C z r->
    (decide (h<(b:Int))=true->cD d/\0<=h/\h<(b:Int)/\∃Q:Int,Cells r d (h.toNat*2+0) [Φi Q]/\
     (decide (Q<=z)=true->cD d/\0<=h/\h<(b:Int)/\∃T:Int,Cells r d (h.toNat*2+0) [Φi T]/\cD d/\0<=h/\h<(b:Int)/\∃R:Int,Cells r d (h.toNat*2+1) [Φi R]/\
      ae .i64 (h+1)/\B (h+1) (min C T) (max z R) r/\a5 (h+1) (min C T) (max z R)<a5 h C z)/\
     (decide (Q<=z)=false->0<=h/\h<=(b:Int)/\(b:Int)<=(e:Int)/\∀x:D',x=eM d e h.toNat 2->(m+1)*16<=140737488355328/\∃o:G',Cells r x 0 o/\o.length=((b:Int).toNat-h.toNat)*2/\
      (m+1+((b:Int).toNat-h.toNat))*16<=140737488355328/\∀(y:D') (s:Nat) (p:Heap),Heap.le r p->Cells p y 0 (P++[Φi C,Φi z]++o)->m+1+((b:Int).toNat-h.toNat)<=s->
       Sl p y (m+1+((b:Int).toNat-h.toNat)) s (ins ⟨f,g⟩ c)))/\
    (decide (h<(b:Int))=false->0<=h/\h<=(b:Int)/\(b:Int)<=(e:Int)/\∀x:D',x=eM d e h.toNat 2->(m+1)*16<=140737488355328/\∃o:G',Cells r x 0 o/\o.length=((b:Int).toNat-h.toNat)*2/\
      (m+1+((b:Int).toNat-h.toNat))*16<=140737488355328/\∀(y:D') (s:Nat) (p:Heap),Heap.le r p->Cells p y 0 (P++[Φi C,Φi z]++o)->m+1+((b:Int).toNat-h.toNat)<=s->
       Sl p y (m+1+((b:Int).toNat-h.toNat)) s (ins ⟨f,g⟩ c)):=by
  intro Y l2 hr he;refine⟨λ j u v _=>i<=j/\j<=b/\ae .i64 u/\ae .i64 v/\sB f g (c.drop i.toNat)=sB u v (c.drop j.toNat),λ j _ _=>b-j.toNat,y' ⟨b0,a9,rfl⟩,?_⟩;rintro H3 l3 j u v ⟨j0,j1,ru,rv,hj⟩;have L3:=aa l2 l3;have a1:sB u v (c.drop j.toNat)=⟨u,v⟩::c.drop j.toNat->0<=j/\j<=(b:Int)/\(b:Int)<=(e:Int)/\∀x:D',x=eM d e j.toNat 2->(m+1)*16<=140737488355328/\∃o:G',Cells H3 x 0 o/\o.length=((b:Int).toNat-j.toNat)*2/\
      (m+1+((b:Int).toNat-j.toNat))*16<=140737488355328/\∀(y:D') (s:Nat) (p:Heap),Heap.le H3 p->Cells p y 0 (P++[Φi u,Φi v]++o)->m+1+((b:Int).toNat-j.toNat)<=s->
       Sl p y (m+1+((b:Int).toNat-j.toNat)) s (ins ⟨f,g⟩ c):=by
   intro a3;have hR:ins ⟨f,g⟩ c=w++[⟨u,v⟩]++c.drop j.toNat:=by rw[he,hj,a3];simp
   have a6:=aak List.length hR;simp only[aae,aav,abH,abb]at a6;refine u' ⟨j1,u' ?_⟩;rintro x rfl;have F:=(X.mono L3).sub (j:=j.toNat) (k:=b) (by omega) (by omega);rw[aag (by omega)]at F;obtain⟨ys,y1,y2⟩:=F.row;have y3:=y2.length;rw[abb]at y3;refine u' ⟨ys,y1,by rw[y3,b2,aaV];rfl,u' ?_⟩;intro y s p a8 a0 a2;rw[hR];have a4:Row H3 (P++[Φi u,Φi v]++ys) (w++[⟨u,v⟩]++c.drop j.toNat):=((hr.mono l3).append (Row.one (t:=(⟨u,v⟩:bc)) ⟨rfl,ru,rv⟩)).append y2;refine a4.sl a8 a0 ?_ a2 (by show _*16<=_;omega) (by omega);simp only[aae,aav,abH,abb];omega
  refine⟨λ q=>?_,λ G=>a1 (by rw[ai (aac G) b2];rfl)⟩;have q:=aab q;obtain⟨D,V,_,Z,⟨rfl,r1,r2⟩⟩:=X.at L3 (i:=j) (by omega) q;refine⟨V,by omega,q,_,Z.cy (k:=0) rfl,ΦD (λ b4=>?_) λ a7=>?_⟩
  .refine⟨V,by omega,q,_,Z.cy (k:=0) rfl,V,by omega,q,_,Z.cy (k:=1) rfl,by omega,y' ⟨by simp only[ae]at ru r1⊢;omega,by simp only[ae]at rv r2⊢;omega,?_⟩,by dsimp only;omega⟩;rw[hj,ak (by omega) D,sB,if_pos b4]
  .exact a1 (by rw[ak (by omega) D,sB,if_neg a7])
 refine ΦD (λ q=>?_) λ G=>?_
 .obtain⟨D,V,_,Z,⟨rfl,r1,r2⟩⟩:=X.at l2 h0 q;refine⟨V,h0,q,_,Z.cy (k:=1) rfl,ΦD (λ hl=>?_) λ hg=>?_⟩
  .refine⟨V,h0,q,_,_,Z,y' ⟨y' ⟨w++[c[i.toNat]],hr.append (Row.one ⟨rfl,r1,r2⟩),by simp;omega,u' ?_⟩,by dsimp only;omega⟩⟩;rw[he,ak h0 D,ins,if_pos hl];simp
  .exact E l2 hr (by rw[he,ak h0 D,ins,if_neg hg])
 .have hd:=ai G b2;exact E l2 hr (by rw[he,hd];rfl)
def Ag (o:Sl a d b e c):ZB 230 [S d b e] a fi (λ m h j s=>Sl s m h j (norm c)):=by
 refine ΦK 0 (aj [15] [] [(3,[.slot 3 false [.sl],ag 4])]) (λ c=>W XJ a (λ e=>e none 0 0 0 a) λ e f g h i j k=>J (k<O b) (ΦX d k b (ΦE ZK g d (N k*2) (λ l m=>C ZO 151 [ΦG [I l,I m]] g λ n o=>ΦQ o (ΦX d k b (ΦE ZK n d (N k*2) (λ p q=>C ZT 300 [S h i j,ΦG [I p,I q]] n λ r s t u=>ΦR (k+1)/\e s t u (k+1) r/\f s t u (k+1)<f h i j k))) (ΦR (k+1)/\e h i j (k+1) n/\f h i j (k+1)<f h i j k)))) (c h i j g)) ?_;dsimp only[PL,aQ,aR,aW,eQ,C,ΦE,N,ΦQ,ΦR,W,ΦX,O,J];have G:=o.bn;have B:=o.len;have t:=o.bnd;replace t:b*16<=140737488355328:=t;refine⟨λ m h j i s=>0<=i/\i<=b/\∃f:List bc,Sl s m h j f/\f.length<=i.toNat/\norm c=fq f (c.drop i.toNat),λ _ _ _ i=>b-i.toNat,y' ⟨[],Sl.nil,N' rfl⟩,?_⟩;rintro X E m h j i ⟨k,R,f,w,F,v⟩;refine⟨λ g=>?_,λ p=>?_⟩
 .have g:=aab g;obtain⟨q,u,_,x,⟨rfl,y,D⟩⟩:=o.at E k g;rw[ak k q,fq]at v;refine⟨u,k,g,_,_,x,_,dX,?_⟩;rintro P r _ rfl;refine⟨λ L=>⟨u,k,g,_,_,x.mono r,_,Hz (w.mono r) y D (by omega),?_⟩,λ U=>u' ⟨y' ⟨f,w.mono r,u' ?_⟩,by grind⟩⟩
  .intro Q V T M Y z;have:=nR ⟨c[i.toNat].lo,c[i.toNat].hi⟩ f;refine u' ⟨y' ⟨_,z,u' ?_⟩,by grind⟩;simp_all
  simp_all
 .rw[ai (aac p) B,fq]at v;grind
def qx {c d:Int}:ZB 241 [.agg ⟨[Φi f,Φi g]⟩,.agg ⟨[Φi c,Φi d]⟩] a gL (λ r _=>r=cQ f c):=by
 refine ΦK 0 (aj [9] [] []) (λ b=>C ZP 52 [I f,I c] a λ d e=>b e d) ?_;dsimp only[aQ,aR,C];exact⟨_,gC,λ _ _ _ h=>h⟩
def oQ:Go.Shelf.Ren:=⟨λ | 6=>240 | 15=>239 | 14=>317 | 28=>315 | 29=>316 | 20=>403 | 21=>404 | 22=>405 | 23=>406 | 24=>407 | 25=>408 | 26=>409 | 27=>410 | 46=>477 | 47=>399 | 48=>400 | 49=>478 | 50=>479 | 57=>515 | n=>n,λ | 22=>205 | 24=>36 | 25=>323 | 3=>3 | 39=>310 | 0=>0 | 53=>404 | 55=>406 | 4=>4 | 46=>398 | 45=>397 | 50=>252 | 5=>5 | 9=>9 | 66=>483 | 70=>487 | 76=>567 | 77=>232 | n=>n,λ n=>n⟩
def HA:SlLaysF0.n6 Tryz.prog oQ:=by
 constructor<;>first | kernel_rfl | exact λ _=>by kernel_rfl | exact ab3 (by kernel_rfl) (by kernel_rfl)
def NM:TM Tryz.prog oQ 2:=⟨HA,Tryz.isAgg36,Tryz.sizeOf36,by kernel_rfl⟩
def uu:cQ f g<0↔f<g:=by unfold cQ;grind
def QB {T:Type}(f:T->Int):Sort.SWO (ltOf λ x y:T=>cQ (f x) (f y))where
 irrefl x:=by simp[ltOf,uu]
 trans x y z h1 h2:=by simp[ltOf,uu]at*;omega
 ntrans x y z h1 h2:=by simp[ltOf,uu]at*;omega
def EG {k:G'}(r:Row a k c)(q:c.length=b)(u:b<=140737488355328):
  ZC 240 [.slice none 0 0,.func (.func 241) #[] #[]] 0 36 b k true a ⟨true,[]⟩ (λ j (i:Heap)=>∃m:List bc,Row i j m/\m.Perm c/\m.Pairwise (λ d g=>d.lo<=g.lo)):=by
 have h:=Gl NM r q u (f:=241) (cap:=[]) (cf:=λ x y:bc=>cQ _ _) ⟨_,Tryz.func241,rfl,by rfl⟩ (QB _)
  (λ i v w s t _ p o=>by
   obtain⟨rfl,-,-⟩:=p;obtain⟨rfl,-,-⟩:=o;exact qx)
 have e:(λ j (i:Heap)=>∃m:List bc,Row i j m/\m.Perm c/\m.Pairwise (λ d g=>¬cQ g.lo d.lo<0))=(λ j (i:Heap)=>∃m:List bc,Row i j m/\m.Perm c/\m.Pairwise (λ d g=>d.lo<=g.lo)):=by
  simp[uu]
 rw[e]at h;exact h
def sU (m a:List bc)(i:Int):Prop:=match a.getLast? with
 | none=>uP m=uP (m.drop i.toNat)
 | some q=>uP m=a.dropLast++Rt q (m.drop i.toNat)
def bP (R:Sl a d b e c):ZB 177 [S d b e] a fi (λ A' n' c' Q=>Sl Q A' n' c' (norm c)):=by
 refine ΦK 2 {aj [17] [(13,ab 2 8 [19,20,23,24,26,0]),(14,ab 2 6 [20,22,15,16,19,24,27,28,31,0])] [(3,[.slot 3 false [.row 66 36],ag 12]),(10,[.slot 4 false [.row 67 36],ag 27])]with mt:=ir [240] []} (λ c=>W ZG a (λ e=>e 0 [] 0 a) λ e f g h i j=>let k:=λ(k:Nat)(l:Int) m n (o p:Int) q r=>(k+1)*16<=M/\ΦR (l+1)/\m (k+1) (n++[Value.int .i64 o,I p]) (l+1) q/\r (k+1) (n++[Value.int .i64 o,I p]) (l+1)<r k n l;J (j<O b) (ΦX d j b (ΦE ZK g d (N j*2) (λ l m=>C ZO 139 [ΦG [I l,I m]] g λ n o=>ΦQ o (k h j e i l m n f) (ΦR (j+1)/\e h i (j+1) n/\f h i (j+1)<f h i j)))) (ZZ ZV 240 [S none 0 0,.func (.func 241) ⟨[]⟩ ⟨[]⟩] 0 36 h i true g (λ l m=>W ZG l (λ n=>n 0 [] 0 l) λ n o p q r s=>J (s<O h) (ΦY s h (ΦF ZK m (N s*2) 2 (λ t u=>J (0<O q) (ΦR (O q-1)/\ΦY (O q-1) q (ΦF ZE r (N (O q-1)*2+1) 1 (λ v=>J (t<=v) (ΦR (O q-1)/\ΦR (O q-1)/\ΦY (O q-1) q (ΦF ZE r (N (O q-1)*2+1) 1 (λ w=>ΦY (O q-1) q (N (O q-1)*2+1+1<=L r/\ΦR (s+1)/\(let x:=av r (N (O q-1)*2+1) [I (max w u)];n q x (s+1) p/\o q x (s+1)<o q r s))))) (k q s n r t u p o)))) (k q s n r t u p o)))) (U p r q (λ t u v=>c t q u v))))) ?_;dsimp only[PL,aQ,aR,aW,eQ,C,ZZ,ΦE,ΦF,L,M,N,ΦQ,ΦR,W,ΦX,ΦY,O,J];have b1:=R.bn;have b2:=R.len;have b3:=R.bnd;replace b3:b*16<=140737488355328:=b3;refine⟨λ m xs i Q=>0<=i/\i<=b/\∃r:List bc,Row Q xs r/\r.length=m/\m<=i.toNat/\c.filter dm=r++(c.drop i.toNat).filter dm,λ _ _ i=>b-i.toNat,y' ⟨[],rfl,rfl,N' (by simp)⟩,?_⟩;rintro H2 l2 m xs i ⟨h0,h1,r,hr,hm,a9,G⟩;refine⟨λ h=>?_,λ x=>?_⟩
 .have h:=aab h;obtain⟨V,hA,_,hc,⟨rfl,r1,r2⟩⟩:=R.at l2 h0 h;rw[ak h0 V,aba]at G;refine⟨hA,h0,h,_,_,hc,_,bX,?_⟩;rintro H3 Y _ rfl;refine⟨λ ht=>y' ⟨y' ⟨r++[c[i.toNat]],(hr.mono Y).append (Row.one ⟨rfl,r1,r2⟩),by simp;omega,u' ?_⟩,by dsimp only;omega⟩,
   λ hf=>u' ⟨y' ⟨r,hr.mono Y,hm,u' ?_⟩,by dsimp only;omega⟩⟩
  .rw[G,if_pos ht];simp
  .rw[G,if_neg (by rw[hf];simp)]
 .rw[ai (aac x) b2,adZ,aar]at G;refine⟨_,EG hr hm (by omega),?_⟩;rintro H3 Y ys ⟨s,a0,g,u⟩;have a1:s.length=m:=by rw[g.length_eq,hm]
  rw[<-G]at g;have F:=Gs g u;have a6:∀p∈s,ae .i64 p.lo/\ae .i64 p.hi:=λ p hp=>by
   have:=fo.1 (abc.1 (g.mem_iff.1 hp)).2;have a8:iv=1099511627776:=rfl;omega
  refine⟨λ k zs j Q=>0<=j/\j<=m/\∃o:List bc,Row Q zs o/\o.length=k/\k<=j.toNat/\sU s o j,λ _ _ j=>m-j.toNat,y' ⟨[],rfl,rfl,N' rfl⟩,?_⟩;rintro H4 l4 k zs j ⟨j0,j1,o,B,D,a5,f⟩;refine⟨λ h=>?_,λ x=>?_⟩
  .have h:=aab h;have Z:j.toNat<s.length:=by omega
   have hw:=(a0.mono l4).dO Z;obtain⟨hw,w1,w2⟩:=hw;have z:o.getLast?=o[k-1]?:=by rw[abK,D]
   refine⟨j0,h,_,_,hw,λ v=>?_,λ v=>?_⟩
   .have v:=aab v;have y:k-1<o.length:=by omega
    have a2:((k:Int)-1).toNat=k-1:=by omega
    obtain⟨vs,⟨rfl,v1,v2⟩,g1,g2⟩:=B.mg y;rw[sU,z,aai y]at f;simp only at f;rw[ak j0 Z,Rt]at f;rw[a2];refine J' ⟨_,g1 1 1 (by decide),λ w=>?_,λ a7=>?_⟩
    .have w:=aab w;rw[if_pos w]at f;have P:=g2 1 [Φi (max o[k-1].hi s[j.toNat].hi)] ⟨o[k-1].lo,max o[k-1].hi s[j.toNat].hi⟩ (by show 1+1<=2;grind) ⟨rfl,v1,by grind⟩;have X:=B.length;refine M' ⟨_,g1 1 1 (by decide),y' ⟨?_,by omega,y' ⟨_,P,T' (u' ?_)⟩,by grind⟩⟩
     .rw[X,D];show(k-1)*2+1+1<=k*2;omega
     .rw[sU,abK,abd,D,adL y];rw[f];rw[adn,adn,abd,D,aeh (by simp)]
    .refine y' ⟨y' ⟨o++[s[j.toNat]],B.append (Row.one ⟨rfl,w1,w2⟩),T' (u' ?_)⟩,by grind⟩;rw[sU];have T:o≠[]:=by grind
     have:o=o.dropLast++[o[k-1]]:=by
      conv=>lhs;rw[<-aek T]
      grind
     grind
   .rw[sU]at f;rw[ak j0 Z,uP]at f;refine y' ⟨y' ⟨o++[s[j.toNat]],B.append (Row.one ⟨rfl,w1,w2⟩),T' (u' ?_)⟩,by grind⟩;rw[sU];grind
  .have hd:=ai (aac x) a1;intro A5 c5 H5 l5 a4 a3;have E:norm c=o:=by
    rw[<-F];rw[sU,hd]at f;cases t:o.getLast? with
    | none=>
     rw[t]at f;rw[adv]at t;rw[t];exact f
    | some q=>
     rw[t]at f;simp[Rt]at f;rw[f];obtain⟨ys,rfl⟩:=abX.1 t;simp
   rw[E];exact B.sl l5 a4 D a3 (by show k*16<=_;omega) (by omega)
end
end Go.Vc
