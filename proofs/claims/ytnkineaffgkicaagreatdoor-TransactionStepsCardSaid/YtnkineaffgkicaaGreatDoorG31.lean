/- A part of the proof of TransactionSteps. -/
import Derived.Test.YtnkineaffgkicaaGreatDoorG30
set_option maxHeartbeats 16000000
set_option maxRecDepth 100000
set_option linter.unusedVariables false
set_option linter.defProp false
set_option linter.unusedSectionVars false
set_option linter.unusedSimpArgs false
namespace Go.Vc
open Go Go.Shelf Go.Proofs
section
variable {a:eC}{b c:Nat}{f:List Ed}
structure DI (e L:Nat)(d:Db):Prop where
 n0:0<=d.now
 n1:d.now<=e
 i0:1<=d.nid
 i1:d.nid<=1+e*1000000
 two:d.tabs.length<=2
 tab:∀t∈d.tabs,aw t.sch=true/\qF t.sch=true/\t.sch.vers.length<=e+1/\Br d.now d.nid t/\TI (e*55) L t
section
variable {e L:Nat}{d:Db}{x:Ed}
def DI.n (h:DI e L d)(a:e<=30):Lt d.now d.nid:=by
 have:=h.n1;have:=h.i1;exact⟨h.n0,by omega,h.i0,by omega⟩
def DI.ok (h:DI e L d)(a:e<=30)(i:L<=1000000):Tn d:=by
 refine⟨h.n a,by have:=h.two;omega,λ t c=>?_⟩;obtain⟨-,-,g,f,b⟩:=h.tab t c;have:=b.len;grind
def TI.up {e d:Nat}(h:TI b c a)(f:b<=e)(g:c<=d):TI e d a:=⟨aax h.len g,h.v,aax h.w f⟩
def DI.set {L2:Nat}{j:Nat}{t':eC}{m:Nat}(h:DI e L d)(i:L<=L2)(k:m<=1000000)
  (l:aw t'.sch=true/\qF t'.sch=true/\t'.sch.vers.length<=e+2/\Br d.now (d.nid+m) t'/\TI ((e+1)*55) L2 t'):DI (e+1) L2 ⟨d.now,d.nid+m,d.tabs.set j t'⟩:=by
 have:=h.n1;have:=h.i1;have:=h.i0;refine⟨h.n0,by grind,by grind,by grind,by rw[abd];exact h.two,λ t a=>?_⟩;rcases acP a with a | rfl
 .obtain⟨f,b,n,c,g⟩:=h.tab t a;exact⟨f,b,by omega,c.up (by grind),g.up (by omega) i⟩
 grind
def DI.ed (h:DI e L d)(z:GE x)(K:e<=29)(I:L<=100000)(f:(oX d x).2=0):DI (e+1) (4*L+1) (oX d x).1:=by
 have H:=z.k;have A:=h.n (by omega);unfold oX at*;rw[if_neg (by omega)]at f⊢;split at f
 .rename_i t B;split at f
  .grind
  rename_i E;rw[if_neg E];have F:=aaJ B;generalize (cO _ _).toNat=j at*;obtain⟨D,y,J,g,i⟩:=h.tab t F;unfold NB at*;split at f
  .rename_i r;rw[if_pos r];obtain⟨l,q⟩:=Ho g A f;have:=i.len;rw[Lv f];refine h.set (by omega) (by omega) ⟨D,y,by grind,g.apply l,?_⟩;exact(i.ed z A.n1 r f).up (by omega) (aaB _)
  rename_i r;rw[if_neg r];have p:∀{s:bp},aw s=true->qF s=qF _->s.vers.length<=t.sch.vers.length+1->DI _ _ _:=λ {s} a b c=>by
   have:=h.set (L2:=4*L+1) (j:=j) (t':=⟨s,t.vs⟩) (m:=0) (by omega) (by simp) ⟨a,b.trans y,by grind,⟨tc a,g.lI,λ v G=>by have:=g.id v G;omega,g.day,g.lo⟩,⟨by have:=i.len;grind,i.v,by have:=i.w;grind⟩⟩;simpa[zZ]using this
  split at f
  .rename_i u;rw[if_pos u];rw[rF,if_pos f];obtain⟨l,q⟩:=Og (s:=t.sch) (c:=x.col) (x:=d.now+1) f;exact p (Et f) l q
  .rename_i u;rw[if_neg u];unfold sR at f⊢;split at f
   .grind
   rename_i o;split at f
   .grind
   rename_i C;rw[if_neg o,if_neg C];have o:=acQ o;obtain⟨l,q⟩:=Ku o;exact p (Bq o) l q
 grind
def DI.tA (a:GE x):Ws d x:=by
 have:=a.k;exact⟨by omega,by omega,λ h=>by omega,a.ok⟩
def DI.cons (h:DI e L d)(a:GE x)(c:e<=29)(i:L<=100000)(b:(oX d x).2=0->Fg (oX d x).1 f):Fg d (x::f):=
 ⟨h.ok (by omega) (by omega),DI.tA a,λ g=>by have:=a.k;omega,b⟩
def DI.up {j i:Nat}(h:DI e L d)(m:e<=j)(k:L<=i):DI j i d:=by
 have:=h.n1;have:=h.i1;refine⟨h.n0,by omega,h.i0,by omega,h.two,λ t l=>?_⟩;obtain⟨a,b,c,f,g⟩:=h.tab t l;exact⟨a,b,by omega,f,g.up (by omega) k⟩
def DI.run:∀{es:List Ed} {e L:Nat} {d:Db},DI e L d->(∀x∈es,GE x)->e+es.length<=30->(L+1)*4^es.length<=400000->Fg d es/\((bJ d es).2=0->DI (e+es.length) 400000 (bJ d es).1)
 |[],e,L,d,h,_,he,hL=>⟨h.ok (by grind) (by grind),λ _=>h.up (by simp) (by grind)⟩
 | x::r,e,L,d,h,hg,he,hL=>by
  rw[aav]at he hL⊢;have g:0<4^r.length:=Nat.pow_pos (by simp);rw[Nat.pow_succ]at hL;have b:L<=100000:=by
   have:(L+1)*4<=(L+1)*(4^r.length*4):=acx _ (by omega);omega
  have c:=hg x (by simp);have f:=λ a=>DI.run (es:=r) (h.ed c (by omega) b a) (λ y i=>hg y (by grind)) (by omega) (by
   grind)
  refine⟨h.cons c (by omega) b λ a=>(f a).1,λ a=>?_⟩;rw[bJ]at a⊢;grind
def SK (h:TI b c a)(f:∀v∈a.vs,eo v.vd=true):(dR a).length<=b:=by
 refine aax ?_ h.w;unfold dR oY cw;have g:=h.v;generalize a.vs=l at g f;induction l with
 | nil=>simp
 | cons v r i=>
  rw[abq];have:=i (λ u j=>g u (by grind)) (λ u j=>f u (by grind));split
  .have e:=(g v (by simp)).1;have d:=vI.1 (f v (by simp));obtain⟨k,m,n⟩:=e;have:1<=wP v.vd:=by simp[wP];omega
   grind
  grind
def Rc:(aG (dR a)).length=(dR a).length:=by
 unfold aG dR oY;generalize a.vs.filter _=l;induction l with
 | nil=>rfl
 | cons v r b=>grind
def LM {a:List Int}(c:a.all (λ x=>decide (0<=x))=true)(b:a.length<=4):Kr [] a:=
 ⟨⟨by simp,by grind,by decide,λ t d=>by grind⟩,λ x e=>by grind⟩
def SL {W:Nat}{e:List Int}(h:TI W c a)(k:W<=1650)(f:∀v∈a.vs,eo v.vd=true)(n:e.all (λ x=>decide (0<=x))=true)(m:e.length<=4):Kr (dR a) e:=by
 have l:=SK h f;refine⟨⟨by omega,by grind,by rw[Rc];omega,NY (b:=2) (by simp) (by grind) λ d g v i=>?_⟩,λ x o=>by grind⟩;obtain⟨u,j,rfl⟩:=aaO.1 g;exact QW (h.v u (abc.1 j).1).2 v i
def DI.UP (h:DI e L d)(y:e<=30)(v:L<=1000000):Ow d.tabs:=by
 have l:∀t∈d.tabs,∀i:List _,i.all _=true->i.length<=4->Kr _ _:=λ t j i a b=>by
  obtain⟨-,-,-,k,m⟩:=h.tab t j;exact SL m (by omega) k.day a b
 refine⟨λ t j=>?_,λ t j=>?_,λ t j f p=>?_,λ t j c B=>?_⟩;all_goals
  obtain⟨r,n,w,k,m⟩:=h.tab t j;simp[qF,aaG]at n;obtain⟨⟨⟨q,x⟩,o⟩,A⟩:=n
 .exact⟨k.s,k.lI,by have:=m.len;omega⟩
 .grind
 .obtain⟨⟨⟨a,b⟩,c⟩,g⟩:=o f p;refine⟨l t j _ (by grind) b,?_⟩;unfold vS;split
  .exact LM (by grind) g
  .cases z:d.tabs[(cO _ _).toNat]? with
   | none=>exact LM (by grind) g
   | some u=>grind
 grind
def Re {D:Db}(h:pd D f=0):(bJ D f).2=0/\uq (bJ D f).1=false:=by
 unfold pd Bv at h;grind
def SM (d:Db)(x:Ed):(oX d x).1.now=d.now:=by
 unfold oX NB Hs Ev vK rF zZ;grind
def DI.WT (h:DI e 4096 d)(u:f.length<=2)(o:∀x∈f,GE x)(F:e<=28):
  Fg d f/\((bJ d f).2=0->Ow (bJ d f).1.tabs)/\(pd d f=0->DI (e+2) 4096 (mZ d f)):=by
 have n:(4096+1)*4^f.length<=400000:=by
  have:4^f.length<=4^2:=Nat.pow_le_pow_right (by simp) u;omega
 obtain⟨p,j⟩:=h.run o (by omega) n;refine⟨p,λ i=>(j i).UP (by omega) (by simp),λ i=>?_⟩;obtain⟨a,b⟩:=Re i;have k:=j a;have E:=k.i1;have C:=h.n1;have g:(bJ d f).1.now<=e:=by
  have:∀(f:List Ed) (d:Db),(bJ d f).1.now=d.now:=by
   intro f;induction f with
   | nil=>intro d;rfl
   | cons x r y=>
    intro d;rw[bJ];split
    .rw[y];exact SM d x
    simp
  grind
 refine⟨by have:=k.n0;show 0<=(bJ d _).1.now+1;omega,by show(bJ d _).1.now+1<=_;omega,k.i0,by show(bJ d _).1.nid<=_;omega,k.two,λ t l=>?_⟩;obtain⟨z,A,D,c,m⟩:=k.tab t l;have q:t.vs.length<=4096:=by
  have:=abj.1 b t l;grind
 exact⟨z,A,by omega,⟨c.s,c.lI,c.id,c.day,λ v B=>by have:=c.lo v B;show v.rc.lo<=(bJ d _).1.now+1+1;omega⟩,⟨q,m.v,aax m.w (by omega)⟩⟩
end
end
section
variable {a:bp}
def CU:ByteArray:=⟨⟨[116]⟩⟩
def LN:ByteArray:=⟨⟨[117]⟩⟩
def WU (s:bp):Bool:=(match((cY 1 s.vers).getD og).cols.find? (λ c=>decide (c.id=1))with | some y=>decide (y.kind=1) | none=>false)&&decide ((br s 1)[0]?=some 1)
def VU (h:WU a=true):C1 a 1:=by
 unfold WU at h;refine⟨?_,by grind⟩;grind
def Zs (f:nz):Bool:=decide (f.cols=[1])&&decide (f.refs=[1])&&(decide (f.table=CU)||decide (f.table=LN))
def EW (a:ByteArray)(s:bp):Bool:=
 decide ((bt s 1).2=0)&&decide ((bt s 1).1.name=a)&&aw (bt s 1).1&&qF (bt s 1).1&&decide ((bt s 1).1.vers.length=1)&&WU (bt s 1).1&&(bt s 1).1.fks.all Zs
def VV (d:ByteArray)(n:Nat)(b:List Int)(c:List nz)(a:List Rs):bp:=⟨d,[⟨⟨0,1099511627776⟩,vp n⟩],b,c,a⟩
def EX (t:ByteArray):List nz:=[⟨[1],t,[1]⟩]
def SN:([CU,LN].all λ d=>[2,3].all λ n=>[[],[1],[2,1]].all λ b=>[[],EX CU,EX LN].all λ c=>[[],[⟨1,[2]⟩],[⟨2,[1,2]⟩]].all λ a=>EW d (VV d n b c a))=true:=by kernel_rfl
def Rf {e:ByteArray}{a b d:Int}{c:List nz}(g:e=CU\/e=LN)(f:ae .u16 a)(i:c=[]\/c=EX CU\/c=EX LN):EW e (VV e (2+(a.tmod 2).toNat) (mkKey b) c (jR d))=true:=by
 have j:=dM f.1 (m:=2) (by decide);have h:=aaG.1 SN e (by rcases g with rfl | rfl<;>simp);have h:=aaG.1 h (2+(a.tmod 2).toNat) (by
  obtain h | h:a.tmod 2=0\/a.tmod 2=1:=by omega
  all_goals rw[h];decide)
 have h:=aaG.1 h (mkKey b) (by unfold mkKey;split<;>first | decide |(split<;>decide));have h:=aaG.1 h c (by grind);exact aaG.1 h (jR d) (by unfold jR;split<;>first | decide |(split<;>decide))
def Kv (a:List Int):bl [] a=[]:=rfl
def SO {b:List eC}(h:∀t∈b,t.vs=[]):tb b=0:=by
 have a:∀t∈b,dR t=[]:=λ t d=>by unfold dR oY;grind
 have g:b.any kB=false:=abj.2 λ t d=>by
  unfold kB eJ;rw[a t d,Kv];simp
 have i:(b.any λ t=>t.sch.fks.any (fB b t))=false:=abj.2 λ t d=>by
  rw[abZ,abj];intro f e;unfold fB AB;rw[a t d,Kv];simp
 have j:(b.any λ t=>t.sch.csts.any (cB t))=false:=abj.2 λ t d=>by
  rw[abZ,abj];intro c k;unfold cB qB ya eJ;rw[a t d,Kv];simp
 unfold tb;grind
def yd:Db:=⟨0,1,[]⟩
structure VW (nm:ByteArray)(s s':bp):Prop where
 cr:bt s 1=(s',0)
 name:s'.name=nm
 valid:aw s'=true
 sm:qF s'=true
 len:s'.vers.length=1
 c1:C1 s' 1
 fks:∀f∈s'.fks,f.cols=[1]/\f.refs=[1]/\(f.table=CU\/f.table=LN)
def EY {b:ByteArray}(h:EW b a=true):∃c,VW b a c:=by
 unfold EW at h;simp only[aah,aad]at h;obtain⟨⟨⟨⟨⟨⟨j,g⟩,m⟩,i⟩,l⟩,e⟩,k⟩:=h;refine⟨(bt a 1).1,Prod.ext rfl j,g,m,i,l,VU e,λ f d=>?_⟩;have:=aaG.1 k f d;unfold Zs at this;grind
def Br.new {c b:Int}(h:JO a):Br c b ⟨a,[]⟩:=⟨h,List.Pairwise.nil,λ v d=>(by grind),λ v d=>(by grind),λ v d=>(by grind)⟩
def TI.new {W L:Nat}:TI W L ⟨a,[]⟩:=⟨abi _,λ v b=>(by grind),abi _⟩
def Oh {B:bp}{i k:Ed}(C:i.kind=4)(M:k.kind=4)(N:i.sch=a)(G:k.sch=B)(E:EW CU a=true)(H:a.fks=[])(D:EW LN B=true):
  Fg yd [i,k]/\((bJ yd [i,k]).2=0->Ow (bJ yd [i,k]).1.tabs)/\pd yd [i,k]=0/\DI 2 4096 (mZ yd [i,k]):=by
 subst N G;obtain⟨t,j⟩:=EY E;obtain⟨u,m⟩:=EY D;have o:∀d:Db,d.now=0->Ou d i=t:=λ d x=>by unfold Ou;rw[x];exact aak Prod.fst j.cr
 have n:∀d:Db,d.now=0->Ou d k=u:=λ d x=>by unfold Ou;rw[x];exact aak Prod.fst m.cr
 have r:oX yd i=(⟨0,1,[⟨t,[]⟩]⟩,0):=by rw[oX,if_pos C,o yd rfl];rfl
 have q:oX ⟨0,1,[⟨t,[]⟩]⟩ k=(⟨0,1,[⟨t,[]⟩,⟨u,[]⟩]⟩,0):=by rw[oX,if_pos M,n _ rfl];rfl
 have l:bJ yd [i,k]=(⟨0,1,[⟨t,[]⟩,⟨u,[]⟩]⟩,0):=by
  rw[bJ,r,if_pos rfl,bJ,q,if_pos rfl,bJ]
 have K:t.fks=[]:=by
  have:(bt i.sch 1).1.fks=i.sch.fks:=by
   have:=j.cr;unfold bt at this⊢;repeat' split at this
   all_goals first
    |(have:=aak Prod.snd this;cases this;done)
    | skip
   simp only[*];rfl
  rw[<-H,<-this,j.cr]
 have A:∀w:List eC,(∀s∈w,s=⟨t,[]⟩\/s=⟨u,[]⟩)->w.length<=2->DI 2 4096 ⟨0,1,w⟩:=λ w L J=>by
  refine⟨by simp,by simp,by simp,by simp,J,λ s h=>?_⟩;rcases L s h with rfl | rfl
  .exact⟨j.valid,j.sm,by rw[j.len];decide,Br.new (tc j.valid),TI.new⟩
  .exact⟨m.valid,m.sm,by rw[m.len];decide,Br.new (tc m.valid),TI.new⟩
 have I:=A [] (λ s h=>(by cases h)) (by simp);have F:=A [⟨t,[]⟩] (λ s h=> .inl (aaD.1 h)) (by simp);have y:=A [⟨t,[]⟩,⟨u,[]⟩] (λ s h=>by simpa using h) (by simp);have z:pd yd [i,k]=0:=by
  unfold pd Bv;rw[l,if_neg (by simp),if_neg (by simp),if_neg (by simp[uq])];exact SO λ s h=>by
   rcases(show s=⟨t,[]⟩\/s=⟨u,[]⟩by simpa using h)with rfl | rfl<;>rfl
 refine⟨⟨I.ok (by decide) (by decide),⟨by omega,by omega,λ _=>?_,λ h=>(by omega)⟩,λ _=>by rw[o yd rfl];exact tc j.valid,λ _=>?_⟩,λ _=>by rw[l];exact y.UP (by decide) (by decide),z,?_⟩
 .rw[o yd rfl];exact⟨j.cr,by decide,λ s h=>(by cases h),λ f p=>(by rw[K]at p;cases p)⟩
 .rw[r];refine⟨F.ok (by decide) (by decide),⟨by omega,by omega,λ _=>?_,λ h=>(by omega)⟩,λ _=>by rw[n _ rfl];exact tc m.valid,λ _=>?_⟩
  .rw[n _ rfl];refine⟨m.cr,by simp,λ s h=>?_,λ f p=>?_⟩
   .rw[aaD.1 h];show Ey t.name u.name;rw[j.name,m.name];unfold Ey;kernel_rfl
   .obtain⟨e,b,c⟩:=m.fks f p;refine⟨e,b,m.c1,?_⟩;rcases c with c | c
    .refine .inr ⟨0,⟨t,[]⟩,?_,rfl,j.c1⟩;show cO f.table [⟨t,[]⟩]=0;unfold cO idxOf;rw[if_pos (by rw[c];simpa using j.name)]
    .exact .inl (c.trans m.name.symm)
  .rw[q];exact y.ok (by decide) (by decide)
 .have:mZ yd [i,k]=⟨1,1,[⟨t,[]⟩,⟨u,[]⟩]⟩:=by unfold mZ;rw[l];rfl
  rw[this];refine⟨by simp,by simp,by simp,by simp,by simp,λ s h=>?_⟩;obtain⟨e,b,c,f,g⟩:=y.tab s h;exact⟨e,b,c,⟨f.s,f.lI,f.id,f.day,λ v O=>by have P:v.rc.lo<=0+1:=f.lo v O;show v.rc.lo<=1+1;omega⟩,g⟩
end
section
variable {a b f g:Int}{c:Heap}{d:az}{e:Nat}
def gv (v:az):Prop:=v2 v/\bG v=true
def gv.ok (h:gv d):dp d:=⟨h.1.1,h.1.2.1,by have:=h.1.2.2;unfold str;omega⟩
def dD:gv ⟨0,0,⟨⟨[]⟩⟩⟩:=⟨by decide,by rfl⟩
def gJ (d:0<=b):ZB 70 [Φi a,Φu b] c uY (λ k n s _=>gv ⟨k,n,s⟩):=by
 refine ΦK 0 bE (λ d=>(7:Int)≠0/\J (Int.tmod b 7=6) (d 0 0 ⟨⟨[]⟩⟩ c) ((2:Int)≠0/\J (Int.tmod a 2=0) ((3:Int)≠0/\(∃e:Int,IntKind.wrap IntKind.i64 (Int.tmod b 3)=e/\ΦR (e-1)/\C ZU 123 [I (e-1)] c λ f g h i=>d g h i f)) ((3:Int)≠0/\ΦY (Int.tmod b 3) 3 (ΦF Xr [ΦT ⟨⟨[]⟩⟩,ΦT {data:=⟨[(97:UInt8)]⟩},ΦT {data:=⟨[(98:UInt8),(39:UInt8)]⟩}] (N (Int.tmod b 3)*1) 1 (λ e=>d 2 0 e c))))) ?_;dsimp only[aQ,aR,eQ,C,ΦF,N,ΦR,ΦY,J];refine⟨by simp,λ h=>dD,λ h=>⟨by simp,λ _=>⟨by simp,?_⟩,λ _=>?_⟩⟩
 .rcases CA d with e | e | e<;>rw[e]<;>refine⟨_,rfl,by decide,_,rW,?_⟩<;>rintro f _ _ _ _ ⟨rfl,rfl,rfl⟩<;>exact⟨by decide,by rfl⟩
 .rcases CA d with e | e | e<;>rw[e]<;>refine⟨by simp,by simp,by simp,_,rfl,?_⟩<;>exact⟨by decide,by rfl⟩
def Kw (o:0<=a)(i:0<=b):ZB 58 [Φu a,Φu b] c ⟨false,[(false,[.row e 133])]⟩ (λ m j q=>∃l:List az,m=l.length/\Row q j l/\l.length<=2/\∀v∈l,v2 v):=by
 refine ΦK 0 bE (λ d=>C ZU 70 [I 0,.int .u16 a] c λ e f g h=>C ZU 70 [I 1,.int .u16 b] e λ i j k l=>d 2 [I f,I g,ΦT h,I j,I k,ΦT l] i) ?_;dsimp only[aQ,aR,C];refine⟨_,gJ o,?_⟩;intro u z k n s g;refine⟨_,gJ i,?_⟩;intro w A p t h f;refine⟨[⟨k,n,s⟩,⟨p,t,h⟩],rfl,⟨[_,_,_],[_,_,_],rfl,⟨rfl,g.ok⟩,[_,_,_],[],rfl,⟨rfl,f.ok⟩,rfl⟩,by simp,λ v d=>?_⟩;rcases aaw.1 d with rfl | d
 .exact g.1
 .rw[aaD.1 d];exact f.1
def SP (c:0<=a)(d:0<=b):PW (Ni a b):=by
 unfold Ni PW;grind
def aeU:fI where
 res:=λ _=>none
 lend:=λ _=>false
 sch:=λ _=> .done
 lt:=λ _=>[]
 kz:=Gh
def Kx:ZB 73 [] c fi (λ A n a b=>Sl b A n a [(1:Int),2]):=by
 refine uJ (an:=aeU) (fn:=Tryz.f73) mix tO Tryz.func73 (by rfl) (extra:=0) ?_;intro A a f g d e;exact Ee d (ah _) e (by grind) (by grind)
def CV (g:0<=a)(f:0<b)(h:b<=100):ZB 124 [Φi a,Φi b] c gL (λ r _=>0<=r/\r<b):=by
 refine ΦK 0 bE (λ d=>J (b<=0) (d 0 c) (b≠0/\ΦR (Int.tmod a b+b)/\b≠0/\d (Int.tmod (Int.tmod a b+b) b) c)) ?_;dsimp only[ΦR,J];have e:=dM g f;have d:=dM (x:=a.tmod b+b) (by omega) f;grind
def BF (f:0<=b):ZB 125 [Φi a,Φu b] c uY (λ a n s _=>gv ⟨a,n,s⟩):=by
 refine ΦK 0 bE (λ d=>J (a=1) ((6:Int)≠0/\C ZU 70 [I 0,.int .u16 (Int.tmod b 6)] c (λ e f g h=>d f g h e)) (J (a=2) ((6:Int)≠0/\C ZU 70 [I 1,.int .u16 (Int.tmod b 6)] c (λ e f g h=>d f g h e)) (J (a=3) ((2:Int)≠0/\(∃e:Int,IntKind.wrap IntKind.i64 (Int.tmod b 2)=e/\d 3 e ⟨⟨[]⟩⟩ c)) (d 0 0 ⟨⟨[]⟩⟩ c)))) ?_;dsimp only[aQ,aR,C,J];have e:=dM f (m:=6) (by simp);have d:=dM f (m:=2) (by simp);refine⟨λ _=>⟨by simp,_,gJ e.1,λ _ _ _ _ _ h=>h⟩,λ _=>⟨λ _=>⟨by simp,_,gJ e.1,λ _ _ _ _ _ h=>h⟩,λ _=>⟨λ _=>⟨by simp,_,wrap_i64 d.1 (by omega),?_⟩,λ _=>dD⟩⟩⟩;obtain h | h:b.tmod 2=0\/b.tmod 2=1:=by omega
 all_goals rw[h];exact⟨by decide,by rfl⟩
def RA:Nat->List Xp->Prop
 | _,[]=>True
 | i,x::r=>rQ i x/\RA (i+1) r
def LO:∀{a b:List Xp} {i:Nat},RA i (a++b)↔RA i a/\RA (i+a.length) b
 |[],b,i=>by simp[RA]
 | x::r,b,i=>by
  rw[aby,RA,RA,LO,aav,aeo,show i+1+r.length=i+(r.length+1)by omega]
def LP:∀{a:List Xp} {i:Nat},RA i a->∀k (b:k<a.length),rQ (i+k) a[k]
 | x::r,i,h,0,_=>h.1
 | x::r,i,h,k+1,b=>by
  have:=LP h.2 k (by grind);grind
structure GX (es:List Xp):Prop where
 wf:RA 0 es
 k:∀x∈es,gv x.k
 len:es.length<=10
def GX.ok {a:List Xp}(h:GX a):Su a:=by
 have:=h.len;refine⟨λ i b=>?_,λ x c _=>(h.k x c).2,by omega⟩;have:=LP h.wf i b;grind
def GX.app {a r:List Xp}(h:GX a)(d:RA a.length r)(b:∀x∈r,gv x.k)(e:a.length+r.length<=10):GX (a++r):=
 ⟨LO.2 ⟨h.wf,by grind⟩,λ x c=>(aam.1 c).elim (h.k x) (b x),by grind⟩
def GX.nil:GX []:=⟨trivial,λ x a=>(by grind),abi _⟩
def Ky (h:a=1\/a=2):rQ e ⟨a,0,0,b,d⟩:=by
 rcases h with rfl | rfl
 .exact⟨.inl rfl,λ h=>absurd h (by simp[aZ]),λ h=>absurd h (by simp[aZ])⟩
 .exact⟨.inr (.inl rfl),λ h=>absurd h (by simp[aZ]),λ h=>absurd h (by simp[aZ])⟩
def VX (h:a=10\/a=11)(l:0<=b)(j:b<e):rQ e ⟨a,b,f,g,d⟩:=by
 rcases h with rfl | rfl
 .exact⟨by simp[Be],λ _=>⟨l,j⟩,λ h=>absurd h (by simp[aZ])⟩
 .exact⟨by simp[Be],λ _=>⟨l,j⟩,λ h=>absurd h (by simp[aZ])⟩
def Uv (h:a=3\/a=6\/a=7)(j:0<=b)(m:b<e)(n:0<=f)(l:f<e):rQ e ⟨a,b,f,g,d⟩:=by
 rcases h with rfl | rfl | rfl;all_goals exact⟨by simp[Be],λ _=>⟨j,m⟩,λ _=>⟨n,l⟩⟩
def qG {k:az}(h:ae .i64 a)(d:ae .i64 b)(j:ae .i64 f)(e:ae .i64 g)(i:gv k):Row c [Φi a,Φi b,Φi f,Φi g,Φi k.kind,Φi k.n,.string k.s] [(⟨a,b,f,g,k⟩:Xp)]:=
 Row.one ⟨rfl,h,d,j,e,i.ok⟩
end
section
variable {a:Heap}{b c d f:Int}{e:Xp}
def n0:az:=⟨0,0,⟨⟨[]⟩⟩⟩
def GX.one {a:List Xp}(h:GX a)(c:rQ a.length e)(d:gv e.k)(b:a.length<10):GX (a++[e]):=
 h.app ⟨c,trivial⟩ (λ y f=>by grind) b
structure PX (m:Nat)(xs:G')(r:Int)(H:Heap):Prop where
 ex:∃es:List Xp,m=es.length/\Row H xs es/\GX es/\es.length<=4/\0<=r/\r<es.length
abbrev SQ (f:Int):G':=[.int .i64 2,.int .i64 0,.int .i64 0,.int .i64 f,.int .i64 0,.int .i64 0,.string ⟨⟨[]⟩⟩]
def rp {f:Int}(b:ae .i64 f):Row a (SQ f) [(⟨2,0,0,f,n0⟩:Xp)]:=qG (k:=n0) (by grind) (by grind) (by grind) b dD
def Kz:GX [⟨2,0,0,b,n0⟩]:=GX.nil.one (Ky (.inr rfl)) dD (by simp)
def pf2 (g:ae .i64 b)(e:c=0)(h:d=1):PX (1+1) (SQ b++[Φi 11,Φi c,Φi 0,Φi 0,Φi 0,Φi 0,.string ⟨⟨[]⟩⟩]) d a:=by
 subst e h;exact⟨_,rfl,(rp g).append (qG (k:=n0) (by grind) (by grind) (by grind) (by grind) dD),Kz.one (VX (.inr rfl) (by simp) (by simp)) dD (by simp),by simp,by simp,by simp⟩
def Zt {i:G'}{r:Int}(j:ae .i64 b)(n:Row a i [e])(l:gv e.k)(p:rQ 1 e)(h:c=6\/c=7)(m:d=0)(o:f=1)(g:r=2):
  PX (1+1+1) (SQ b++i++[Φi c,Φi d,Φi f,Φi 0,Φi 0,Φi 0,.string ⟨⟨[]⟩⟩]) r a:=by
 subst m o g;have g:ae .i64 c:=by grind
 exact⟨_,rfl,((rp j).append n).append (qG (k:=n0) g (by grind) (by grind) (by grind) dD),(Kz.one p l (by simp)).one (Uv (.inr h) (by simp) (by simp) (by simp) (by simp)) dD (by simp),by simp,by simp,by simp⟩
def Zu {j:G'}{g r:Int}(l:ae .i64 b)(p:Row a j [e])(m:gv e.k)(n:rQ 1 e)(i:c=6\/c=7)(o:d=0)(q:f=1)(s:g=2)(h:r=3):
  PX (1+1+1+1) (SQ b++j++[Φi c,Φi d,Φi f,Φi 0,Φi 0,Φi 0,.string ⟨⟨[]⟩⟩]++[Φi 10,Φi g,Φi 0,Φi 0,Φi 0,Φi 0,.string ⟨⟨[]⟩⟩]) r a:=by
 subst o q s h;have h:ae .i64 c:=by grind
 exact⟨_,rfl,(((rp l).append p).append (qG (k:=n0) h (by grind) (by grind) (by grind) dD)).append (qG (k:=n0) (by grind) (by grind) (by grind) (by grind) dD),
  ((Kz.one n m (by simp)).one (Uv (.inr i) (by simp) (by simp) (by simp) (by simp)) dD (by simp)).one (VX (.inl rfl) (by simp) (by simp)) dD (by simp),by simp,by simp,by simp⟩
def AK {A:D'}{n k q:Nat}(v:Sl a A n k [(1:Int),2])(w:ae .u16 b)(p:ae .u16 c)(S:ae .u16 d)(B:ae .u16 f):
  ZB 72 [.slice none 0 0,.slice A n k,.agg ⟨[Φu b,Φu c,Φu d,Φu f]⟩] a ⟨true,[(false,[.row q 142]),(false,[.int .i64])]⟩ PX:=by
 refine ΦK 0 (aj [17,23] [(1,[2,4,6,8,10,14,16,18,20,22,13,25,26,28,0]),(7,[2,4,6,8,10,12,14,16,18,20,22,24,26,28,30,0]),(9,[2,4,6,8,10,12,14,17,18,21,23,24,0])] []) (λ e=>ΦY 0 4 (let g:=[.int .u16 b,.int .u16 c,.int .u16 d,.int .u16 f];ΦF Xz g (N 0*1) 1 λ h=>∃i:Int,IntKind.wrap IntKind.i64 h=i/\ΦY 1 4 (ΦF Xz g (N 1*1) 1 (λ j=>∃k:Int,IntKind.wrap IntKind.i64 j=k/\C ZP 124 [I i,I (O n)] a λ l m=>C ZP 124 [I k,I (O n)] l λ o p=>1*64<=M/\ΦR (O 1-1)/\ΦY 2 4 (ΦF Xz g (N 2*1) 1 (λ q=>(5:Int)≠0/\let r:=λ(r:Int)=>[Value.int .i64 2,I 0,I 0,I r,I 0,I 0,ΦT ⟨⟨[]⟩⟩];J (Int.tmod q 5=0) ((1+1)*64<=M/\ΦR (O (1+1)-1)/\e (1+1) (r m++[Value.int .i64 11,I (O 1-1),I 0,I 0,I 0,I 0,ΦT ⟨⟨[]⟩⟩]) (O (1+1)-1) o) (ΦX A m n (ΦE ZE o A (N m*1) (λ s=>ΦX A p n (ΦE ZE o A (N p*1) (λ t=>let u:=[Value.int .i64 7,I (O 1-1),I (O 1-1+1),I 0,I 0,I 0,ΦT ⟨⟨[]⟩⟩];let v:=[Value.int .i64 6,I (O 1-1),I (O 1-1+1),I 0,I 0,I 0,ΦT ⟨⟨[]⟩⟩];let w:=[Value.int .i64 10,I (O (1+1+1)-1),I 0,I 0,I 0,I 0,ΦT ⟨⟨[]⟩⟩];let x:=ΦX A m n (ΦE ZE o A (N m*1) (λ x=>ΦY 3 4 (ΦF Xz g (N 3*1) 1 (λ y=>C ZU 125 [I x,.int .u16 y] o λ z a0 a1 a2=>(1+1)*64<=M/\ΦY 2 4 (ΦF Xz g (N 2*1) 1 (λ a3=>(2:Int)≠0/\let a4:=λ a4=>ΦR (O 1-1+1)/\(1+1+1)*64<=M/\ΦY 3 4 (ΦF Xz g (N 3*1) 1 (λ a5=>(4:Int)≠0/\let a6:=r m++[Value.int .i64 1,I 0,I 0,I 0,I a0,I a1,ΦT a2]++a4;J (Int.tmod a5 4=0) (ΦR (O (1+1+1)-1)/\(1+1+1+1)*64<=M/\ΦR (O (1+1+1+1)-1)/\e (1+1+1+1) (a6++w) (O (1+1+1+1)-1) z) (ΦR (O (1+1+1)-1)/\e (1+1+1) a6 (O (1+1+1)-1) z)));J (Int.tmod a3 2=0) (a4 u) (a4 v)))))));J (s=t) (ΦY 2 4 (ΦF Xz g (N 2*1) 1 (λ y=>(5:Int)≠0/\J (Int.tmod y 5<3) ((1+1)*64<=M/\ΦY 2 4 (ΦF Xz g (N 2*1) 1 (λ z=>(2:Int)≠0/\let a0:=λ a0=>ΦR (O 1-1+1)/\(1+1+1)*64<=M/\ΦY 3 4 (ΦF Xz g (N 3*1) 1 (λ a1=>(4:Int)≠0/\J (Int.tmod a1 4=0) (ΦR (O (1+1+1)-1)/\(1+1+1+1)*64<=M/\ΦR (O (1+1+1+1)-1)/\e (1+1+1+1) (r m++r p++a0++w) (O (1+1+1+1)-1) o) (ΦR (O (1+1+1)-1)/\e (1+1+1) (r m++r p++a0) (O (1+1+1)-1) o)));J (Int.tmod z 2=0) (a0 u) (a0 v)))) x))) x))))))))))) ?_;dsimp only[aQ,aR,eQ,C,ΦE,ΦF,M,N,ΦR,ΦX,ΦY,O,J];have L:2=n:=v.len;subst L;simp only[ae]at w p S B;refine⟨by decide,by decide,_,rfl,_,wrap_i64 w.1 (by omega),by decide,by decide,_,rfl,_,wrap_i64 p.1 (by omega),_,CV w.1 (by decide) (by decide),?_⟩;rintro X P e ⟨r,s⟩;refine⟨_,CV p.1 (by decide) (by decide),?_⟩;rintro H2 Q g ⟨E,G⟩;have l:=aa P Q;have m:ae .i64 e:=by omega
 have D:ae .i64 g:=by omega
 obtain⟨Y,F,_,o,rfl,T⟩:=v.at l r s;obtain⟨U,t,_,u,rfl,Z⟩:=v.at l E G;refine⟨by decide,by decide,by decide,by decide,_,rfl,by decide,λ h=>⟨by decide,by decide,pf2 m rfl rfl⟩,λ h=>⟨F,r,s,_,o,t,E,G,_,u,?_⟩⟩;have j:∀{R:Heap} {x y:Int} {z:ByteArray},gv ⟨x,y,z⟩->Row R [Φi 1,Φi 0,Φi 0,Φi 0,Φi x,Φi y,.string z] [(⟨1,0,0,0,⟨x,y,z⟩⟩:Xp)]:=λ i=>qG (by decide) (by decide) (by decide) (by decide) i;refine⟨λ _=>⟨by decide,by decide,_,rfl,by decide,λ _=>?_,λ _=>?_⟩,λ _=>?_⟩
 .refine⟨by decide,by decide,by decide,_,rfl,by decide,λ _=>?_,λ _=>?_⟩;all_goals
   refine⟨by decide,by decide,by decide,by decide,_,rfl,by decide,λ _=>⟨by decide,by decide,by decide,?_⟩,λ _=>⟨by decide,?_⟩⟩
   .exact Zu m (rp D) dD (Ky (.inr rfl)) (by decide) rfl rfl rfl rfl
   .exact Zt m (rp D) dD (Ky (.inr rfl)) (by grind) rfl rfl rfl
 all_goals
  refine⟨F,r,s,_,o,by simp,by simp,_,rfl,_,BF B.1,?_⟩;rintro V W x y z i;refine⟨by simp,by simp,by simp,_,rfl,by simp,λ _=>?_,λ _=>?_⟩;all_goals
   refine⟨by grind,by simp,by simp,by simp,_,rfl,by simp,λ _=>⟨by grind,by simp,by grind,?_⟩,λ _=>⟨by grind,?_⟩⟩
   .exact Zu m (j i) i (Ky (.inl rfl)) (by simp) rfl rfl rfl rfl
   .exact Zt m (j i) i (Ky (.inl rfl)) (by simp) rfl rfl rfl
end
section
variable {a c:Int}{b:Heap}{d:bc}{e:D'}{f:Nat}
abbrev shE:cj:=⟨false,[(true,[.int .i64,.str,.sl,.int .i64,.int .i64,.sl,.int .i64,.sl,.str,.sl,.sl,.sl,.sl,.int .i64,.str,.int .i64])]⟩
def Uw (i:Int)(p:ByteArray)(s:D')(u v:Nat)(h w:Int)(a:D')(g j:Nat)(y:Int)(z:D')(r C:Nat)(b:ByteArray)(A:D')(n c:Nat)(B:D')(m d:Nat)(E:D')(k e:Nat)(F:D')(l f:Nat)(t:Int)(q:ByteArray)(o:Int)(H:Heap):Prop:=
 ∃x:Ed,qj H ⟨i,p,s,u,v,h,w,a,g,j,y,z,r,C,b,A,n,c,B,m,d,E,k,e,F,l,f,t,q,o⟩ x/\GE x
def mt:ByteArray:=⟨⟨[]⟩⟩
def Rg:ae .i64 0:=by decide
def VY:str mt:=abi _
def PW.r (h:PW d):ae .i64 d.lo/\ae .i64 d.hi:=by
 obtain⟨a,b,c⟩:=h;simp[ae];omega
def Ux {t:ByteArray}{c:Nat}{l:List az}(g:Sl b e f c l)(a:PW d)(i:∀v∈l,v2 v):
  Uw 1 t e f c d.lo d.hi none 0 0 0 none 0 0 ⟨⟨[]⟩⟩ none 0 0 none 0 0 none 0 0 none 0 0 0 ⟨⟨[]⟩⟩ 0 b:=
 ⟨⟨1,t,l,d,[],0,[],kr,⟨0,mt,0⟩⟩,⟨rfl,rfl,g,rfl,rfl,Sl.nil,rfl,Sl.nil,ba,rfl,rfl,rfl,a.r.1,a.r.2,Rg,Rg,VY⟩,
  ⟨.inl rfl,λ h=>by grind,λ _=>a,i,λ y j=>by grind⟩⟩
def Rh {t:ByteArray}{c:cz}(g:a=5\/a=6)(e:ae .i64 c.id)(d:str c.name)(f:ae .i64 c.kind):
  Uw a t none 0 0 0 0 none 0 0 0 none 0 0 ⟨⟨[]⟩⟩ none 0 0 none 0 0 none 0 0 none 0 0 c.id c.name c.kind b:=
 ⟨⟨a,t,[],⟨0,0⟩,[],0,[],kr,c⟩,⟨rfl,rfl,Sl.nil,rfl,rfl,Sl.nil,rfl,Sl.nil,ba,rfl,rfl,rfl,Rg,Rg,e,f,d⟩,
  ⟨by grind,λ h=>absurd (show a=2\/a=3 from h) (by omega),λ h=>absurd (show a<=3 from h) (by omega),λ v i=>(by grind),λ y j=>by grind⟩⟩
def Uy {t:ByteArray}{B:D'}{h m g:Nat}{j:List Xp}{i:List xP}(z:a=2\/a=3)(x:Sl b e f h j)(o:GX j)(u:c= -1\/0<=c/\c<j.length)(w:Sl b B m g i)(q:Rx j i)(l:PW d):
  Uw a t none 0 0 d.lo d.hi e f h c B m g ⟨⟨[]⟩⟩ none 0 0 none 0 0 none 0 0 none 0 0 0 ⟨⟨[]⟩⟩ 0 b:=
 ⟨⟨a,t,[],d,j,c,i,kr,⟨0,mt,0⟩⟩,⟨rfl,rfl,Sl.nil,rfl,rfl,x,rfl,w,ba,rfl,rfl,rfl,l.r.1,l.r.2,Rg,Rg,VY⟩,
  ⟨by grind,λ _=>⟨o.ok,u,q⟩,λ _=>l,λ v C=>(by grind),λ y s=>(o.k y s).1⟩⟩
def z0 (c:ByteArray):Iq:=⟨1,c,none,0,0,0,0,none,0,0,0,none,0,0,⟨⟨[]⟩⟩,none,0,0,none,0,0,none,0,0,none,0,0,0,⟨⟨[]⟩⟩,0⟩
def Uz (c:0<=a)(b:a<9):∃e,win [Φi 1,Φi 1,Φi 1,Φi 1,Φi 3,Φi 3,Φi 2,Φi 5,Φi 6] (Int.toNat a*1) 1=[Φi e]/\(e=1\/e=2\/e=3\/e=5\/e=6):=by
 obtain rfl | rfl | rfl | rfl | rfl | rfl | rfl | rfl | rfl:a=0\/a=1\/a=2\/a=3\/a=4\/a=5\/a=6\/a=7\/a=8:=by omega
 all_goals exact⟨_,rfl,by decide⟩
def SR (i:Cells b e 0 [Φi a,Φi c])(j:1<=f)(d:ae .i64 a)(g:ae .i64 c):Sl b e 1 f [(⟨a,c⟩:xP)]:=by
 have h:Rep.rel b _ (⟨a,c⟩:xP):=⟨rfl,d,g⟩;exact(Row.one h).sl (ah _) i rfl j (by decide) (by simp)
def SS {H:Heap}{t:Int}{s:ByteArray}(g:0<=t)(e:t<=10)(d:gv ⟨a,c,s⟩):
  Row H [Φi 2,Φi 0,Φi 0,Φi 0,Φi 0,Φi 0,.string ⟨⟨[]⟩⟩,Φi 1,Φi 0,Φi 0,Φi 0,Φi a,Φi c,.string s,Φi 3,Φi t,Φi (t+1),Φi 0,Φi 0,Φi 0,.string ⟨⟨[]⟩⟩]
   [(⟨2,0,0,0,n0⟩:Xp),⟨1,0,0,0,⟨a,c,s⟩⟩,⟨3,t,t+1,0,n0⟩]:=
 ((rp (f:=0) (by decide)).append (qG (k:=⟨a,c,s⟩) (by decide) (by decide) (by decide) (by decide) d)).append (qG (k:=n0) (by decide) (by simp[ae];omega) (by simp[ae];omega) (by decide) dD)
def UA {a:List Xp}{v:az}(c:GX a)(e:a.length<=4)(d:gv v):GX (a++[(⟨2,0,0,0,n0⟩:Xp),⟨1,0,0,0,v⟩,⟨3,a.length,a.length+1,0,n0⟩]):=by
 refine c.app ⟨Ky (.inr rfl),Ky (.inl rfl),Uv (.inl rfl) (by simp) (by omega) (by omega) (by omega),trivial⟩ (λ x b=>?_) (by grind);simp at b;rcases b with rfl | rfl | rfl
 .exact dD
 .grind
 .exact dD
def CW {x0 x1 F x3 x4 x5 x6 x7:Int}{H:Heap}(h0:ae .u16 x0)(h1:ae .u16 x1)(P:ae .u16 F)(h3:ae .u16 x3)(h4:ae .u16 x4)(h5:ae .u16 x5)(h6:ae .u16 x6)(h7:ae .u16 x7):
  ZB 28 [.agg ⟨[Φu x0,Φu x1,Φu F,Φu x3,Φu x4,Φu x5,Φu x6,Φu x7]⟩] H shE Uw:=by
 refine ΦK 3 {aj [9] [(10,[2,4,6,8,11,13,15,16,19,0]),(15,[4,6,8,10,12,14,16,18,20,3,23,24,26,28,30,33,34,37,0]),(20,[2,4,6,8,10,12,14,16,22,24,26,28,19,20,31,33,34,37,0])] [(8,[ag 5,.box 3 48 [.int .i64,.str,.row 151 133,.int .i64,.int .i64,.sl,.int .i64,.sl,.str,.sl,.sl,.sl,.sl,.int .i64,.str,.int .i64]])]with res:=wj [(26,⟨false,[(false,[.row 149 133])]⟩),(72,⟨true,[(false,[.row 150 142]),(false,[.int .i64])]⟩)]} (λ a=>ΦY 1 8 (let b:=[.int .u16 x0,.int .u16 x1,.int .u16 F,.int .u16 x3,.int .u16 x4,.int .u16 x5,.int .u16 x6,.int .u16 x7];ΦF Xz b (N 1*1) 1 λ c=>C YE 69 [.int .u16 c] H λ d e=>L [Value.int .i64 0,I 0,I 0,I 0,I 0,I 0,I 0,I 0,I 0]=9/\ΦY 0 8 (ΦF Xz b (N 0*1) 1 (λ f=>(9:Int)≠0/\ΦY (Int.tmod f 9) 9 (ΦF ZE [I 1,I 1,I 1,I 1,I 3,I 3,I 2,I 5,I 6] (N (Int.tmod f 9)*1) 1 (λ g=>J (g=1) (ΦY 2 8 (ΦF Xz b (N 2*1) 1 (λ h=>ΦY 3 8 (ΦF Xz b (N 3*1) 1 (λ i=>C Ze 58 [.int .u16 h,.int .u16 i] d λ j k l=>W Yp j (λ m=>m 2 g e k l 0 0 none 0 0 0 none 0 0 ⟨⟨[]⟩⟩ none 0 0 none 0 0 none 0 0 none 0 0 0 ⟨⟨[]⟩⟩ 0 j) λ m n o p q r s t u v w x y z a0 a1 a2 a3 a4 a5 a6 a7 a8 a9 b0 b1 b2 b3 b4 b5 b6 b7 b8=>ΦY 4 8 (ΦF Xz b (N 4*1) 1 (λ b9=>(5:Int)≠0/\∃c0:Int,IntKind.wrap IntKind.i64 (Int.tmod b9 5)=c0/\(3:Int)≠0/\ΦR (Int.tdiv c0 3)/\ΦR (2+Int.tdiv c0 3)/\J (p<2+Int.tdiv c0 3) (ΦY 5 8 (ΦF Xz b (N 5*1) 1 (λ c1=>C ZU 70 [I 0,.int .u16 c1] o λ c2 c3 c4 c5=>(s+1)*32<=M/\ΦR (p+1)/\let c6:=t++[Value.int .i64 c3,I c4,ΦT c5];m (p+1) q r (s+1) c6 u v w x y z a0 a1 a2 a3 a4 a5 a6 a7 a8 a9 b0 b1 b2 b3 b4 b5 b6 b7 b8 c2/\n (p+1) q r (s+1) c6 u v w x y z a0 a1 a2 a3 a4 a5 a6 a7 a8 a9 b0 b1 b2 b3 b4 b5 b6 b7 b8<n p q r s t u v w x y z a0 a1 a2 a3 a4 a5 a6 a7 a8 a9 b0 b1 b2 b3 b4 b5 b6 b7 b8))) (ΦY 6 8 (ΦF Xz b (N 6*1) 1 (λ c1=>ΦY 7 8 (ΦF Xz b (N 7*1) 1 (λ c2=>C Zf 71 [.int .u16 c1,.int .u16 c2] o λ c3 c4 c5=>U c3 t s λ c6 c7 c8=>a q r c6 s c7 c4 c5 w x y z a0 a1 a2 a3 a4 a5 a6 a7 a8 a9 b0 b1 b2 b3 b4 b5 b6 b7 b8 c8)))))))))))) (let h:=ΦY 6 8 (ΦF Xz b (N 6*1) 1 (λ h=>ΦY 7 8 (ΦF Xz b (N 7*1) 1 (λ i=>C Zf 71 [.int .u16 h,.int .u16 i] d λ j k l=>ΦY 2 8 (ΦF Xz b (N 2*1) 1 (λ m=>ΦY 3 8 (ΦF Xz b (N 3*1) 1 (λ n=>ΦY 4 8 (ΦF Xz b (N 4*1) 1 (λ o=>ΦY 5 8 (ΦF Xz b (N 5*1) 1 (λ p=>C ZT 73 [] j λ q r s t=>C Zg 72 [S none 0 0,S r s t,ΦG [.int .u16 m,.int .u16 n,.int .u16 o,.int .u16 p]] q λ u v w x=>ΦY 4 8 (ΦF Xz b (N 4*1) 1 (λ y=>(4:Int)≠0/\let z:=λ(z a0:Int) a1=>w++[Value.int .i64 2,I 0,I 0,I 0,I 0,I 0,ΦT ⟨⟨[]⟩⟩,I 1,I 0,I 0,I 0,I z,I a0,ΦT a1,I 3,I (O v),I (O v+1),I 0,I 0,I 0,ΦT ⟨⟨[]⟩⟩];let a0:=λ(a0:Int)=>[I a0,I (O v+1)];let a1:=λ a1 (a2 a3:Int) a4 (a5:Int) a6 (a7:Int)=>let a8:=U a1 (z a2 a3 a4) (v+3) λ a8 a9 b0=>U b0 (a0 a5) 1 λ b1 b2 b3=>a6 a8 a9 b1 b2 b3;J (Int.tmod a7 2=0) (ΦY 5 8 (ΦF Xz b (N 5*1) 1 (λ a9=>(3:Int)≠0/\J (Int.tmod a9 3=0) (ΦR (O v+2)/\ΦY 0 1 (N 0*2+1+1<=L [Value.int .i64 a5,I (O v+1)]/\U a1 (z a2 a3 a4) (v+3) (λ b0 b1 b2=>U b2 (av (a0 a5) (N 0*2+1) [I (O v+2)]) 1 λ b3 b4 b5=>a6 b0 b1 b3 b4 b5))) a8))) a8;J (Int.tmod y 4=3) (J (g=3) (ΦY 2 8 (ΦF Xz b (N 2*1) 1 (λ a2=>∃a3:Int,IntKind.wrap IntKind.i64 a2=a3/\ΦY 5 8 (ΦF Xz b (N 5*1) 1 (λ a4=>ΦR (O v+1)/\C ZU 70 [I a3,.int .u16 a4] u λ a5 a6 a7 a8=>(v+3)*64<=M/\ΦY 2 8 (ΦF Xz b (N 2*1) 1 (λ a9=>(2:Int)≠0/\∃b0:Int,IntKind.wrap IntKind.i64 (Int.tmod a9 2)=b0/\ΦR (O v+1)/\ΦY 2 8 (ΦF Xz b (N 2*1) 1 (λ b1=>(2:Int)≠0/\let b2:=λ b2 (b3:Nat) b4 (b5:Nat) b6=>a g e none 0 0 k l b2 (v+3) b3 (-1) b4 1 b5 ⟨⟨[]⟩⟩ none 0 0 none 0 0 none 0 0 none 0 0 0 ⟨⟨[]⟩⟩ 0 b6;a1 a5 a6 a7 a8 b0 b2 b1))))))))) (U u w v (λ a2 a3 a4=>a g e none 0 0 k l a2 v a3 (-1) none 0 0 ⟨⟨[]⟩⟩ none 0 0 none 0 0 none 0 0 none 0 0 0 ⟨⟨[]⟩⟩ 0 a4))) (J (g=3) (ΦY 2 8 (ΦF Xz b (N 2*1) 1 (λ a2=>∃a3:Int,IntKind.wrap IntKind.i64 a2=a3/\ΦY 5 8 (ΦF Xz b (N 5*1) 1 (λ a4=>ΦR (O v+1)/\C ZU 70 [I a3,.int .u16 a4] u λ a5 a6 a7 a8=>(v+3)*64<=M/\ΦY 2 8 (ΦF Xz b (N 2*1) 1 (λ a9=>(2:Int)≠0/\∃b0:Int,IntKind.wrap IntKind.i64 (Int.tmod a9 2)=b0/\ΦR (O v+1)/\ΦY 2 8 (ΦF Xz b (N 2*1) 1 (λ b1=>(2:Int)≠0/\let b2:=λ b2 (b3:Nat) b4 (b5:Nat) b6=>a g e none 0 0 k l b2 (v+3) b3 x b4 1 b5 ⟨⟨[]⟩⟩ none 0 0 none 0 0 none 0 0 none 0 0 0 ⟨⟨[]⟩⟩ 0 b6;a1 a5 a6 a7 a8 b0 b2 b1))))))))) (U u w v (λ a2 a3 a4=>a g e none 0 0 k l a2 v a3 x none 0 0 ⟨⟨[]⟩⟩ none 0 0 none 0 0 none 0 0 none 0 0 0 ⟨⟨[]⟩⟩ 0 a4)))))))))))))))));let i:=J (g=5) (ΦY 2 8 (ΦF Xz b (N 2*1) 1 (λ i=>(3:Int)≠0/\∃j:Int,IntKind.wrap IntKind.i64 (Int.tmod i 3)=j/\ΦR (2+j)/\C YD 74 [I (2+j)] d λ k l m n=>a g e none 0 0 0 0 none 0 0 0 none 0 0 ⟨⟨[]⟩⟩ none 0 0 none 0 0 none 0 0 none 0 0 l m n k))) (J (g=6) (ΦY 2 8 (ΦF Xz b (N 2*1) 1 (λ i=>(4:Int)≠0/\∃j:Int,IntKind.wrap IntKind.i64 (Int.tmod i 4)=j/\ΦR (2+j)/\a g e none 0 0 0 0 none 0 0 0 none 0 0 ⟨⟨[]⟩⟩ none 0 0 none 0 0 none 0 0 none 0 0 (2+j) ⟨⟨[]⟩⟩ 0 d))) (a g e none 0 0 0 0 none 0 0 0 none 0 0 ⟨⟨[]⟩⟩ none 0 0 none 0 0 none 0 0 none 0 0 0 ⟨⟨[]⟩⟩ 0 d));J (g=3) (J (g=3) h i) (J (g=2) h i)))))))) ?_;dsimp only[PL,aQ,aR,aW,eQ,C,ΦF,L,M,N,ΦR,W,ΦY,O,J];have d9:=dM h0.1 (m:=9) (by decide);have d5:=dM h4.1 (m:=5) (by decide);have d3:=dM P.1 (m:=3) (by decide);have d4:=dM P.1 (m:=4) (by decide);have d2:=dM P.1 (m:=2) (by decide);have z:=SP h6.1 h7.1;have g2:=P;simp only[ae]at P;refine⟨by decide,by decide,_,rfl,_,zB h1.1,?_⟩;rintro H1 l1 c ⟨-,b2⟩;obtain⟨e,he,b3⟩:=Uz d9.1 d9.2;refine⟨by decide,by decide,by decide,_,rfl,by decide,d9.1,d9.2,e,he,λ V=>?_,λ V=>?_⟩
 .have V:=aab V;subst V;refine⟨by decide,by decide,_,rfl,by decide,by decide,_,rfl,_,Kw P.1 h3.1,?_⟩;rintro H2 l2 m xs ⟨l,rfl,y,hl,o⟩;refine⟨λ i k t n xs vf vt xA xn xc ep sA sn sc nm A1 n1 c1 A2 n2 c2 A3 n3 c3 A4 n4 c4 ci cn ck H'=>2<=i/\i<=3/\(∃l:List az,n=l.length/\Row H' xs l/\l.length<=i/\∀v∈l,v2 v)/\(⟨k,t,none,0,0,vf,vt,xA,xn,xc,ep,sA,sn,sc,nm,A1,n1,c1,A2,n2,c2,A3,n3,c3,A4,n4,c4,ci,cn,ck⟩:Iq)=z0 c,
   λ i _ _ _ _ _ _ _ _ _ _ _ _ _ _ _ _ _ _ _ _ _ _ _ _ _ _ _ _ _=>(4-i).toNat,⟨by omega,by omega,⟨l,rfl,y,by omega,o⟩,rfl⟩,?_⟩
  rintro H3 l3 i k t n xs vf vt xA xn xc ep sA sn sc nm A1 n1 c1 A2 n2 c2 A3 n3 c3 A4 n4 c4 ci cn ck ⟨i0,i1,⟨l,rfl,y,hl,o⟩,hz⟩;simp only[Iq.mk.injEq,z0,true_and,and_true]at hz;obtain⟨rfl,rfl,rfl,rfl,rfl,rfl,rfl,rfl,rfl,rfl,rfl,rfl,rfl,rfl,rfl,rfl,rfl,rfl,rfl,rfl,rfl,rfl,rfl,rfl,rfl,rfl,rfl⟩:=hz;dsimp only;have q:(x4.tmod 5).tdiv 3=(x4.tmod 5)/3:=Int.tdiv_eq_ediv_of_nonneg d5.1;refine⟨by decide,by decide,_,rfl,by decide,_,wrap_i64 d5.1 (by omega),by decide,by simp only[ae];omega,by simp only[ae];omega,λ a1=>?_,λ b4=>?_⟩
  .have a1:=aab a1;refine⟨by decide,by decide,_,rfl,_,gJ h5.1,?_⟩;rintro H4 l4 a b s G;refine⟨by omega,by simp only[ae];omega,⟨by omega,by omega,⟨l++[⟨a,b,s⟩],by simp,(y.mono l4).append (Row.one (T:=az) (t:=⟨a,b,s⟩) ⟨rfl,G.ok⟩),by simp;omega,λ v j=>?_⟩,rfl⟩,by omega⟩;rcases aam.1 j with j | j
   .exact o v j
   .rw[aaD.1 j];exact G.1
  .refine⟨by decide,by decide,_,rfl,by decide,by decide,_,rfl,_,wK h6.1 h7.1,?_⟩;rintro H4 l4 lo hi X;intro A c2 R l5 hc hn;have:=Ux (t:=t) (y.sl (aa l4 l5) hc rfl hn (by show l.length*32<=_;omega) (by omega)) z o;rw[<-X]at this;exact this
 have V:=aac V;have a0:∀{H':Heap} {A B:D'} {n c' m d:Nat} {f:List Xp} {a3:List xP} {lo hi r:Int},(⟨lo,hi⟩:bc)=Ni x6 x7->(e=2\/e=3)->Sl H' A n c' f->GX f->(r= -1\/0<=r/\r<f.length)->Sl H' B m d a3->Rx f a3->Uw e c none 0 0 lo hi A n c' r B m d ⟨⟨[]⟩⟩ none 0 0 none 0 0 none 0 0 none 0 0 0 ⟨⟨[]⟩⟩ 0 H':=
  λ X hk hx G y hs ho=>by
   have:=Uy (t:=c) hk hx G y hs ho z;rw[<-X]at this;exact this
 refine⟨λ Q=>⟨λ _=>?f1,λ k=>?x⟩,λ Q=>⟨λ k2=>?f2,λ k2=>?g⟩⟩;case x=>rw[Q]at k;cases k
 case f1 | f2=>
  have D:e=2\/e=3:=by first | exact .inr (aab Q) | exact .inl (aab k2)
  refine⟨by grind,by grind,_,rfl,by grind,by grind,_,rfl,_,wK h6.1 h7.1,?_⟩;rintro H2 l2 lo hi X;refine⟨by grind,by grind,_,rfl,by grind,by grind,_,rfl,by grind,by grind,_,rfl,by grind,by grind,_,rfl,_,Kx,?_⟩;rintro H3 l3 A n c' hK;refine⟨_,AK hK g2 h3 h4 h5,?_⟩;rintro H4 l4 t xs v ⟨f,rfl,y,G,hl,v0,v1⟩;have b1:∀{r:Int} {A5:Option _} {c5:Nat} {R:Heap},¬e=3->(r= -1\/0<=r/\r<f.length)->Heap.le _ _->Cells R A5 0 _->f.length<=c5->Uw e c _ 0 0 _ _ _ _ _ r none 0 0 _ _ 0 0 _ 0 0 _ 0 0 _ 0 0 0 _ 0 _:=
   λ h3 E a7 hc hn=>a0 X D (y.sl a7 hc rfl hn (by show f.length*64<=_;omega) (by omega)) G E Sl.nil (λ a ha=>by grind)
  have a2:∀{r F u a b:Int} {s:ByteArray} {A5 A6:Option _} {c5 c6:Nat} {R H6 H7:Heap},(r= -1\/0<=r/\r<f.length)->gv ⟨a,b,s⟩->Heap.le _ _->Heap.le R _->Cells _ A5 0 _->f.length+3<=c5->Heap.le _ _->Cells _ A6 0 [.int _ _,.int _ u]->1<=c6->ae _ F->0<=u->u<f.length+3->
    Uw e c _ 0 0 _ _ _ _ _ r _ 1 _ _ _ 0 0 _ 0 0 _ 0 0 _ 0 0 0 _ 0 H7:=λ {r F u a b s A5 A6 c5 c6 R H6 H7} E o a5 b0 a9 a8 a6 p w hx u0 u1=>by
   refine a0 X D ((((y.mono (aa a5 b0)).append (SS (H:=H6) (t:=f.length) (by simp) (by omega) o)).sl (ah _) a9 (by simp) a8 (by show(f.length+3)*64<=_;omega) (by grind)).mono a6) (UA G hl o) (E.imp id λ h=>⟨h.1,by grind⟩) (SR p w hx (by simp[ae];omega)) λ a ha=>?_;grind
  refine⟨by simp,by simp,_,rfl,by simp,λ _=>⟨λ Q=>?a,λ Q=>?b⟩,λ _=>⟨λ Q=>?c,λ Q=>?d⟩⟩;case b=>grind
  case d=>grind
  case a | c=>
   refine⟨by simp,by simp,_,rfl,_,wrap_i64 P.1 (by omega),by simp,by simp,_,rfl,by simp[ae];omega,_,gJ h5.1,?_⟩;rintro R l5 a b s o;have Y:ae .i64 (F.tmod 2):=by simp[ae];omega
   refine⟨by omega,by simp,by simp,_,rfl,by simp,_,wrap_i64 d2.1 (by omega),by simp[ae];omega,by simp,by simp,_,rfl,by simp,λ _=>⟨by simp,by simp,_,rfl,by simp,λ _=>⟨by simp[ae];omega,by simp,by simp,by simp,?_⟩,λ _=>?_⟩,λ _=>?_⟩;all_goals
    intro A5 c5 H6 l6 p w;intro A6 c6 H7 l7 Z a4;first
     | exact a2 (.inl rfl) o l5 l6 p w l7 Z a4 Y (by omega) (by omega)
     | exact a2 (.inr ⟨v0,v1⟩) o l5 l6 p w l7 Z a4 Y (by omega) (by simp)
 case g=>
  refine⟨λ k5=>⟨by simp,by simp,_,rfl,by simp,_,wrap_i64 d3.1 (by omega),by simp[ae];omega,_,wF (by omega) (by omega),?_⟩,λ k5=>⟨λ k6=>⟨by simp,by simp,_,rfl,by simp,_,wrap_i64 d4.1 (by omega),by simp[ae];omega,?_⟩,λ k6=>?_⟩⟩
  .rintro H2 l2 a b k ⟨-,r1,r2,r3⟩;exact Rh (c:=⟨a,b,k⟩) (.inl (aab k5)) r1 r2 r3
  .exact Rh (c:=⟨2+F.tmod 4,mt,0⟩) (.inr (aab k6)) (by simp[ae];omega) VY Rg
  grind
end
section
variable {a:Heap}{b:ByteArray}
structure VZ (nm:ByteArray)(a b c d:Int)(nm':ByteArray)(A:D')(n k:Nat)(B:D')(m e:Nat)(rn:Nat)(rxs:G')(F:D')(l f:Nat)(H:Heap):Prop where
 z:nm=nm'
 s:str nm
 vers:Sl H A n k [(⟨⟨0,1099511627776⟩,vp (2+(a.tmod 2).toNat)⟩:dh)]
 key:Sl H B m e (mkKey b)
 rn:rn=(jF c).length
 row:Row H rxs (jF c)
 cst:Sl H F l f (jR d)
def oH {H:Heap}{nm:ByteArray}{a b c d:Int}{q:Nat}(hn:str nm)(ha:ae .u16 a)(hb:ae .u16 b)(X:ae .u16 c)(hd:ae .u16 d):
  ZB 57 [.string nm,.agg ⟨[Φu a,Φu b,Φu c,Φu d]⟩] H ⟨false,[(true,[.str,.sl,.sl,.row q 68,.sl])]⟩
   (VZ nm a b c d):=by
 refine ΦK 1 (aj [49] [(5,[2,4,6,9,11,13,14,17,0])] [(3,[ag 6,.box 5 87 [.int .i64,.int .i64,.row 70 46]])]) (λ e=>W Xy H (λ f=>f 0 0 1099511627776 0 [] H) λ f g h i j k l m=>ΦY 0 4 (let n:=[.int .u16 a,.int .u16 b,.int .u16 c,.int .u16 d];ΦF Xz n (N 0*1) 1 λ o=>(2:Int)≠0/\∃p:Int,IntKind.wrap IntKind.i64 (Int.tmod o 2)=p/\ΦR (2+p)/\J (i<2+p) (C YD 74 [I i] h (λ q r s t=>(l+1)*32<=M/\ΦR (i+1)/\let u:=m++[Value.int .i64 r,ΦT s,I t];f (i+1) j k (l+1) u q/\g (i+1) j k (l+1) u<g i j k l m)) (U h m l (λ q r s=>ΦY 1 4 (ΦF Xz n (N 1*1) 1 (λ t=>(5:Int)≠0/\let u:=[I j,I k,S q l r];let v:=λ v (w:Nat) x y (z:Nat)=>[S v 1 w,ΦT x,S y 1 z];let w:=λ w (x:Nat)=>[I 1,S w 1 x];let x:=λ x (y:Nat)=>[I 2,S x 2 y];let y:=λ y z=>U y [I 1,I 2] 2 λ a0 a1 a2=>z a2 x a0 a1;let z:=λ z a0=>y z a0;let a0:=λ a0 a1=>U a0 [I 2] 1 λ a2 a3 a4=>a1 a4 w a2 a3;let a1:=λ a1 a2=>a0 a1 a2;let a2:=λ(a2:Int)=>[.int .u16 (Int.tdiv a2 5)];J (Int.tmod t 5=1) (ΦY 2 4 (ΦF Xz n (N 2*1) 1 (λ a3=>(5:Int)≠0/\J (Int.tmod a3 5=1) (ΦY 2 4 (ΦF Xz n (N 2*1) 1 (λ a4=>(5:Int)≠0/\ae .u16 (Int.tdiv a4 5)/\C YE 69 (a2 a4) s λ a5 a6=>U a5 [I 1] 1 λ a7 a8 a9=>U a9 [I 1] 1 λ b0 b1 b2=>ΦY 3 4 (ΦF Xz n (N 3*1) 1 (λ b3=>(6:Int)≠0/\let b4:=λ b4 b5 b6 (b7:Nat)=>U b4 u 1 λ b8 b9 c0=>U c0 [I 1] 1 λ c1 c2 c3=>U c3 (b5 b6 b7) 1 λ c4 c5 c6=>e nm b8 1 b9 c1 1 c2 1 (v a7 a8 a6 b0 b1) c4 1 c5 c6;J (Int.tmod b3 6=1) (a1 b2 b4) (J (Int.tmod b3 6=2) (z b2 b4) (U b2 u 1 (λ b5 b6 b7=>U b7 [I 1] 1 λ b8 b9 c0=>e nm b5 1 b6 b8 1 b9 1 (v a7 a8 a6 b0 b1) none 0 0 c0)))))))) (ΦY 3 4 (ΦF Xz n (N 3*1) 1 (λ a4=>(6:Int)≠0/\let a5:=λ a5 a6 a7 (a8:Nat)=>U a5 u 1 λ a9 b0 b1=>U b1 [I 1] 1 λ b2 b3 b4=>U b4 (a6 a7 a8) 1 λ b5 b6 b7=>e nm a9 1 b0 b2 1 b3 0 [] b5 1 b6 b7;J (Int.tmod a4 6=1) (a1 s a5) (J (Int.tmod a4 6=2) (z s a5) (U s u 1 (λ a6 a7 a8=>U a8 [I 1] 1 λ a9 b0 b1=>e nm a6 1 a7 a9 1 b0 0 [] none 0 0 b1))))))))) (J (Int.tmod t 5=2) (ΦY 2 4 (ΦF Xz n (N 2*1) 1 (λ a3=>(5:Int)≠0/\J (Int.tmod a3 5=1) (ΦY 2 4 (ΦF Xz n (N 2*1) 1 (λ a4=>(5:Int)≠0/\ae .u16 (Int.tdiv a4 5)/\C YE 69 (a2 a4) s λ a5 a6=>U a5 [I 1] 1 λ a7 a8 a9=>U a9 [I 1] 1 λ b0 b1 b2=>ΦY 3 4 (ΦF Xz n (N 3*1) 1 (λ b3=>(6:Int)≠0/\let b4:=λ b4 b5 b6 (b7:Nat)=>U b4 u 1 λ b8 b9 c0=>U c0 [I 2,I 1] 2 λ c1 c2 c3=>U c3 (b5 b6 b7) 1 λ c4 c5 c6=>e nm b8 1 b9 c1 2 c2 1 (v a7 a8 a6 b0 b1) c4 1 c5 c6;J (Int.tmod b3 6=1) (a1 b2 b4) (J (Int.tmod b3 6=2) (z b2 b4) (U b2 u 1 (λ b5 b6 b7=>U b7 [I 2,I 1] 2 λ b8 b9 c0=>e nm b5 1 b6 b8 2 b9 1 (v a7 a8 a6 b0 b1) none 0 0 c0)))))))) (ΦY 3 4 (ΦF Xz n (N 3*1) 1 (λ a4=>(6:Int)≠0/\let a5:=λ a5 a6 a7 (a8:Nat)=>U a5 u 1 λ a9 b0 b1=>U b1 [I 2,I 1] 2 λ b2 b3 b4=>U b4 (a6 a7 a8) 1 λ b5 b6 b7=>e nm a9 1 b0 b2 2 b3 0 [] b5 1 b6 b7;J (Int.tmod a4 6=1) (a1 s a5) (J (Int.tmod a4 6=2) (z s a5) (U s u 1 (λ a6 a7 a8=>U a8 [I 2,I 1] 2 λ a9 b0 b1=>e nm a6 1 a7 a9 2 b0 0 [] none 0 0 b1))))))))) (ΦY 2 4 (ΦF Xz n (N 2*1) 1 (λ a3=>(5:Int)≠0/\J (Int.tmod a3 5=1) (ΦY 2 4 (ΦF Xz n (N 2*1) 1 (λ a4=>(5:Int)≠0/\ae .u16 (Int.tdiv a4 5)/\C YE 69 (a2 a4) s λ a5 a6=>U a5 [I 1] 1 λ a7 a8 a9=>U a9 [I 1] 1 λ b0 b1 b2=>ΦY 3 4 (ΦF Xz n (N 3*1) 1 (λ b3=>(6:Int)≠0/\let b4:=λ b4 b5 b6 (b7:Nat)=>U b4 u 1 λ b8 b9 c0=>U c0 (b5 b6 b7) 1 λ c1 c2 c3=>e nm b8 1 b9 none 0 0 1 (v a7 a8 a6 b0 b1) c1 1 c2 c3;J (Int.tmod b3 6=1) (a0 b2 b4) (J (Int.tmod b3 6=2) (y b2 b4) (U b2 u 1 (λ b5 b6 b7=>e nm b5 1 b6 none 0 0 1 (v a7 a8 a6 b0 b1) none 0 0 b7)))))))) (ΦY 3 4 (ΦF Xz n (N 3*1) 1 (λ a4=>(6:Int)≠0/\let a5:=λ a5 a6 a7 (a8:Nat)=>U a5 u 1 λ a9 b0 b1=>U b1 (a6 a7 a8) 1 λ b2 b3 b4=>e nm a9 1 b0 none 0 0 0 [] b2 1 b3 b4;J (Int.tmod a4 6=1) (a0 s a5) (J (Int.tmod a4 6=2) (y s a5) (U s u 1 (λ a6 a7 a8=>e nm a6 1 a7 none 0 0 0 [] none 0 0 a8)))))))))))))))) ?_;dsimp only[PL,aQ,aR,aW,eQ,C,ΦF,I,M,N,ΦR,S,ΦT,U,W,ΦY,J];simp only[ae]at ha hb X hd;have e0:a.tmod 2=a%2:=acG ha.1;have hq:0<=c.tdiv 5/\c.tdiv 5<=65535:=by rw[Int.tdiv_eq_ediv_of_nonneg X.1];omega
 refine⟨λ i lo hi n xs f=>0<=i/\i<=2+a.tmod 2/\lo=0/\hi=1099511627776/\n=i.toNat/\Row f xs (vp i.toNat),λ i _ _ _ _=>(2+a.tmod 2-i).toNat,⟨by omega,by omega,rfl,rfl,rfl,rfl⟩,?_⟩;rintro H2 l2 i _ _ _ xs ⟨i0,i1,rfl,rfl,rfl,P⟩;refine⟨by decide,by decide,_,rfl,by decide,a.tmod 2,IntWalk.i64_in _ (by omega),by simp only[ae];omega,λ z=>?_,λ w=>?_⟩
 .have z:=aab z;refine⟨_,wF i0 (by omega),?_⟩;rintro O L p q r ⟨m,l,k,o⟩;refine⟨by omega,by simp only[ae];omega,⟨by omega,by omega,rfl,rfl,by omega,?_⟩,by dsimp only;omega⟩;rw[show(i+1).toNat=i.toNat+1 by omega,vp,List.range_succ,aaR];refine(P.mono L).append (Row.one ?_);show Rep.rel O _ (PJ ((i.toNat:Nat):Int));rw[show((i.toNat:Nat):Int)=i by omega,<-m];exact⟨rfl,l,k,o⟩
 have w:=aac w;have ei:i.toNat=2+(a.tmod 2).toNat:=by omega
 rw[ei]at P;rw[ei];intro V E O L g3 F;have hs:∀{f},Heap.le O f->Sl f V (2+(a.tmod 2).toNat) E (vp (2+(a.tmod 2).toNat)):=λ a1=>(P.sl L g3 (by simp[vp]) F (by show _*32<=_;omega) (by omega)).mono a1;clear w ei P L g3 F i0 i1 l2;have D:∀{f:Heap} {Q:D'} {j:Nat} {R:D'} {m1 d1:Nat} {Y:Nat} {v:G'} {F1:D'} {l1 G:Nat} {g:Heap},Cells g Q 0 [Φi 0,Φi 1099511627776,.slice V (2+(a.tmod 2).toNat) E]->Heap.le g f->Heap.le O f->1<=j->
   Sl f R m1 d1 (mkKey b)->(Y=(jF c).length/\Row f v (jF c))->Sl f F1 l1 G (jR d)->VZ nm a b c d nm Q 1 j R m1 d1 Y v F1 l1 G f:=by
  intro f Q j R m1 d1 Y v F1 l1 G g k l m o t s h7;exact⟨rfl,hn,qg k l o ⟨V,_,E,rfl,by simp[ae],by simp[ae],hs m⟩ (by decide),t,s.1,s.2,h7⟩
 have k1:∀{g f:Heap} {A:D'} {j:Nat},decide (b.tmod 5=1)=true->Cells g A 0 [Φi 1]->Heap.le g f->1<=j->Sl f A 1 j (mkKey b):=λ h m l k=>by
  rw[mkKey,if_pos (aab h)];exact qg m l k ⟨rfl,by simp[ae]⟩ (by decide)
 have k2:∀{g f:Heap} {A:Option _} {j:Nat},decide _=false->decide _=true->Cells _ A 0 _->Heap.le g _->2<=j->Sl f A 2 _ (mkKey b):=λ h u m l k=>by
  rw[mkKey,if_neg (aac h),if_pos (aab u)];exact Ee m l k (by simp[ae]) (by simp[ae])
 have k3:∀{f:Heap},decide _=false->decide _=false->Sl f none 0 0 (mkKey b):=λ h u=>by
  rw[mkKey,if_neg (aac h),if_neg (aac u)];exact Sl.nil
 have G:∀{y H2 f:Heap} {B e:Option _} {x E:Nat},decide _=true->Cells y B 0 _->Heap.le _ f->1<=x->
   Cells H2 e 0 _->Heap.le _ _->1<=E->str (tableName _)->1=(jF c).length/\Row _ [.slice B 1 _,.string (tableName _),.slice e 1 _] (jF c):=λ h o t s h7 h8 h9 Z=>by
  rw[jF,if_pos (aab h)];exact⟨rfl,Row.one ⟨_,_,_,_,_,_,rfl,qg (T:=Int) o t s ⟨rfl,by simp[ae]⟩ (by decide),Z,qg (T:=Int) h7 h8 h9 ⟨rfl,by simp[ae]⟩ (by decide)⟩⟩
 have f2:∀{f:Heap},decide _=false->0=(jF c).length/\Row f _ (jF c):=λ h=>by
  rw[jF,if_neg (aac h)];exact⟨rfl,rfl⟩
 have g1:∀{g y f:Heap} {A B:Option _} {j x:Nat},decide _=true->Cells g A 0 [.int _ 1,.slice B 1 _]->Heap.le _ _->1<=j->Cells _ B 0 _->Heap.le y _->1<=x->Sl f A 1 _ (jR d):=λ h m l k o t s=>by
  rw[jR,if_pos (aab h)];exact qg m l k ⟨_,_,_,rfl,by simp[ae],qg (T:=Int) o t s ⟨rfl,by simp[ae]⟩ (by decide)⟩ (by decide)
 have g2:∀{g y f:Heap} {A B:Option _} {j x:Nat},decide _=false->decide _=true->Cells _ A 0 [.int _ 2,.slice B 2 _]->Heap.le g _->1<=j->Cells _ B 0 _->Heap.le y _->2<=x->Sl f A 1 _ (jR d):=
  λ h u m l k o t s=>by
  rw[jR,if_neg (aac h),if_pos (aab u)];exact qg m l k ⟨_,_,_,rfl,by simp[ae],Ee o t s (by simp[ae]) (by simp[ae])⟩ (by decide)
 have g3:∀{f:Heap},decide _=false->decide _=false->Sl f none 0 0 (jR d):=λ h u=>by
  rw[jR,if_neg (aac h),if_neg (aac u)];exact Sl.nil
 clear hs ha hb X hd e0 hn;refine⟨by simp,by simp,_,rfl,by simp,λ a4=>?_,λ a4=>⟨λ a0=>?_,λ a0=>?_⟩⟩;all_goals
  refine⟨by simp,by simp,_,rfl,by simp,λ a5=>⟨by simp,by simp,_,rfl,by simp,by simp[ae];omega,_,zB hq.1,?_⟩,λ a5=>?_⟩;all_goals try rintro b0 b2 b5 ⟨rfl,ht⟩ b4 c0 b9 a7 b1 b7 a9 a6 b6 b8 a8 b3
  all_goals
   refine⟨by simp,by simp,_,rfl,by simp,λ a3=>?_,λ a3=>⟨λ a2=>?_,λ a2=>?_⟩⟩;all_goals
    intros
    refine D (by assumption) (by repeat first | assumption | exact ah _ | refine aa (by assumption) ?_) (by repeat first | assumption | exact ah _ | refine aa (by assumption) ?_) (by assumption) ?_ ?_ ?_
    .first | exact k1 (by assumption) (by omega) (by repeat first | assumption | exact ah _ | refine aa (by assumption) ?_) (by grind) | exact k2 (by assumption) (by assumption) (by omega) (by repeat first | assumption | exact ah _ | refine aa (by assumption) ?_) (by grind) | grind
    .first | exact G (by assumption) (by assumption) (by repeat first | assumption | exact ah _ | refine aa (by assumption) ?_) (by assumption) (by assumption) (by repeat first | assumption | exact ah _ | refine aa (by assumption) ?_) (by assumption) (by assumption) | exact f2 (by assumption)
    .first | exact g1 (by assumption) (by omega) (by repeat first | assumption | exact ah _ | refine aa (by assumption) ?_) (by grind) (by omega) (by repeat first | assumption | exact ah _ | refine aa (by assumption) ?_) (by grind) | exact g2 (by assumption) (by assumption) (by omega) (by repeat first | assumption | exact ah _ | refine aa (by assumption) ?_) (by grind) (by omega) (by repeat first | assumption | exact ah _ | refine aa (by assumption) ?_) (by grind) | grind
structure WV (x1 x2:Ed):Prop where
 k1:x1.kind=4
 k2:x2.kind=4
 n1:EW CU x1.sch=true
 f1:x1.sch.fks=[]
 n2:EW LN x2.sch=true
abbrev EZ (s:bp):Ed:=⟨4,mt,[],⟨0,0⟩,[],0,[],s,⟨0,mt,0⟩⟩
def KA {A B E F:D'}{n c m d k e l f:Nat}{s:bp}(h:aV a b A n c B m d E k e F l f s):
  Rep.rel a [Φi 4,.string ⟨⟨[]⟩⟩,.slice none 0 0,Φi 0,Φi 0,.slice none 0 0,Φi 0,.slice none 0 0,.string b,.slice A n c,.slice B m d,.slice E k e,.slice F l f,Φi 0,.string ⟨⟨[]⟩⟩,Φi 0] (EZ s):=
 ⟨⟨4,mt,none,0,0,0,0,none,0,0,0,none,0,0,b,A,n,c,B,m,d,E,k,e,F,l,f,0,mt,0⟩,rfl,rfl,rfl,Sl.nil,rfl,rfl,Sl.nil,rfl,Sl.nil,h,rfl,rfl,rfl,Rg,Rg,Rg,Rg,VY⟩
def Fa (h:b=CU\/b=LN):str b:=by rcases h with rfl | rfl<;>(unfold str;decide)
def SU {f:G'}{c:Int}(g:Row a f (jF c))(k:c.tmod 5=1)(j:str b):Row a (av f (Int.toNat 0*3+1) [.string b]) (EX b)/\f.length=3:=by
 rw[jF,if_pos k]at g;obtain⟨e,d,rfl,⟨q,m,s,r,p,n,rfl,l,o,i⟩,rfl⟩:=g;have h:Rep.rel a _ (⟨[1],b,[1]⟩:nz):=⟨_,_,_,_,_,_,rfl,l,j,i⟩;exact⟨Row.one h,rfl⟩
def KB {x0 x1 x2 x3 x4 x5 X x7:Int}(h0:ae .u16 x0)(h1:ae .u16 x1)(h3:ae .u16 x3)(h4:ae .u16 x4)(h5:ae .u16 x5)(h6:ae .u16 X)(h7:ae .u16 x7):
  ZB 87 [.agg ⟨[Φu x0,Φu x1,Φu x2,Φu x3,Φu x4,Φu x5,Φu X,Φu x7]⟩] a fi (λ A n c H'=>∃y1 y2,Sl H' A n c [y1,y2]/\WV y1 y2):=by
 refine ΦK 2 {aj [] [(1,[2,4,6,8,10,12,14,18,20,22,24,26,28,30,32,34,17,37,39,41,43,45,0,1,1,1,41,39,43,45,0,1,1,1,1,39,37,41,43,45,0,1,1,1,41,37,43,45,0,1,1,1,1,41,37,39,43,45,0,1,1,1,39,37,43,45,0,1,1,1,1,1,39,17,37,41,43,45,0,1,1,1,41,37,43,45,0,1,1,1,1,41,17,37,43,45,0,1,1,1,1,1,41,17,37,39,43,45,0,1,1,1,39,37,43,45,0,1,1,1,1,39,17,37,43,45,0]),(3,[2,4,8,10,12,14,7,17,19,21,22,25,0])] []with res:=wj [(12,⟨false,[(true,[.str,.sl,.sl,.row 43 68,.sl])]⟩),(22,⟨false,[(true,[.str,.sl,.sl,.row 44 68,.sl])]⟩)]} (λ b=>ΦY 0 8 (let c:=[.int .u16 x0,.int .u16 x1,.int .u16 x2,.int .u16 x3,.int .u16 x4,.int .u16 x5,.int .u16 X,.int .u16 x7];ΦF Xz c (N 0*1) 1 λ d=>ΦY 1 8 (ΦF Xz c (N 1*1) 1 (λ e=>ΦY 3 8 (ΦF Xz c (N 3*1) 1 (λ f=>ΦY 4 8 (ΦF Xz c (N 4*1) 1 (λ g=>ΦY 5 8 (ΦF Xz c (N 5*1) 1 (λ h=>ΦY 6 8 (ΦF Xz c (N 6*1) 1 (λ i=>ΦY 7 8 (ΦF Xz c (N 7*1) 1 (λ j=>let k:=λ(k:Nat) l m n (o:Nat) p q (r s:Nat) t (u v:Nat) w (x y:Nat) z a0 (a1 a2:Nat) a3 (a4 a5:Nat) a6 (a7 a8:Nat)=>ΦY 6 8 (ΦF Xz c (N 6*1) 1 (λ a9=>(5:Int)≠0/\let b0:=λ b0 b1 (b2:Nat) b3 (b4:Nat)=>U b0 [I 4,ΦT ⟨⟨[]⟩⟩,S none 0 0,I 0,I 0,S none 0 0,I 0,S none 0 0,ΦT p,S q r s,S t u v,S b1 o b2,S w x y,I 0,ΦT ⟨⟨[]⟩⟩,I 0,I 4,ΦT ⟨⟨[]⟩⟩,S none 0 0,I 0,I 0,S none 0 0,I 0,S none 0 0,ΦT z,S a0 a1 a2,S a3 a4 a5,S b3 k b4,S a6 a7 a8,I 0,ΦT ⟨⟨[]⟩⟩,I 0] 2 λ b5 b6 b7=>b b5 2 b6 b7;J (Int.tmod a9 5=1) (ΦY 6 8 (ΦF Xz c (N 6*1) 1 (λ b1=>(5:Int)≠0/\ae .u16 (Int.tdiv b1 5)/\(2:Int)≠0/\ΦY (Int.tmod (Int.tdiv b1 5) 2) 2 (ΦF Xr [ΦT {data:=⟨[(116:UInt8)]⟩},ΦT {data:=⟨[(117:UInt8)]⟩}] (N (Int.tmod (Int.tdiv b1 5) 2)*1) 1 (λ b2=>ΦY 0 k (N 0*3+1+1<=L l/\U m n o (λ b3 b4 b5=>U b5 (av l (N 0*3+1) [ΦT b2]) k λ b6 b7 b8=>b0 b8 b3 b4 b6 b7))))))) (U m n o (λ b1 b2 b3=>U b3 l k λ b4 b5 b6=>b0 b6 b1 b2 b4 b5))));let l:=[ΦT {data:=⟨[(117:UInt8)]⟩},ΦG [.int .u16 g,.int .u16 h,.int .u16 i,.int .u16 j]];let m:=λ m n (o:Nat) p q (r s:Nat) t (u v:Nat) w (x y:Nat)=>C Zi 57 l m λ z a0 a1 a2 a3 a4 a5 a6 a7 a8 a9 b0 b1=>k a7 a8 z n o p q r s t u v w x y a0 a1 a2 a3 a4 a5 a6 a9 b0 b1;let n:=[ΦT {data:=⟨[(116:UInt8)]⟩},ΦG [.int .u16 d,.int .u16 e,.int .u16 0,.int .u16 f]];C Zh 57 n a (λ o p q r s t u v w x y z a0=>C Zi 57 l o (λ a1 a2 a3 a4 a5 a6 a7 a8 a9 b0 b1 b2 b3=>k a9 b0 a1 x w p q r s t u v y z a0 a2 a3 a4 a5 a6 a7 a8 b1 b2 b3/\k a9 b0 a1 x w p q r s t u v y z a0 a2 a3 a4 a5 a6 a7 a8 b1 b2 b3)/\(m o x w p q r s t u v y z a0/\m o x w p q r s t u v y z a0)/\m o x w p q r s t u v y z a0/\m o x w p q r s t u v y z a0)/\let o:=C Zh 57 n a (λ o p q r s t u v w x y z a0=>m o x w p q r s t u v y z a0/\m o x w p q r s t u v y z a0)/\C Zh 57 n a λ o p q r s t u v w x y z a0=>m o x w p q r s t u v y z a0;o/\o)))))))))))))) ?_;dsimp only[aQ,aR,eQ,C,ΦF,ΦG,I,L,N,S,ΦT,U,ΦY,J];have q5:0<=X.tdiv 5/\X.tdiv 5<=65535:=by simp[ae]at h6;grind
 have w2:=dM q5.1 (m:=2) (by simp);have a0:∀{E H2 o:Heap} {h u:ByteArray} {D A2 F B2 P F2 x Z A5:D'} {Q n2 M c2 V m2 G d2 g j W k2 R f2 v e2 c5:Nat} {k O:G'} {fs:List nz},VZ CU x0 x1 0 x3 h D Q M F V G g k P W R E->VZ LN x4 x5 X x7 u A2 n2 c2 B2 m2 d2 j O F2 k2 f2 H2->Heap.le E o->Heap.le H2 o->
   Sl o x g v ([]:List nz)->Sl o Z j e2 fs->(fs=[]\/fs=EX CU\/fs=EX LN)->
   Cells o A5 0 [Φi 4,.string ⟨⟨[]⟩⟩,.slice none 0 0,Φi 0,Φi 0,.slice none 0 0,Φi 0,.slice none 0 0,.string h,.slice D Q M,.slice F V G,.slice x g v,.slice P W R,Φi 0,.string ⟨⟨[]⟩⟩,Φi 0,
     Φi 4,.string ⟨⟨[]⟩⟩,.slice none 0 0,Φi 0,Φi 0,.slice none 0 0,Φi 0,.slice none 0 0,.string u,.slice A2 n2 c2,.slice B2 m2 d2,.slice Z j e2,.slice F2 k2 f2,Φi 0,.string ⟨⟨[]⟩⟩,Φi 0]->2<=c5->∃y1 y2,Sl o A5 2 c5 [y1,y2]/\WV y1 y2:=by
  intro E H2 o h u D A2 F B2 P F2 x Z A5 Q n2 M c2 V m2 G d2 g j W k2 R f2 v e2 c5 k O fs Y l l1 w a1 a2 hf p hn;have r1:=KA (s:=VV _ _ _ _ _) ⟨Y.z.symm,Y.s,Y.vers.mono l1,Y.key.mono l1,a1,Y.cst.mono l1⟩;have r2:=KA (s:=VV _ _ _ _ _) ⟨l.z.symm,l.s,l.vers.mono w,l.key.mono w,a2,l.cst.mono w⟩;exact⟨_,_,((Row.one r1).append (Row.one r2)).sl (ah _) p rfl hn (by decide) (by simp),rfl,rfl,Rf (.inl rfl) h0 (.inl rfl),rfl,Rf (.inr rfl) h4 hf⟩
 have a3:∃t,win [Value.string CU,.string LN] (Int.toNat ((X.tdiv 5).tmod 2)*1) 1=[.string t]/\(t=CU\/t=LN):=by
  generalize (X.tdiv 5).tmod 2=y at w2;obtain rfl | rfl:y=0\/y=1:=by omega
  .exact⟨_,rfl,.inl rfl⟩
  .exact⟨_,rfl,.inr rfl⟩
 obtain⟨t,hw,ht⟩:=a3;have fk:∀{E o:Heap} {h:ByteArray} {D F P x:Option _} {Q M V G g W R v:Nat} {k:List _} {nm:ByteArray} {f b c d:Int},VZ nm f b c d h D Q M F V G _ _ P W R _->Heap.le E _->Cells _ _ 0 k->g<=v->Sl o x _ _ _:=λ {E o h D F P x Q M V G g W R v k nm f b c d} s hl p hn=>by
  have a4:(jF c).length<=1:=by unfold jF;grind
  have:=s.rn;exact s.row.sl hl p s.rn.symm hn (by show g*64<=_;omega) (by omega)
 refine⟨by simp,by simp,_,rfl,by simp,by simp,_,rfl,by simp,by simp,_,rfl,by simp,by simp,_,rfl,by simp,by simp,_,rfl,by simp,by simp,_,rfl,by simp,by simp,_,rfl,?_⟩;repeat' first
  |(have l:=T
    refine Bu ?_)
  |(have l:=T
    refine⟨by decide,by decide,_,rfl,by decide,λ p=>⟨by decide,by decide,_,rfl,by decide,by simp only[ae];omega,by decide,w2.1,w2.2,t,hw,?_⟩,λ p=>?_⟩
    . have p:=aab p;obtain⟨p1,p2⟩:=SU l.row p (Fa ht);have B:=l.rn;rw[jF,if_pos p]at B;have B:j=1:=B;refine⟨by decide,by rw[B];decide,by rw[p2];decide,?_⟩;intro x v H3 r g3 q3;intro Z e2 H4 l4 g4 q4;intro A5 c5 o l5 g5 q5;have i:=aa l4 l5;exact a0 q l (aa w (aa r i)) (aa r i) ((fk q (aa w r) g3 q3).mono i) (((p1.mono (aa r l4)).sl (ah _) g4 (by rw[B];rfl) q4 (by rw[B];decide) (by rw[B];decide)).mono l5) (.inr (ht.imp (aak EX) (aak EX))) g5 q5
    . have p:=aac p;intro x v H3 r g3 q3;intro Z e2 H4 l4 g4 q4;intro A5 c5 o l5 g5 q5;have i:=aa l4 l5;have e:=fk l (aa r l4) g4 q4;rw[jF,if_neg p]at e;exact a0 q l (aa w (aa r i)) (aa r i) ((fk q (aa w r) g3 q3).mono i) (e.mono l5) (.inl rfl) g5 q5)
  |(fail_if_success have l:=T
    apply And.intro)
  |(have Y:=q
    refine⟨_,oH (nm:=LN) (Fa (.inr rfl)) h4 h5 h6 h7,?_⟩;rintro H2 w u A2 n2 c2 B2 m2 d2 j O F2 k2 f2 T)
  |(refine⟨_,oH (nm:=CU) (Fa (.inl rfl)) h0 h1 (by decide) h3,?_⟩
    rintro E l1 h D Q M F V G g k P W R q)
end
section
variable {a:Heap}
structure LQ where
 es:List Ed
instance:Rep LQ where
 sz:=10
 byt:=104
 rel H vs v:=∃(n:Int) (A:D') (m c:Nat) (r1 r2 r3:Int) (t:ByteArray) (h1 h2 h3:Int),vs=[.int .i64 1,.int .i64 n,.slice A m c,.int .i64 r1,.int .i64 r2,.int .i64 r3,.string t,.int .i64 h1,.int .i64 h2,.int .i64 h3]/\Sl H A m c v.es
 mono:=λ hle ⟨n,A,m,c,r1,r2,r3,t,h1,h2,h3,h,s⟩=>⟨n,A,m,c,r1,r2,r3,t,h1,h2,h3,h,s.mono hle⟩
 len:=λ ⟨n,A,m,c,r1,r2,r3,t,h1,h2,h3,h,_⟩=>by simp[h]
 pos:=by decide
 bpos:=by decide
 one:=λ ⟨n,A,m,c,r1,r2,r3,t,h1,h2,h3,h,_⟩=>by rw[h];simp[Value.oneCell']
structure GC (es:List Ed):Prop where
 len:es.length<=2
 ed:∀x∈es,GE x
structure U9 where
 a:Int
 b:Int
 c:Int
 d:Int
 e:Int
 f:Int
 g:Int
 h:Int
 i:Int
instance:Rep U9 where
 sz:=9
 byt:=18
 rel _ vs v:=vs=[.int .u16 v.a,.int .u16 v.b,.int .u16 v.c,.int .u16 v.d,.int .u16 v.e,.int .u16 v.f,.int .u16 v.g,.int .u16 v.h,.int .u16 v.i]/\ae .u16 v.a/\ae .u16 v.b/\ae .u16 v.c/\ae .u16 v.d/\ae .u16 v.e/\ae .u16 v.f/\ae .u16 v.g/\ae .u16 v.h/\ae .u16 v.i
 mono _ h:=h
 len h:=by simp[h.1]
 pos:=by decide
 bpos:=by decide
 one h:=by rw[h.1];simp[Value.oneCell']
def AL {b:Iq}{x:Ed}(h:qj a b x):Row a b.v [x]:=Row.one ⟨b,rfl,h⟩
abbrev Wa:cj:=⟨false,[(true,[.int .i64,.int .i64,.sl,.int .i64,.int .i64,.int .i64,.str,.int .i64,.int .i64,.int .i64])]⟩
def Fb {x0 Q p G s w W t r:Int}(h0:ae .u16 x0)(hs:x0<7)(R:ae .u16 Q)(D:ae .u16 p)(o:ae .u16 G)(O:ae .u16 s)(u:ae .u16 w)(V:ae .u16 W)(T:ae .u16 t)(P:ae .u16 r):
  ZB 88 [.agg ⟨[Φu x0,Φu Q,Φu p,Φu G,Φu s,Φu w,Φu W,Φu t,Φu r]⟩] a Wa
   (λ k _ A n c _ _ _ _ _ _ _ H'=>k=1/\∃v,Sl H' A n c v/\GC v):=by
 refine ΦK 0 {aj [] [(18,[2,4,6,8,10,12,14,16,18,20,22,24,26,28,30,32,34,36,38,41,43,45,46,49,0])] []with kb:=ir [] [28,29,48,49,78,79,86,87]} (λ b=>ΦY 1 9 (let c:=[.int .u16 x0,.int .u16 Q,.int .u16 p,.int .u16 G,.int .u16 s,.int .u16 w,.int .u16 W,.int .u16 t,.int .u16 r];ΦF Xz c (N 1*1) 1 λ d=>ΦY 2 9 (ΦF Xz c (N 2*1) 1 (λ e=>ΦY 3 9 (ΦF Xz c (N 3*1) 1 (λ f=>ΦY 4 9 (ΦF Xz c (N 4*1) 1 (λ g=>ΦY 5 9 (ΦF Xz c (N 5*1) 1 (λ h=>ΦY 6 9 (ΦF Xz c (N 6*1) 1 (λ i=>ΦY 7 9 (ΦF Xz c (N 7*1) 1 (λ j=>ΦY 8 9 (ΦF Xz c (N 8*1) 1 (λ k=>L [Value.int .u16 0,.int .u16 0,.int .u16 0,.int .u16 0,.int .u16 0,.int .u16 0,.int .u16 0,.int .u16 0]=8/\ΦY 0 9 (ΦF Xz c (N 0*1) 1 (λ l=>(12:Int)≠0/\decide (Int.tmod l 12=7)=false/\decide (Int.tmod l 12=8)=false/\decide (Int.tmod l 12=9)=false/\decide (Int.tmod l 12=10)=false/\decide (Int.tmod l 12=11)=false/\let m:=λ(m n o q u v x y:Int)=>[.int .u16 m,.int .u16 n,.int .u16 o,.int .u16 q,.int .u16 u,.int .u16 v,.int .u16 x,.int .u16 y];ΦF Yq (m d e f g h i j k) 0 8 λ n o q u v x y z=>C Zj 28 [ΦG (m n o q u v x y z)] a λ a0 a1 a2 a3 a4 a5 a6 a7 a8 a9 b0 b1 b2 b3 b4 b5 b6 b7 b8 b9 c0 c1 c2 c3 c4 c5 c6 c7 c8 c9 d0=>ΦY 0 9 (ΦF Xz c (N 0*1) 1 (λ d1=>(12:Int)≠0/\let d2:=[I a1,ΦT a2,S a3 a4 a5,I a6,I a7,S a8 a9 b0,I b1,S b2 b3 b4,ΦT b5,S b6 b7 b8,S b9 c0 c1,S c2 c3 c4,S c5 c6 c7,I c8,ΦT c9,I d0];J (Int.tmod d1 12<3) (ΦY 8 9 (ΦF Xz c (N 8*1) 1 (λ d3=>ΦY 2 9 (ΦF Xz c (N 2*1) 1 (λ d4=>ΦY 4 9 (ΦF Xz c (N 4*1) 1 (λ d5=>ΦY 3 9 (ΦF Xz c (N 3*1) 1 (λ d6=>ΦY 6 9 (ΦF Xz c (N 6*1) 1 (λ d7=>ΦY 5 9 (ΦF Xz c (N 5*1) 1 (λ d8=>ΦY 1 9 (ΦF Xz c (N 1*1) 1 (λ d9=>ΦY 7 9 (ΦF Xz c (N 7*1) 1 (λ e0=>C Zj 28 [ΦG (m d3 d4 d5 d6 d7 d8 d9 e0)] a0 λ e1 e2 e3 e4 e5 e6 e7 e8 e9 f0 f1 f2 f3 f4 f5 f6 f7 f8 f9 g0 g1 g2 g3 g4 g5 g6 g7 g8 g9 h0 h1=>(1+1)*264<=M/\U e1 (d2++[Value.int .i64 e2,ΦT e3,S e4 e5 e6,I e7,I e8,S e9 f0 f1,I f2,S f3 f4 f5,ΦT f6,S f7 f8 f9,S g0 g1 g2,S g3 g4 g5,S g6 g7 g8,I g9,ΦT h0,I h1]) (1+1) λ h2 h3 h4=>b 1 0 h2 (1+1) h3 0 0 0 ⟨⟨[]⟩⟩ 0 0 0 h4))))))))))))))))) (U a0 d2 1 (λ d3 d4 d5=>b 1 0 d3 1 d4 0 0 0 ⟨⟨[]⟩⟩ 0 0 0 d5)))))))))))))))))))))) ?_;dsimp only[aQ,aR,eQ,C,ΦF,ΦG,I,L,M,N,S,ΦT,U,ΦY,J];have i:x0.tmod 12=x0:=Int.tmod_eq_of_lt h0.1 (by omega);have b:∀k:Int,7<=k->decide (x0.tmod 12=k)=false:=λ k hk=>by rw[i];exact aao (by omega)
 refine⟨by simp,by simp,_,rfl,by simp,by simp,_,rfl,by simp,by simp,_,rfl,by simp,by simp,_,rfl,by simp,by simp,_,rfl,by simp,by simp,_,rfl,by simp,by simp,_,rfl,by simp,by simp,_,rfl,by rfl,
  by simp,by simp,_,rfl,by simp,b 7 (by simp),b 8 (by simp),b 9 (by simp),b 10 (by simp),b 11 (by simp),_,_,_,_,_,_,_,_,rfl,_,CW R D o O u V T P,?_⟩
 rintro H1 l1 ek et va vn vc vf vt xa xn xc ep sa sn sc nm A n c B m d E k e F l f ci cn ck ⟨x,q,gx⟩;refine⟨by simp,by simp,_,rfl,by simp,λ _=>⟨by simp,by simp,_,rfl,by simp,by simp,_,rfl,by simp,by simp,_,rfl,by simp,by simp,_,rfl,by simp,by simp,_,rfl,by simp,by simp,_,rfl,by simp,by simp,_,rfl,by simp,by simp,_,rfl,_,CW P D O o V u R T,?_⟩,λ _=>?_⟩
 .rintro H2 l2 X a5 a8 a2 a3 a9 b0 a6 b1 b5 a7 a1 b3 a4 b4 A2 n2 c2 B2 m2 d2 E2 k2 e2 F2 b7 f2 b2 b6 a0 ⟨y,hy,gy⟩;refine⟨by simp,λ A5 c5 Y h g j=>⟨rfl,[x,y],?_,by simp,λ z Z=>?_⟩⟩
  .exact(((AL q).mono l2).append (AL hy)).sl h g rfl j (by decide) (by simp)
  grind
 .intro A5 c5 Y h g j;exact⟨rfl,[x],(AL q).sl h g rfl j (by decide) (by simp),by simp,λ z Z=>by grind⟩
def Tp (a:Nat)(l:List LQ):Prop:=∃b d r,l=⟨[b,d]⟩::r/\WV b d/\r.length<=a/\∀c∈r,GC c.es
def Fc {x0 V x2 T F R Y G:Int}{A:D'}{n c most:Nat}{l:List U9}(x:Sl a A n c l)(hm:most<=100)(h0:ae .u16 x0)(h1:ae .u16 V)(h3:ae .u16 T)(h4:ae .u16 F)(h5:ae .u16 R)(h6:ae .u16 Y)(h7:ae .u16 G):
  ZB 38 [.agg ⟨[Φu x0,Φu V,Φu x2,Φu T,Φu F,Φu R,Φu Y,Φu G]⟩,.slice A n c,Φi most] a fi (λ A' n' c' z=>∃l,Sl z A' n' c' l/\Tp most l):=by
 refine ΦK 1 (aj [] [] [(3,[.slot 7 false [.row 39 164],ag 8])]) (λ b=>ΦF Yq [.int .u16 x0,.int .u16 V,.int .u16 x2,.int .u16 T,.int .u16 F,.int .u16 R,.int .u16 Y,.int .u16 G] 0 8 λ c d e f g h i j=>C ZT 87 [ΦG [.int .u16 c,.int .u16 d,.int .u16 e,.int .u16 f,.int .u16 g,.int .u16 h,.int .u16 i,.int .u16 j]] a λ k l m o=>W ZG k (λ p=>p 1 [I 1,I 0,S l m o,I 0,I 0,I 0,ΦT ⟨⟨[]⟩⟩,I 0,I 0,I 0] 0 k) λ p q r s t u=>let v:=U r t s λ v w x=>b v s w x;J (u<O n) (J (u<(↑most:Int)) (ΦX A u n (ΦE Yr r A (N u*9) (λ w x y z a0 a1 a2 a3 a4=>L [Value.int .u16 0,.int .u16 0,.int .u16 0,.int .u16 0,.int .u16 0,.int .u16 0,.int .u16 0,.int .u16 0,.int .u16 0]=9/\ΦY 0 9 (let a5:=λ(a5 a6 a7 a8 a9 b0 b1 b2 b3:Int)=>[.int .u16 a5,.int .u16 a6,.int .u16 a7,.int .u16 a8,.int .u16 a9,.int .u16 b0,.int .u16 b1,.int .u16 b2,.int .u16 b3];ΦF Xz (a5 w x y z a0 a1 a2 a3 a4) (N 0*1) 1 λ a6=>(7:Int)≠0/\ΦY 0 9 (N 0*1+1<=L [Value.int .u16 w,.int .u16 x,.int .u16 y,.int .u16 z,.int .u16 a0,.int .u16 a1,.int .u16 a2,.int .u16 a3,.int .u16 a4]/\ΦF Yr (av (a5 w x y z a0 a1 a2 a3 a4) (N 0*1) [.int .u16 (Int.tmod a6 7)]) 0 9 (λ a7 a8 a9 b0 b1 b2 b3 b4 b5=>C Zk 88 [ΦG (a5 a7 a8 a9 b0 b1 b2 b3 b4 b5)] r λ b6 b7 b8 b9 c0 c1 c2 c3 c4 c5 c6 c7 c8=>(s+1)*104<=M/\ΦR (u+1)/\let c9:=t++[Value.int .i64 b7,I b8,S b9 c0 c1,I c2,I c3,I c4,ΦT c5,I c6,I c7,I c8];p (s+1) c9 (u+1) b6/\q (s+1) c9 (u+1)<q s t u)))))) v) v) ?_;dsimp only[PL,aQ,aR,aW,eQ,C,ΦE,ΦF,ΦG,I,L,M,N,ΦR,S,ΦT,U,W,ΦX,ΦY,O,J];have b1:=x.len;have b2:=x.bn;refine⟨_,_,_,_,_,_,_,_,rfl,_,KB h0 h1 h3 h4 h5 h6 h7,?_⟩;rintro H1 l1 B m d ⟨w,E,hy,y⟩;have Z:Rep.rel H1 [Φi 1,Φi 0,.slice B m d,Φi 0,Φi 0,Φi 0,.string ⟨⟨[]⟩⟩,Φi 0,Φi 0,Φi 0] (⟨[w,E]⟩:LQ):=⟨_,_,_,_,_,_,_,_,_,_,_,rfl,hy⟩;refine⟨λ p q i z=>0<=i/\i<=n/\i<=most/\∃r:List LQ,p=r.length+1/\Row z q (⟨[w,E]⟩::r)/\r.length=i.toNat/\∀c∈r,GC c.es,λ _ _ i=>n-i.toNat,⟨by omega,by omega,by omega,[],rfl,Row.one Z,rfl,λ c f=>by cases f⟩,?_⟩;rintro H2 l2 p q i ⟨P,i1,i2,r,rfl,X,hl,hg⟩;dsimp only;have s:∀(g:D') (h:Nat) (e:Heap),Heap.le H2 e->Cells e g 0 q->r.length+1<=h->∃l,Sl e g (r.length+1) h l/\Tp most l:=λ g h e j f v=>
  ⟨_,X.sl j f rfl v (by show(r.length+1)*104<=_;omega) (by omega),w,E,r,rfl,y,by omega,hg⟩
 refine⟨λ b=>⟨λ o=>?_,λ _=>λ g h e j f v=>s g h e j f v⟩,λ _=>λ g h e j f v=>s g h e j f v⟩;have b:=aab b;have o:=aab o;obtain⟨hi,hA,_,D,rfl,g0,g1,g2,g3,g4,g5,g6,g7,g8⟩:=x.at (aa l1 l2) P b;generalize l[i.toNat]=u at*;have d7:=dM g0.1 (m:=7) (by simp);refine⟨hA,P,b,_,_,_,_,_,_,_,_,_,D,by rfl,by simp,by simp,_,rfl,by simp,by simp,by simp,by simp,_,_,_,_,_,_,_,_,_,rfl,_,Fb (x0:=u.a.tmod 7) (by omega) d7.2 g1 g2 g3 g4 g5 g6 g7 g8,?_⟩;rintro H3 l3 k nn A3 n3 c3 r1 r2 r3 t z1 z2 z3 ⟨rfl,Q,he,ge⟩;have rc:Rep.rel _ [.int _ 1,.int _ nn,.slice _ _ _,.int _ r1,.int _ r2,.int _ r3,.string t,.int _ z1,.int _ z2,.int _ z3] (⟨Q⟩:LQ):=⟨_,_,_,_,_,_,_,_,_,_,_,rfl,he⟩;refine⟨by omega,by omega,⟨by omega,by omega,by omega,r++[(⟨Q⟩)],by simp,(by have:=(X.mono l3).append (Row.one rc);grind),by grind,λ c f=>?_⟩,by omega⟩;grind
end
section
variable {a:Heap}
def td {P:Prop}[Decidable P](h:P):(!decide P)=false:=by grind
def wY {A B:D'}{n c m d:Nat}{l:List bR}(t:Sl a A n c l)(u:Sl a B m d l):
  ZB 78 [.slice A n c,.slice B m d] a fg (λ r _=>r=true):=by
 refine ΦK 0 {aj [65] [(6,[2,4,6,8,10,12,14,16,18,20,22,24,26,28,30,32,34,36,38,40,42,44,46,48,50,52,54,56,58,60,62,64,66,68,70,72,74,76,78,80,82,84,86,88,90,92,94,96,99,100,102,0])] [(4,[ag 5])]with kb:=ir [] [10,27,28,39,52,66]} (λ b=>(!decide (O n=O m))=false/\W ZE a (λ c=>c 0 a) λ c d e f=>J (f<O n) (ΦX A f n (ΦE ZE e A (N f*6+0) (λ g=>ΦX B f m (ΦE ZE e B (N f*6+0) (λ h=>(!decide (g=h))=false/\ΦX A f n (ΦE ZK e A (N f*6+2) (λ i j=>ΦX B f m (ΦE ZK e B (N f*6+2) (λ k l=>(!(decide (i=k)&&decide (j=l)))=false/\ΦX A f n (ΦE ZK e A (N f*6+4) (λ o p=>ΦX B f m (ΦE ZK e B (N f*6+4) (λ q r=>(!(decide (o=q)&&decide (p=r)))=false/\ΦX A f n (ΦE ZM e A (N f*6+1) (λ s t u=>ΦX B f m (ΦE ZM e B (N f*6+1) (λ v w x=>C ZP 26 [S s t u,S v w x] e λ y z=>(!decide (z=0))=false/\ΦR (f+1)/\c (f+1) y/\d (f+1)<d f))))))))))))))))) (b true e)) ?_;dsimp only[PL,aQ,aR,aW,eQ,C,ΦE,N,ΦR,S,W,ΦX,O,J];have U:=t.len;have b2:=u.len;have X:=t.bn;refine⟨td (by omega),λ i _=>0<=i/\i<=n,λ i=>n-i.toNat,⟨by omega,by omega⟩,?_⟩;rintro j w i ⟨g,i1⟩;refine⟨λ e=>?_,λ _=>rfl⟩;have e:=aab e;have f:i<m:=by omega
 obtain⟨hi,q,_,T,E1,p1,o1,rfl,u1,D,u3,Z,u5,u6⟩:=t.at w g e;obtain⟨hj,s,_,x,Y,V,o2,rfl,-,L,-⟩:=u.at w g f;generalize l[i.toNat]=v at*;have P:∀{b:D'} {E:D'} {p o:Nat},Cells j b (i.toNat*6) [Φi v.id,.slice E p o,Φi v.vd.lo,Φi v.vd.hi,Φi v.rc.lo,Φi v.rc.hi]->
   Cells j b (i.toNat*6+0) [Φi v.id]/\Cells j b (i.toNat*6+2) [Φi v.vd.lo,Φi v.vd.hi]/\Cells j b (i.toNat*6+4) [Φi v.rc.lo,Φi v.rc.hi]/\Cells j b (i.toNat*6+1) [.slice E p o]:=λ {b E p o} h=>
  ⟨h.cy (k:=0) rfl,Cells.part (xs:=[Φi v.id,.slice E p o]) (ys:=[Φi v.vd.lo,Φi v.vd.hi]) (zs:=[Φi v.rc.lo,Φi v.rc.hi]) h,Cells.part (xs:=[Φi v.id,.slice E p o,Φi v.vd.lo,Φi v.vd.hi]) (ys:=[Φi v.rc.lo,Φi v.rc.hi]) (zs:=[]) h,h.cy (k:=1) rfl⟩
 obtain⟨Q,R,G,I⟩:=P T;obtain⟨F,y,z,M⟩:=P x;refine⟨q,g,e,_,Q,s,g,f,_,F,td rfl,q,g,e,_,_,R,s,g,f,_,_,y,by simp,q,g,e,_,_,G,s,g,f,_,_,z,by simp,q,g,e,_,_,_,I,s,g,f,_,_,_,M,_,fv D L,?_⟩;rintro H2 l2 _ rfl;exact⟨td (aD.refl _),by omega,⟨by omega,by omega⟩,by grind⟩
section
variable {H:Heap}{nm nm':ByteArray}{A A' B B' E E' F F':D'}{n c m d k e l f n' c' m' d' k' e' l' f':Nat}{s:bp}
def wZ (j:aV H nm A n c B m d E k e F l f s)(o:aV H nm' A' n' c' B' m' d' E' k' e' F' l' f' s):
  ZB 77 [.agg ⟨[.string nm,.slice A n c,.slice B m d,.slice E k e,.slice F l f]⟩,.agg ⟨[.string nm',.slice A' n' c',.slice B' m' d',.slice E' k' e',.slice F' l' f']⟩] H fg (λ r _=>r=true):=by
 refine ΦK 0 {aj [29,67,96,104,140] [(6,[2,4,6,8,10,12,14,16,18,20,23,24,0]),(11,[2,4,6,8,10,12,14,16,18,20,23,25,27,29,0,1,1,1,25,23,27,29,0]),(17,[2,4,6,8,10,12,14,16,18,20,22,24,26,28,30,32,34,36,38,40,42,44,46,48,50,52,55,56,58,0])] [(4,[ag 5]),(9,[ag 6]),(15,[ag 9])]with kb:=ir [] [14,15,22,39,48,90,91,126,127]} (λ a=>(!decide (nm=nm'))=false/\(!decide (O n=O n'))=false/\C ZO 136 [S B m d,S B' m' d'] H λ b c=>ΦQ (!c) (a false b) ((!decide (O k=O k'))=false/\(!decide (O l=O l'))=false/\W ZE b (λ e=>e 0 b) (λ e f g h=>let i:=λ i j (o:Int) p q=>ΦQ (!i) (a false j) (ΦR (o+1)/\p (o+1) j/\q (o+1)<q o);J (h<O n) (ΦX A h n (ΦE Xs g A (N h*3) (λ j o p q r=>ΦX A' h n' (ΦE Xs g A' (N h*3) (λ s t u v w=>C ZO 137 [ΦG [I j,I o,S p q r],ΦG [I s,I t,S u v w]] g λ x y=>i y x h e f))))) (W ZE g (λ j=>j 0 g) (λ j o p q=>J (q<O k) (ΦX E q k (ΦE Xu p E (N q*3) (λ r s t u v w x=>ΦX E' q k' (ΦE Xu p E' (N q*3) (λ y z a0 a1 a2 a3 a4=>let a5:=(!decide (u=a1))=false/\C ZO 136 [S r s t,S y z a0] p λ a5 a6=>ΦQ (!a6) (a false a5) (C ZO 136 [S v w x,S a2 a3 a4] a5 (λ a7 a8=>i a8 a7 q j o));a5/\a5))))) (W ZE p (λ r=>r 0 p) (λ r s t u=>J (u<O l) (ΦX F u l (ΦE ZE t F (N u*2+0) (λ v=>ΦX F' u l' (ΦE ZE t F' (N u*2+0) (λ w=>(!decide (v=w))=false/\ΦX F u l (ΦE ZM t F (N u*2+1) (λ x y z=>ΦX F' u l' (ΦE ZM t F' (N u*2+1) (λ a0 a1 a2=>C ZO 136 [S x y z,S a0 a1 a2] t λ a3 a4=>i a4 a3 u r s))))))))) (a true t)))))))) ?_;dsimp only[PL,aQ,aR,aW,eQ,C,ΦE,ΦG,I,N,ΦQ,ΦR,S,W,ΦX,O,J];have e1:=j.vers.len;have e2:=o.vers.len;have e3:=j.fks.len;have e4:=o.fks.len;have e5:=j.csts.len;have e6:=o.csts.len;have f1:=j.vers.bn;have f3:=j.fks.bn;have f5:=j.csts.bn;refine⟨td (j.name.trans o.name.symm),td (by omega),_,fV j.key o.key,?_⟩;rintro H1 l1 _ rfl;refine⟨λ h=>by simp at h,λ _=>⟨td (by omega),td (by omega),λ i _=>0<=i/\i<=n,λ i=>n-i.toNat,⟨by omega,by omega⟩,?_⟩⟩;rintro H2 l2 i ⟨g,T⟩;have G:=aa l1 l2;refine⟨λ a=>?_,λ _=>?_⟩
 .have a:=aab a;have b:i<n':=by omega
  obtain⟨R,q,_,u,V,Q,M,rfl,-,-,z⟩:=j.vers.at G g a;obtain⟨U,t,_,p,E2,Y,o2,rfl,-,-,w⟩:=o.vers.at G g b;refine⟨q,g,a,_,_,_,_,_,u,t,g,b,_,_,_,_,_,p,_,mT z w,?_⟩;rintro Z P _ rfl;exact⟨λ h=>by simp at h,λ _=>⟨by omega,⟨by omega,by omega⟩,by dsimp only;omega⟩⟩
 refine⟨λ i _=>0<=i/\i<=k,λ i=>k-i.toNat,⟨by omega,by omega⟩,?_⟩;rintro Z P i ⟨g,T⟩;have x:=aa G P;refine⟨λ a=>?_,λ _=>?_⟩
 .have a:=aab a;have b:i<k':=by omega
  obtain⟨R,q,_,u,V,Q,M,E2,Y,o2,rfl,D,-,z⟩:=j.fks.at x g a;obtain⟨U,t,_,p,E3,X,o3,E4,p4,o4,rfl,y,-,w⟩:=o.fks.at x g b;refine⟨q,g,a,_,_,_,_,_,_,_,u,t,g,b,_,_,_,_,_,_,_,p,Bu ⟨td rfl,_,fV D y,?_⟩⟩;rintro H4 v _ rfl;refine⟨λ h=>by grind,λ _=>⟨_,fV (z.mono v) (w.mono v),?_⟩⟩;grind
 refine⟨λ i _=>0<=i/\i<=l,λ i=>l-i.toNat,⟨by simp,by simp⟩,?_⟩;rintro H4 v i ⟨g,T⟩;have L:=aa x v;refine⟨λ a=>?_,λ _=>rfl⟩;have a:=aab a;have b:i<l':=by omega
 obtain⟨R,q,_,u,V,Q,M,rfl,-,D⟩:=j.csts.at L g a;obtain⟨U,t,_,p,E3,X,o3,rfl,-,y⟩:=o.csts.at L g b;refine⟨q,g,a,_,u.cy (k:=0) rfl,t,g,b,_,p.cy (k:=0) rfl,td rfl,q,g,a,_,_,_,u.cy (k:=1) rfl,t,g,b,_,_,_,p.cy (k:=1) rfl,_,fV D y,?_⟩;grind
end
def Ii:ZB 59 [] a Ui (λ f b A n c h B m d E k e _=>f=0/\b=1/\A=none/\n=0/\c=0/\h=0/\B=none/\m=0/\d=0/\E=none/\k=0/\e=0):=by
 refine ΦK 0 bE (λ b=>b 0 1 none 0 0 0 none 0 0 none 0 0 a) ?_;simp
def Ij:ZB 85 [] a Ui (λ f b A n c h B m d E k e _=>f=0/\b=1/\A=none/\n=0/\c=0/\h=0/\B=none/\m=0/\d=0/\E=none/\k=0/\e=0):=by
 refine ΦK 0 bE (λ b=>b 0 1 none 0 0 0 none 0 0 none 0 0 a) ?_;simp
end
section
section
attribute [local irreducible] af Cells
def xd {H:Heap}{q t p c e d:Int}{X Y Z E R Z':D'}{f L M U G cc j m n y s z:Nat}{D:Db}(g:um H q t X f L M G D)(l:um H c e E j m n s D)(hh:p=d):
  ZB 31 [Ir q t X f L p Y M U Z G cc,Ir c e E j m d R n y Z' s z] H fg (λ r _=>r=true):=by
 refine ΦK 0 {aj [73,88,126] [(6,[2,4,6,14,16,18,9,10,13,21,22,25,27,28,30,32,34,36,44,46,48,39,40,43,51,52,55,57,58,60,0,1,1,1,51,52,43,55,57,58,60,0,1,1,55,43,57,58,60,0,1,1,1,1,51,52,39,40,43,55,57,58,60,0,1,1,55,43,57,58,60,0,1,1,1,55,39,40,43,57,58,60,0,1,1,1,1,1,1,1,1,21,22,13,25,27,28,30,32,34,36,44,46,48,39,40,43,51,52,55,57,58,60,0,1,1,1,51,52,43,55,57,58,60,0,1,1,55,43,57,58,60,0,1,1,1,1,51,52,39,40,43,55,57,58,60,0,1,1,55,43,57,58,60,0,1,1,1,55,39,40,43,57,58,60,0,1,1,1,1,1,1,1,25,13,27,28,30,32,34,36,44,46,48,39,40,43,51,52,55,57,58,60,0,1,1,1,51,52,43,55,57,58,60,0,1,1,55,43,57,58,60,0,1,1,1,1,51,52,39,40,43,55,57,58,60,0,1,1,55,43,57,58,60,0,1,1,1,55,39,40,43,57,58,60,0,1,1,1,1,1,1,1,1,1,21,22,9,10,13,25,27,28,30,32,34,36,44,46,48,39,40,43,51,52,55,57,58,60,0,1,1,1,51,52,43,55,57,58,60,0,1,1,55,43,57,58,60,0,1,1,1,1,51,52,39,40,43,55,57,58,60,0,1,1,55,43,57,58,60,0,1,1,1,55,39,40,43,57,58,60,0,1,1,1,1,1,1,1,25,13,27,28,30,32,34,36,44,46,48,39,40,43,51,52,55,57,58,60,0,1,1,1,51,52,43,55,57,58,60,0,1,1,55,43,57,58,60,0,1,1,1,1,51,52,39,40,43,55,57,58,60,0,1,1,55,43,57,58,60,0,1,1,1,55,39,40,43,57,58,60,0,1,1,1,1,1,1,1,1,25,9,10,13,27,28,30,32,34,36,44,46,48,39,40,43,51,52,55,57,58,60,0,1,1,1,51,52,43,55,57,58,60,0,1,1,55,43,57,58,60,0,1,1,1,1,51,52,39,40,43,55,57,58,60,0,1,1,55,43,57,58,60,0,1,1,1,55,39,40,43,57,58,60,0]),(11,[2,4,6,8,10,12,14,16,18,20,22,0]),(16,[2,4,6,8,10,12,14,16,18,20,23,24,0])] [(4,[ag 5]),(9,[ag 6]),(14,[ag 7])]with kb:=ir [] [12,13,18,25,34,43,52,95,113]} (λ a=>(!decide (q=c))=false/\(!decide (t=e))=false/\(!decide (p=d))=false/\(!decide (O f=O j))=false/\(!decide (O M=O n))=false/\(!decide (O G=O s))=false/\W ZE H (λ b=>b 0 H) λ b g h i=>J (i<O f) (let k:=λ k l (m o:Nat) r (u v:Nat) w (x y:Nat) z (a0 a1:Nat) a2 a3 (a4 a5:Nat) a6 (a7 a8:Nat) a9 (b0 b1:Nat) b2 (b3 b4:Nat)=>C ZO 77 [ΦG [ΦT k,S l m o,S r u v,S w x y,S z a0 a1],ΦG [ΦT a2,S a3 a4 a5,S a6 a7 a8,S a9 b0 b1,S b2 b3 b4]] h λ b5 b6=>ΦQ (!b6) ((a false b5/\a false b5/\a false b5)/\(a false b5/\a false b5)/\a false b5) (let b7:=λ b7 (b8 b9:Nat) c0 (c1 c2:Nat)=>C ZO 78 [S b7 b8 b9,S c0 c1 c2] b5 λ c3 c4=>ΦQ (!c4) (a false c3) (ΦR (i+1)/\b (i+1) c3/\g (i+1)<g i);let b8:=λ b8 (b9 c0:Nat)=>ΦE ZM b5 E (N i*6+5) λ c1 c2 c3=>b7 b8 b9 c0 c1 c2 c3;let b9:=λ b9 (c0 c1:Nat)=>ΦE ZM b5 X (N i*6+5) λ c2 c3 c4=>b7 c2 c3 c4 b9 c0 c1;let c0:=ΦE ZM b5 X (N i*6+5) (λ c0 c1 c2=>b8 c0 c1 c2)/\ΦE ZM b5 E (N i*6+5) λ c0 c1 c2=>b9 c0 c1 c2;ΦX X i f (ΦE ZM b5 X (N i*6+5) (λ c1 c2 c3=>ΦX E i j (b8 c1 c2 c3))/\ΦX E i j c0)/\ΦX E i j (ΦX X i f c0/\ΦE ZM b5 E (N i*6+5) (λ c1 c2 c3=>ΦX X i f (b9 c1 c2 c3))));let l:=λ l m (o r:Nat) u (v w:Nat) x (y z:Nat) a0 (a1 a2:Nat)=>ΦE XP h E (N i*6+0) λ a3 a4 a5 a6 a7 a8 a9 b0 b1 b2 b3 b4 b5=>k l m o r u v w x y z a0 a1 a2 a3 a4 a5 a6 a7 a8 a9 b0 b1 b2 b3 b4 b5;let m:=λ m o (r u:Nat) v (w x:Nat) y (z a0:Nat) a1 (a2 a3:Nat)=>ΦE XP h X (N i*6+0) λ a4 a5 a6 a7 a8 a9 b0 b1 b2 b3 b4 b5 b6=>k a4 a5 a6 a7 a8 a9 b0 b1 b2 b3 b4 b5 b6 m o r u v w x y z a0 a1 a2 a3;let o:=ΦE XP h X (N i*6+0) (λ o r u v w x y z a0 a1 a2 a3 a4=>l o r u v w x y z a0 a1 a2 a3 a4)/\ΦE XP h E (N i*6+0) λ o r u v w x y z a0 a1 a2 a3 a4=>m o r u v w x y z a0 a1 a2 a3 a4;ΦX X i f (ΦE XP h X (N i*6+0) (λ r u v w x y z a0 a1 a2 a3 a4 a5=>ΦX E i j (l r u v w x y z a0 a1 a2 a3 a4 a5))/\ΦX E i j o)/\ΦX E i j (ΦX X i f o/\ΦE XP h E (N i*6+0) (λ r u v w x y z a0 a1 a2 a3 a4 a5=>ΦX X i f (m r u v w x y z a0 a1 a2 a3 a4 a5)))) (W ZE h (λ k=>k 0 h) (λ k l m o=>decide (o<O M)=false/\W ZE m (λ r=>r 0 m) λ r u v w=>decide (w<O G)=false/\a true v))) ?_;dsimp only[PL,aQ,aR,aW,eQ,C,ΦE,ΦG,N,ΦQ,ΦR,S,ΦT,W,ΦX,O,J];have e1:=g.tabs.len;have e2:=l.tabs.len;have e3:=g.tabs.bn;have g1:=g.holds;have g2:=l.holds;have g3:=g.cits;have g4:=l.cits;refine⟨td (g.now.trans l.now.symm),td (g.nid.trans l.nid.symm),td hh,td (by omega),td (by omega),td (by omega),λ i _=>0<=i/\i<=f,λ i=>f-i.toNat,⟨by omega,by omega⟩,?_⟩;rintro H2 B i ⟨w,i1⟩;dsimp only;refine⟨λ a=>?_,λ _=>?_⟩
 .have a:=aab a;have o:i<j:=by omega
  obtain⟨_,hA,_,I,nm,A1,m1,c1,A2,m2,c2,A3,m3,c3,A4,m4,c4,A5,m5,c5,rfl,u⟩:=g.tabs.at B w a;obtain⟨_,hB,_,A,T,B1,p1,d1,B2,p2,d2,B3,p3,d3,B4,p4,d4,B5,p5,d5,rfl,v⟩:=l.tabs.at B w o;have x:ae .i64 (i+1)/\(0<=i+1/\i+1<=f)/\f-(i+1).toNat<f-i.toNat:=⟨by omega,⟨by omega,by omega⟩,by omega⟩;have a1:=Cells.part (xs:=[]) (ys:=[.string _,.slice _ _ _,.slice _ _ _,.slice _ _ _,.slice _ _ _]) (zs:=[.slice _ _ _]) I;have V:=Cells.part (xs:=[]) (ys:=[.string _,.slice _ _ _,.slice _ _ _,.slice _ _ _,.slice _ _ _]) (zs:=[.slice _ _ _]) A;have a2:=I.cy (k:=5) rfl;have b2:=A.cy (k:=5) rfl;repeat' first
   | exact x
   | refine⟨hA,w,a,?_⟩
   | refine⟨hB,w,o,?_⟩
   | refine⟨_,_,_,_,_,_,_,_,_,_,_,_,_,a1,?_⟩
   | refine⟨_,_,_,_,_,_,_,_,_,_,_,_,_,V,?_⟩
   |(refine⟨_,wZ u.sch v.sch,?_⟩;rintro F b _ rfl;refine⟨λ h=>(by grind),λ _=>?_⟩)
   |(refine⟨_,wZ v.sch u.sch,?_⟩;rintro F b _ rfl;refine⟨λ h=>(by simp at h),λ _=>?_⟩)
   | refine⟨_,_,_,a2.mono b,?_⟩
   | refine⟨_,_,_,b2.mono b,?_⟩
   |(refine⟨_,wY (u.vs.mono b) (v.vs.mono b),?_⟩;rintro P Q _ rfl;refine⟨λ h=>(by simp at h),λ _=>?_⟩)
   |(refine⟨_,wY (v.vs.mono b) (u.vs.mono b),?_⟩;rintro P Q _ rfl;refine⟨λ h=>(by simp at h),λ _=>?_⟩)
   | apply And.intro
 .refine⟨λ i _=>i=0,λ i=>0,rfl,?_⟩;rintro F b _ rfl;refine⟨aao (by omega),λ i _=>i=0,λ i=>0,rfl,?_⟩;grind
end
end
def Ox:bp:=VV CU 2 [1] [] []
def UQ:bp:=(bt Ox 1).1
def ye:Ed:=⟨1,CU,[Ll 0,Lm 0],⟨0,9⟩,[],0,[],kr,⟨0,mt,0⟩⟩
def Ri:Db:=⟨0,1,[⟨UQ,[]⟩]⟩
def KC:Db:=mZ Ri [ye]
def WW:EW CU Ox=true:=by kernel_rfl
def Zv:VW CU Ox UQ:=by
 obtain⟨a,h⟩:=EY WW;have:a=UQ:=(aak Prod.fst h.cr).symm;grind
def Wb:GE ye:=⟨.inl rfl,λ h=>absurd h (by decide),λ _=>⟨by decide,by decide,by decide⟩,λ v a=>by
 simp[ye,or_false]at a
 rcases a with rfl | rfl<;>decide,λ y b=>by cases b⟩
def WX:DI 2 4096 Ri:=by
 have h:=Zv;refine⟨by decide,by decide,by decide,by decide,by decide,λ s a=>?_⟩;rw[aaD.1 a];exact⟨h.valid,h.sm,by rw[h.len];simp,Br.new (tc h.valid),TI.new⟩
def Wc:bJ yd [EZ Ox,ye]=bJ Ri [ye]:=by
 rfl
def RB:aO:=⟨[Ll 0,Lm 0],⟨0,9⟩,[1]⟩
def Wd:aO:=⟨[Ll 0,Lm 0],⟨0,9⟩,[2]⟩
def Ik:canon [0,9]=[0,9]:=sK (fC _) (by simp) λ y=>fD
def UB:eJ [RB] [0]=[]:=by
 have h:eJ [RB] [0]=gn [RB] (canon [0,9]) []++[]:=by rfl
 rw[h,Ik];rfl
def UC:(eJ [RB,Wd] [0]).length=1:=by
 have h:eJ [RB,Wd] [0]=gn [RB,Wd] (canon [0,9,0,9]) []++[]:=by rfl
 have e:canon [0,9,0,9]=canon [0,9]:=ng λ y=>by grind
 rw[h,e,Ik];rfl
def WY (i:Int)(x:Int):bR:=⟨i,[Ll 0,Lm 0],⟨0,9⟩,⟨x,1099511627776⟩⟩
def UD:eC:=⟨UQ,[WY 1 1]⟩
def We:eC:=⟨UQ,[WY 1 1,WY 2 2]⟩
def Rj:tb [UD]=0:=by
 have k:kB UD=false:=by
  unfold kB;rw[show dR _=[RB]by rfl,show QV _=[0]by rfl,UB];rfl
 unfold tb;rw[aaS,abJ,k,ade,if_neg (by simp)];rfl
def Wf:tb [We]=15:=by
 have k:kB We=true:=by
  unfold kB;rw[show dR _=[RB,Wd]by rfl,show QV _=[0]by rfl,UC];rfl
 unfold tb;grind
def Rk {D:Db}{a:List Ed}(d:a.length<=200)(c:(bJ D a).2=0)(b:uq (bJ D a).1=false):pd D a=tb (bJ D a).1.tabs:=by
 unfold pd Bv;grind
def AM:bJ Ri [ye]=(⟨0,2,[UD]⟩,0):=by kernel_rfl
def wkC:pd Ri [ye]=0:=by
 exact Rj
def Wg:pd yd [EZ Ox,ye]=0:=by
 exact Rj
def WZ:mZ yd [EZ Ox,ye]=KC:=by rfl
def Xc:Fg Ri [ye]/\((bJ Ri [ye]).2=0->Ow (bJ Ri [ye]).1.tabs)/\(pd Ri [ye]=0->DI 4 4096 KC):=
 WX.WT (by simp) (λ x a=>by rw[aaD.1 a];exact Wb) (by simp)
def Xd:Fg yd [EZ Ox,ye]:=by
 have h:=Zv;have b:DI 2 4096 yd:=⟨by decide,by decide,by decide,by decide,by decide,λ s a=>by cases a⟩;refine⟨b.ok (by simp) (by simp),⟨by simp,by simp,λ _=>?_,λ h=>absurd h (by simp)⟩,λ _=>by exact tc h.valid,λ _=>by exact Xc.1⟩;exact⟨h.cr,by decide,λ s a=>(by cases a),λ f c=>(by cases c)⟩
def Wh:DI 4 4096 KC:=Xc.2.2 wkC
def Wi:Fg KC [ye]/\((bJ KC [ye]).2=0->Ow (bJ KC [ye]).1.tabs)/\(pd KC [ye]=0->DI 6 4096 (mZ KC [ye])):=
 Wh.WT (by simp) (λ x a=>by rw[aaD.1 a];exact Wb) (by simp)
def UE:KC=⟨1,2,[UD]⟩:=by rfl
def KD:bJ KC [ye]=(⟨1,3,[We]⟩,0):=by rfl
def Xe:pd KC [ye]=15:=by
 exact Wf
def wkK:Ow KC.tabs:=Wh.UP (by simp) (by simp)
def Wj:tb KC.tabs=0:=by exact Rj
end Go.Vc
