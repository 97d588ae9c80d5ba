/- A part of the proof. -/
import Derived.Test.YtnkineaffgkicaaGreatDoorH29
set_option maxHeartbeats 0
set_option maxRecDepth 100000
set_option linter.unusedVariables false
set_option linter.defProp false
set_option linter.unusedSimpArgs false
namespace Go.Vc
open Go Go.Shelf Go.Proofs
section
def Xf {H:Heap}{V:D'}{n c:Nat}(h:Sl H V n c [Ll 0,Lm 0]):qj H ⟨1,CU,V,n,c,0,9,none,0,0,0,none,0,0,⟨⟨[]⟩⟩,none,0,0,none,0,0,none,0,0,none,0,0,0,mt,0⟩ ye:=
 ⟨rfl,rfl,h,rfl,rfl,Sl.nil,rfl,Sl.nil,ba,rfl,rfl,rfl,by decide,by decide,by decide,by decide,VY⟩
section
attribute [local irreducible] af
def Il {H:Heap}(g:mr H):ZB 17 [] H fg (λ r _=>r=true):=by
 refine ΦK 1 {aj [57,62,80] [(3,[4,6,8,3,11,13,14,16,18,21,23,24,0,1,1,21,13,14,16,18,23,24,0,1,1,1,21,11,13,14,16,18,23,24,0,1,1,1,1,11,3,13,14,16,18,21,23,24,0,1,1,21,13,14,16,18,23,24,0,1,1,1,21,3,13,14,16,18,23,24,0,1,1,1,1,21,3,11,13,14,16,18,23,24,0,1,1,1,11,3,13,14,16,18,23,24,0])] []with res:=wj [(8,⟨false,[(true,[.str,.sl,.sl,.row 83 68,.sl])]⟩)],kb:=ir [29,30,33,38,44,53,58,63,72,76,81] []} (λ a=>C Zl 57 [ΦT {data:=⟨[(116:UInt8)]⟩},ΦG [.int .u16 0,.int .u16 1,.int .u16 0,.int .u16 0]] H λ b c d e f g h i j k l m n=>C ZT 58 [.int .u16 0,.int .u16 0] b λ o p q r=>let s:=λ s t (u:Nat)(v w:Int) x (y z:Nat)(a0:Int) a1 (a2 a3:Nat) a4 (a5 a6:Nat)=>U s [I 4,ΦT ⟨⟨[]⟩⟩,S none 0 0,I 0,I 0,S none 0 0,I 0,S none 0 0,ΦT c,S d e f,S g h i,S t j u,S l m n,I 0,ΦT ⟨⟨[]⟩⟩,I 0,I 1,ΦT {data:=⟨[(116:UInt8)]⟩},S p q r,I 0,I 9,S none 0 0,I 0,S none 0 0,ΦT ⟨⟨[]⟩⟩,S none 0 0,S none 0 0,S none 0 0,S none 0 0,I 0,ΦT ⟨⟨[]⟩⟩,I 0] 2 λ a7 a8 a9=>let b0:=λ(b0 b1:Int) b2 (b3 b4:Nat)(b5:Int) b6 (b7 b8:Nat) b9 (c0 c1:Nat)=>[I b0,I b1,S b2 b3 b4,I b5,S b6 b7 b8,S b9 c0 c1];C YT 29 [ΦG (b0 v w x y z a0 a1 a2 a3 a4 a5 a6),S a7 2 a8] a9 λ b1 b2 b3 b4 b5 b6 b7 b8 b9 c0 c1 c2 c3 c4=>U b1 [I 1,ΦT {data:=⟨[(116:UInt8)]⟩},S p q r,I 0,I 9,S none 0 0,I 0,S none 0 0,ΦT ⟨⟨[]⟩⟩,S none 0 0,S none 0 0,S none 0 0,S none 0 0,I 0,ΦT ⟨⟨[]⟩⟩,I 0] 1 λ c5 c6 c7=>C YT 29 [ΦG (b0 b2 b3 b4 b5 b6 b7 b8 b9 c0 c1 c2 c3),S c5 1 c6] c7 λ c8 c9 d0 d1 d2 d3 d4 d5 d6 d7 d8 d9 e0 e1=>decide (c4=0)=true/\decide (b2=1)=true/\decide (b3=2)=true/\decide (O b5=1)=true/\ΦX b4 0 b5 (ΦE ZM c8 b4 (N 0*6+5) (λ e2 e3 e4=>decide (O e3=1)=true/\C ZP 16 [ΦG (b0 b2 b3 b4 b5 b6 b7 b8 b9 c0 c1 c2 c3),ΦT {data:=⟨[(116:UInt8)]⟩}] c8 λ e5 e6=>decide (e6=0)=true/\C ZP 16 [ΦG (b0 b2 b3 b4 b5 b6 b7 b8 b9 c0 c1 c2 c3),ΦT {data:=⟨[(117:UInt8)]⟩}] e5 λ e7 e8=>decide (e8=-1)=true/\ΦX b4 0 b5 (ΦE XM e7 b4 (N 0*6) (λ e9 f0 f1 f2 f3 f4 f5 f6 f7 f8 f9 g0 g1 g2 g3 g4=>C ZT 14 [ΦG [ΦT e9,S f0 f1 f2,S f3 f4 f5,S f6 f7 f8,S f9 g0 g1,S g2 g3 g4]] e7 λ g5 g6 g7 g8=>decide (O g7=1)=true/\decide (e1=15)=true/\C ZP 19 [ΦG (b0 b2 b3 b4 b5 b6 b7 b8 b9 c0 c1 c2 c3)] g5 λ g9 h0=>decide (h0=0)=true/\a true g9))));C YS 59 [] o (λ t u v w x y z a0 a1 a2 a3 a4 a5=>U t k j (λ a6 a7 a8=>s a8 a6 a7 u v w x y z a0 a1 a2 a3 a4 a5/\s a8 a6 a7 u v w x y z a0 a1 a2 a3 a4 a5)/\U t k j λ a6 a7 a8=>s a8 a6 a7 u v w x y z a0 a1 a2 a3 a4 a5)/\let t:=λ t u (v:Nat)=>C YS 59 [] t λ w x y z a0 a1 a2 a3 a4 a5 a6 a7 a8=>s w u v x y z a0 a1 a2 a3 a4 a5 a6 a7 a8;U o k j (λ u v w=>C YS 59 [] w (λ x y z a0 a1 a2 a3 a4 a5 a6 a7 a8 a9=>s x u v y z a0 a1 a2 a3 a4 a5 a6 a7 a8 a9/\s x u v y z a0 a1 a2 a3 a4 a5 a6 a7 a8 a9)/\t w u v)/\C YS 59 [] o (λ u v w x y z a0 a1 a2 a3 a4 a5 a6=>U u k j λ a7 a8 a9=>s a9 a7 a8 v w x y z a0 a1 a2 a3 a4 a5 a6)/\U o k j λ u v w=>t w u v) ?_;dsimp only[aQ,aR,eQ,C,ΦE,ΦG,I,N,S,ΦT,U,ΦX,O];refine⟨_,oH (nm:=CU) (a:=0) (b:=1) (c:=0) (d:=0) (Fa (.inl rfl)) (by decide) (by decide) (by decide) (by decide),?_⟩;rintro H1 W nm A1 n1 c1 B1 m1 d1 rn b3 F1 k1 f1 l;refine⟨_,Nh (abt _) (abt _),?_⟩;rintro H2 l2 V vn vc hV;have q1:=l.vers;have q2:=l.key;have q3:=l.row;have G:=l.rn;have q5:=l.cst;rw[show mkKey 1=[1]by kernel_rfl]at q2;rw[show jF 0=[]by kernel_rfl]at q3 G;rw[show jR 0=[]by kernel_rfl]at q5;repeat' first
  |(have e:=F;have p:=E;refine Bu ?_)
  |(refine⟨_,Ii,?_⟩;rintro H3 l3 a b X n c h Y m d Z k e F;obtain⟨rfl,rfl,rfl,rfl,rfl,rfl,rfl,rfl,rfl,rfl,rfl,rfl⟩:=F;have F:=True.intro)
  |(
   fail_if_success
    have p:=E
   intro E1 e1 H4 l4 E nP;have J:Heap.le H2 H4:=by repeat first | assumption | exact ah _ | refine aa (by assumption) ?_)
  |(
   fail_if_success
    have e:=F;have p:=E
   apply And.intro)
 all_goals
  intro A6 c6 u l6 g6 n6;have t:Heap.le H1 u:=by repeat first | assumption | exact ah _ | refine aa (by assumption) ?_
  have r2:Heap.le H2 u:=by repeat first | assumption | exact ah _ | refine aa (by assumption) ?_
  have r4:Heap.le H4 u:=by repeat first | assumption | exact ah _ | refine aa (by assumption) ?_
  have M:aV u nm A1 n1 c1 B1 m1 d1 E1 rn e1 F1 k1 f1 Ox:=⟨l.z.symm,l.s,q1.mono t,q2.mono t,((q3.mono (aa l2 J)).sl (ah _) E G.symm nP (by rw[G];decide) (by rw[G];decide)).mono r4,q5.mono t⟩;have y:=Xf (hV.mono r2);have he:Sl u A6 2 c6 [EZ Ox,ye]:=((Row.one (KA M)).append (AL y)).sl (ah _) g6 rfl n6 (by decide) (by grind);refine⟨_,Ks (g.mono (aa W t)) ⟨rfl,rfl,Sl.nil,rfl,rfl⟩ he Xd (by exact Xc.2.1),?_⟩;rintro H7 L b1 b4 X n c a9 Y hn hc Z cn cc er ⟨Q,hz,-⟩;obtain⟨q,hh⟩:=hz Wg;rw[Wg]at Q;rw[WZ]at q;intro A8 c8 H8 w g8 n8;have T:Sl H8 A8 1 c8 [ye]:=(AL (y.mono (aa L w))).sl (ah _) g8 rfl n8 (by decide) (by simp);refine⟨_,Ks (g.mono (aa W (aa t (aa L w)))) (q.mono w) T Wi.1 Wi.2.1,?_⟩;rintro H9 l9 a0 a1 X2 n2 c2 a2 Y2 b6 a8 Z2 b5 b0 a4 ⟨D,-,-⟩;rw[Xe]at D;have q:=q.mono (aa w l9);have o:=UE▸q;have j:=o.tabs.len;have j:n=1:=j.symm;obtain⟨_,hA,_,ha,a5,C1,o1,s1,C2,o2,s2,C3,o3,s3,C4,o4,s4,C5,o5,s5,rfl,hT⟩:=o.tabs.at (i:=0) (ah _) (by simp) (by omega);have B:=hT.vs.len;have B:o5=1:=B.symm;refine⟨by grind,by rw[o.now];rfl,by rw[o.nid];rfl,aau (by omega),hA,by simp,by omega,_,_,_,ha.cy (k:=5) rfl,aau (by omega),_,qY o.tabs,?_⟩;rintro b2 v _ rfl;refine⟨by rfl,_,qY (o.tabs.mono v),?_⟩;rintro a3 R _ rfl;have f:=aa v R;refine⟨by rfl,hA,by simp,by omega,_,_,_,_,_,_,_,_,_,_,_,_,_,_,_,_,ha.mono f,_,Ab (hT.mono f) (abz _ _) (by omega),?_⟩;rintro a7 A P pn pc hP;have x:=hP.len;have x:pn=1:=x.symm;refine⟨aau (by omega),by grind,_,Ih (g.mono (aa W (aa t (aa L (aa w (aa l9 (aa f A))))))) (q.mono (aa f A)) wkK,?_⟩;rintro b7 a6 _ rfl;exact⟨by rw[Wj];rfl,rfl⟩
end
end
section
variable {a c g:Int}{b h:List bR}{f:bp}
def V' (x:Int)(v u:bR):Prop:=u=v\/v.rc.hi=1099511627776/\u={v with rc:=⟨v.rc.lo,x⟩}
def V'.id {x:Int}{v u:bR}(h:V' x v u):u.id=v.id/\u.rc.lo=v.rc.lo/\u.vals=v.vals/\u.vd=v.vd:=by
 rcases h with rfl |⟨-,rfl⟩<;>exact⟨rfl,rfl,rfl,rfl⟩
def Suc (x n d:Int)(a b:List bR):Prop:=∃(g:bR->bR) (c:List bR),b=a.map g++c/\(∀v∈a,V' x v (g v))/\∀u∈c,n<=u.id/\u.id<d/\u.rc=⟨x,1099511627776⟩
def Suc.refl:Suc a c g b b:=⟨id,[],by simp,λ _ _=> .inl rfl,λ _ h=>by grind⟩
def Suc.up {i:Int}(f:Suc a c g b h)(o:g<=i):Suc a c i b h:=by
 obtain⟨d,k,e,j,l⟩:=f;exact⟨d,k,e,j,λ u m=>by grind⟩
def ac9 {c:I'}:cp c a (b++h)=cp c a b++cp c a h:=by simp[cp]
def ac7 {a:I'}{x:Int}:∀{l:List bR},(∀v∈l,v.rc.lo≠x)->cp a x l=l.map λ v=>if v.id∈a then{v with rc:=⟨v.rc.lo,x⟩}else v
 |[],_=>rfl
 | v::r,h=>by
  have e:cp a x (v::r)=kR a x v++cp a x r:=by rfl
  rw[e,ac7 (λ u b=>h u (by grind)),kR]
  grind
def nk.one (h:nk b){a c:bR}(d:a∈b)(g:c∈b)(e:a.id=c.id):a=c:=Ly (f:=bR.id) h d g e
def Suc.apply {l:I'}{k:List aO}(f:Suc a c g b h)(D:c<=g)(z:∀v∈b,v.rc.lo≠a)(t:Gx h l k a g):Suc a c (g+k.length) b (jN h l k a g):=by
 obtain⟨d,e,rfl,o,E⟩:=f;refine⟨λ v=>if(d v).id∈l then{d v with rc:=⟨(d v).rc.lo,a⟩}else d v,cp l a e++gN g a k,?_,λ v m=>?_,λ u i=>?_⟩
 .rw[jN,ac9,ac7 (λ u i=>?_),List.map_map,aat];·rfl
  obtain⟨v,m,rfl⟩:=aaO.1 i;rw[(o v m).id.2.1];grind
 .have j:=o v m;dsimp only;split
  .rename_i A;obtain⟨u,i,y,s,-⟩:=t.cur _ A;have:=t.lI.one i (aeb _ (aaO.2 ⟨v,m,rfl⟩)) y;subst this;rcases j with j |⟨j,B⟩
   .rw[j]at s⊢;exact .inr ⟨s,rfl⟩
   grind
  grind
 .rcases aam.1 i with i | i
  .obtain⟨w,C,i⟩:=aaZ.1 i;rw[kR]at i;grind
  .obtain⟨p,q,r,-⟩:=lg i;grind
structure ac1 (x:Int)(s s':bp):Prop where
 name:s'.name=s.name
 fks:s'.fks=s.fks
 at':∀t,t<x->((cY t s'.vers).getD og).cols=((cY t s.vers).getD og).cols
def ac1.refl:ac1 a f f:=⟨rfl,rfl,λ _ _=>rfl⟩
def ac1.trans {x:Int}{s c b:bp}(h:ac1 x s c)(a:ac1 x c b):ac1 x s b:=⟨a.name.trans h.name,a.fks.trans h.fks,λ t d=>(a.at' t d).trans (h.at' t d)⟩
def wt (x:Int):∀(l m:List dh),cY x (l++m)=(cY x l).or (cY x m)
 |[],m=>by rfl
 | v::r,m=>by
  rw[aby,cY,cY];split
  .rfl
  .exact wt x r m
def ac3 {l:List dh}{v:dh}{b:List cz}(d:l.getLast?=some v)(h:c<a)(i:a<v.rc.hi):((cY c (bf l b a)).getD og).cols=((cY c l).getD og).cols:=by
 obtain⟨e,rfl⟩:=zT d;unfold bf;rw[d];dsimp only;rw[aea];split
 .rw[wt,wt];have g:cY c [⟨v.rc,b⟩]=none:=by rw[cY,if_neg (by grind)];rfl
  have f:cY c [v]=none:=by rw[cY,if_neg (by omega)];rfl
  grind
 .rw[wt,wt];cases cY c _ with
  | some w=>rfl
  | none=>
   simp[cY];grind
def ad3 {v:dh}(h:cg f a=true)(d:f.vers.getLast?=some v):a<v.rc.hi:=by
 obtain⟨b,c,-⟩:=mW h;have:=(CI b).2;rw[eV]at this;grind
def ac1.add {c:cz}(h:(eW f c a).2=0):ac1 a f (eW f c a).1:=by
 obtain⟨v,d,b,l,j,k,i,e⟩:=Nr h;rw[e];exact⟨rfl,rfl,λ t g=>ac3 b g (ad3 d b)⟩
def ac1.drop {x:Int}(h:(bN f a x).2=0):ac1 x f (bN f a x).1:=by
 obtain⟨v,d,b,k,g,j,c⟩:=JN h;rw[c];exact⟨rfl,rfl,λ t e=>ac3 b e (ad3 d b)⟩
structure ac0 (D d:Db):Prop where
 now:d.now=D.now
 nid:D.nid<=d.nid
 len:d.tabs.length=D.tabs.length
 tab:∀(j:Nat) (h:j<D.tabs.length) (h':j<d.tabs.length),ac1 (D.now+1) D.tabs[j].sch d.tabs[j].sch/\Suc (D.now+1) D.nid d.nid D.tabs[j].vs d.tabs[j].vs
def ac0.refl {D:Db}:ac0 D D:=⟨rfl,abt _,rfl,λ _ _ _=>⟨ac1.refl,Suc.refl⟩⟩
def K' (D:Db):Prop:=∀t∈D.tabs,∀v∈t.vs,v.rc.lo<=D.now
def ac0.set {D d:Db}{j m:Nat}{t t':eC}(h:ac0 D d)(e:d.tabs[j]?=some t)
  (g:∀(c:j<D.tabs.length),ac1 (D.now+1) D.tabs[j].sch t.sch->Suc (D.now+1) D.nid d.nid D.tabs[j].vs t.vs->ac1 (D.now+1) D.tabs[j].sch t'.sch/\Suc (D.now+1) D.nid (d.nid+m) D.tabs[j].vs t'.vs):
  ac0 D ⟨d.now,d.nid+m,d.tabs.set j t'⟩:=by
 have:=h.nid;refine⟨h.now,by grind,by rw[abd];exact h.len,λ i f b=>?_⟩;obtain⟨p,q⟩:=h.tab i _ _;show ac1 _ _ _/\Suc _ _ (d.nid+m) _ _;by_cases a:j=i
 .grind
 .rw[List.getElem_set_ne a];exact⟨p,q.up (by omega)⟩
section
variable {e L:Nat}{D d:Db}{x:Ed}
def ac0.ed (h:ac0 D d)(j:K' D)(k:Tn d)(u:x.kind≠4)(b:(oX d x).2=0):ac0 D (oX d x).1:=by
 unfold oX at*;rw[if_neg u]at b⊢;split at b
 .rename_i t e;split at b
  .grind
  rename_i w;rw[if_neg w];have y:=aaJ e;have i:=h.now;unfold NB at*;split at b
  .rename_i f;rw[if_pos f];obtain⟨l,B⟩:=Ho (k.tab t y).1 k.n b;rw[Lv b];refine h.set e λ z p q=>⟨p,?_⟩;rw[i]at l⊢;exact q.apply h.nid (λ v A=>by have:=j _ (aan _) v A;omega) l
  rename_i f;rw[if_neg f];have c:∀{s:bp},ac1 (d.now+1) t.sch s->ac0 D _:=λ {s} a=>by
   have:=h.set (m:=0) (t':=⟨s,t.vs⟩) e λ z p q=>⟨p.trans (by grind),q.up (by simp)⟩;simpa[zZ]using this
  split at b
  .rename_i g;rw[if_pos g];rw[rF,if_pos b];exact c (ac1.add b)
  .rename_i g;rw[if_neg g];unfold sR at b⊢;split at b
   .grind
   rename_i o;split at b
   .grind
   rename_i r;rw[if_neg o,if_neg r];exact c (ac1.drop (acQ o))
 grind
def ac0.run:∀{es:List Ed} {d:Db},ac0 D d->K' D->Fg d es->(∀x∈es,x.kind≠4)->(bJ d es).2=0->ac0 D (bJ d es).1
 |[],d,h,_,_,_,_=>h
 | x::r,d,h,hlo,hr,hk,h0=>by
  obtain⟨c,e,f,b⟩:=hr;rw[bJ]at h0⊢;split at h0
  .rename_i a;rw[if_pos a];exact ac0.run (h.ed hlo c (hk x (by simp)) a) hlo (b a) (λ y g=>hk y (by grind)) h0
  grind
end
end
section
variable {a b c:Int}{d:bc}
def aeS (l:List aO):List aO:=l.map λ a=>⟨a.vals,a.p,[]⟩
def ab8 (w:Int)(a:List bR)(d:Int):List Rw:=atT (aeS (oY w a)) d
def ab9 (w:Int)(a:List bR)(d:Int):ab8 w a d=(a.filter λ v=>sS v&&uO v.vd d).map λ v=>⟨xB v.vals w,[]⟩:=by
 unfold ab8 atT aeS oY;induction a with
 | nil=>rfl
 | cons v r b=>
  rw[aba,aba];cases h:sS v
  .grind
  .simp only[abq,aba,aeC,aaY];split
   .simp only[abq,b];rfl
   grind
def el (w:Int)(a b:List bR)(d:Int):ab8 w (a++b) d=ab8 w a d++ab8 w b d:=by simp[ab9]
def ac2 {w:Int}{c:I'}(j:a≠1099511627776)(f:List bR):ab8 w (cp c a f) b=ab8 w (f.filter λ v=>decide (v.id∉c)) b:=by
 induction f with
 | nil=>rfl
 | cons v r g=>
  have e:cp c a (v::r)=kR c a v++cp c a r:=by rfl
  rw[e,el,g,aba];unfold kR;by_cases h:v.id∈c
  .have i:∀F:List _,(if decide (v.id∉c)=true then v::F else F)=F:=λ F=>if_neg (by grind);rw[if_pos h,i];split
   .rfl
   .have:ab8 w [({v with rc:=⟨v.rc.lo,a⟩})] b=[]:=by simp[ab9,sS,j]
    grind
  .rw[if_neg h,if_pos (by grind),<-List.singleton_append (l:=List.filter _ r),el]
def ac4 {w x d:Int}:∀(b:List aO) (f:Int),ab8 w (gN f x b) d=(b.filter λ a=>uO a.p d).map λ a=>⟨xB a.vals w,[]⟩
 |[],f=>rfl
 | a::r,f=>by
  rw[gN,<-List.singleton_append,el,ac4 r,ab9];by_cases h:uO a.p d=true
  .simp[sS,h]
  grind
def aer (l:List az)(w:Int):xB (xB l w) w=xB l w:=by
 unfold xB;rw[aae,List.length_replicate,show w.toNat-(l.length+(w.toNat-l.length))=0 by omega];simp
def ad1 {g:List az}{id:Int}:((pc g a b id).filter λ e=>uO e.p c)=if a<=c/\c<b/\uO ⟨a,b⟩ c=true then[⟨g,⟨a,b⟩,[id]⟩]else[]:=by
 unfold pc;split
 .by_cases h:uO ⟨a,b⟩ c=true
  .have:=aY.1 h;grind
  grind
 grind
def aes {g:Option (List az)}{u:bR}{w:Int}(f:gi u.vd d=true)(j:¬(d.lo<=a/\a<d.hi)):
  (((fK d g u).filter λ b=>uO b.p a).map λ b=>(⟨xB b.vals w,[]⟩:Rw))=if uO u.vd a=true then[⟨xB u.vals w,[]⟩]else[]:=by
 have e:cv u.vd d=⟨max u.vd.lo d.lo,min u.vd.hi d.hi⟩:=by rw[cv,if_pos f]
 simp[gi,aah]at f;obtain⟨⟨i,k⟩,m⟩:=f;have r:=fo.1 i;refine(λ c:∀M:List aO,(M.filter λ b=>uO b.p a)=[]->(((pc u.vals u.vd.lo (max u.vd.lo d.lo) u.id++M++pc u.vals (min u.vd.hi d.hi) u.vd.hi u.id).filter λ b=>uO b.p a).map λ b=>(⟨xB b.vals w,[]⟩:Rw))=if uO u.vd a=true then[⟨xB u.vals w,[]⟩]else[]=>?_) λ M h=>?_
 .unfold fK;rw[e];cases g with
  | none=>grind
  | some l=>exact c _ (by rw[ad1,if_neg (by grind)])
 rw[abB,abB,ad1,ad1];have n:uO ⟨u.vd.lo,max u.vd.lo d.lo⟩ a=true↔u.vd.lo<=a/\a<max u.vd.lo d.lo:=by rw[aY];grind
 have q:uO ⟨min u.vd.hi d.hi,u.vd.hi⟩ a=true↔min u.vd.hi d.hi<=a/\a<u.vd.hi:=by rw[aY];grind
 have o:uO u.vd a=true↔u.vd.lo<=a/\a<u.vd.hi:=by rw[aY];grind
 grind
def ad4 {t:eC}{i:List Xp}{s:bR->Option (List az)}{h:Int}(D:nk t.vs)(B:b≠1099511627776)(z:¬(d.lo<=h/\h<d.hi)):
  (ab8 (wd t.sch) (jN t.vs (oV (iS t) d i a) (fS d s (cW (iS t) d i a)) b c) h).Perm (ab8 (wd t.sch) t.vs h):=by
 generalize A:wd _=w;have q:∀v∈t.vs,decide (v.id∉oV (iS t) d i a)= !nX d i a (dY w v):=λ v n=>by
  have:v.id∈oV (iS t) d i a↔nX d i a (dY w v)=true:=by
   unfold oV cW iS;rw[aaO];constructor
   .rintro⟨u,y,e⟩;rw[abc,aaO]at y;obtain⟨⟨E,o,rfl⟩,k⟩:=y;rw[(dZ _ _).1]at e;rw[<-D.one o n e];grind
   .intro k;exact⟨dY _ v,abc.2 ⟨aaO.2 ⟨v,n,rfl⟩,by grind⟩,(dZ _ v).1⟩
  grind
 have m:((fS d s (cW (iS t) d i a)).filter λ g=>uO g.p h).map (λ g=>(⟨xB g.vals w,[]⟩:Rw))=ab8 w (t.vs.filter λ v=>nX d i a (dY w v)) h:=by
  unfold cW iS fS;rw[A];generalize t.vs=l;induction l with
  | nil=>rfl
  | cons v l F=>
   rw[abq,aba,aba];by_cases k:nX d i a (dY w v)=true
   .rw[if_pos k,if_pos k,abe,abB,aaR,<-List.singleton_append (l:=List.filter _ l),el];have j:=k;rw[nX,aah,aah,(dZ _ v).2.1]at j;rw[aes j.1.2 z,ab9,(dZ _ v).2.2];have C:sS v=true:=j.1.1;have n:(dY w v).vals=xB v.vals w:=by unfold dY;grind
    rw[n,aer,aba,C];grind
   grind
 rw[jN,el,ac2 B,ac4,m,acg q,<-el];rw[ab9,ab9];exact((adm.trans (List.filter_append_perm _ _)).filter _).map _
def aeE {w:Int}{g:List bR}{e:List az}(i:a≠1099511627776)(j:¬(d.lo<=c/\c<d.hi)):ab8 w (jN g [] [⟨e,d,[]⟩] a b) c=ab8 w g c:=by
 have:uO d c=false:=by
  rw[aew];intro h;have:=aY.1 h;grind
 rw[jN,el,ac2 i,ac4,aba,if_neg (by grind)];simp[List.filter_eq_self.2]
end
section
variable {a:Db}
structure ad0 (D d:Db)(q:Int):Prop where
 len:d.tabs.length=D.tabs.length
 tab:∀(j:Nat) (h:j<D.tabs.length) (h':j<d.tabs.length),d.tabs[j].sch=D.tabs[j].sch/\(ab8 (wd d.tabs[j].sch) d.tabs[j].vs q).Perm (ab8 (wd D.tabs[j].sch) D.tabs[j].vs q)
def ad0.refl {D:Db}{q:Int}:ad0 D D q:=⟨rfl,λ _ _ _=>⟨rfl,.refl _⟩⟩
section
variable {D d:Db}{x:Ed}{q:Int}
def aeH {a f:Int}{t:eC}(i:nk t.vs)(k:a<=1000000)(b:(iT a t x).1=0)(e:¬(x.vd.lo<=q/\q<x.vd.hi)):
  (ab8 (wd t.sch) (jN t.vs (iT a t x).2.1 (iT a t x).2.2 (a+1) f) q).Perm (ab8 (wd t.sch) t.vs q):=by
 have h:a+1≠1099511627776:=by omega
 unfold iT at*;split at b
 .rename_i g;simp only[if_pos g];unfold rE at*;split at b
  .cases b
  rename_i d;split at b
  .rename_i c;exact absurd b c
  rename_i c;simp only[if_neg d,if_neg c];rw[aeE h e]
 rename_i g;simp only[if_neg g];split at b
 .rename_i d;simp only[if_pos d];unfold Bs at*;split at b
  .rename_i c;exact absurd b c
  rename_i c;simp[if_neg c];exact ad4 i h e
 .rename_i d;simp[if_neg d];unfold zX at*;split at b
  .grind
  rename_i c;split at b
  .grind
  rename_i j;simp[if_neg c,if_neg j];exact ad4 i h e
def ad0.ed (h:ad0 D d q)(c:Tn d)(g:x.kind<=3)(k:¬(x.vd.lo<=q/\q<x.vd.hi))(a:(oX d x).2=0):ad0 D (oX d x).1 q:=by
 unfold oX at*;rw[if_neg (by omega)]at a⊢;split at a
 .rename_i t f;split at a
  .grind
  rename_i m;rw[if_neg m];have s:=aaJ f;generalize (cO _ _).toNat=j at*;unfold NB at*;rw[if_pos g]at a⊢;rw[Lv a,vK];obtain⟨v,e⟩:=aap.1 f;have u:=h.len;refine⟨by grind,λ i o l=>?_⟩;obtain⟨p,r⟩:=h.tab i o (by omega);by_cases b:j=i
  .subst b;rw[List.getElem_set_self];rw[e]at p r;exact⟨p,(aeH (c.tab t s).1.lI c.n.n1 a k).trans r⟩
  grind
 grind
def ad0.run:∀{es:List Ed} {d:Db},ad0 D d q->Fg d es->(∀x∈es,x.kind<=3/\¬(x.vd.lo<=q/\q<x.vd.hi))->(bJ d es).2=0->ad0 D (bJ d es).1 q
 |[],d,h,_,_,_=>h
 | x::r,d,h,hr,hk,h0=>by
  obtain⟨f,g,i,b⟩:=hr;rw[bJ]at h0⊢;split at h0
  .rename_i a;rw[if_pos a];obtain⟨c,e⟩:=hk x (by simp);exact ad0.run (h.ed f c e a) (b a) (λ y j=>hk y (by grind)) h0
  grind
end
def aeL (d:Db):List ByteArray:=d.tabs.map λ t=>t.sch.name
structure Z' (e:Nat)(D:Db):Prop where
 di:DI e 4096 D
 lo:K' D
 nm:aeL D=[CU,LN]
 fk:∀t∈D.tabs,∀f∈t.sch.fks,f.table=CU\/f.table=LN
def aot:CU≠LN:=by decide
def Zb (h:aeL a=[CU,LN]):a.tabs.length=2:=by have:=aak List.length h;simpa[aeL]using this
def an6 (h:aeL a=[CU,LN]){j:Nat}(b:j<a.tabs.length):a.tabs[j].sch.name=if j=0 then CU else LN:=by
 have:(aeL a)[j]?=some a.tabs[j].sch.name:=by rw[aeL,aev,aai _];rfl
 grind
def aoq {D:Db}(h:aeL D=[CU,LN]){j:Nat}(e:j<D.tabs.length):cO D.tabs[j].sch.name D.tabs=j:=by
 have f:=Zb h;have g:=an6 h e;rw[g];have c:=an6 h (j:=0) (by omega);have d:=an6 h (j:=1) (by omega);match i:D.tabs,f with
 |[a,b],_=>
  simp[i]at c d;unfold cO idxOf;obtain rfl | rfl:j=0\/j=1:=by grind
  .grind
  .rw[c];show(if decide _=true then(0+1)else _)=_;grind
def ac0.nms {d:Db}(h:ac0 a d):aeL d=aeL a:=by
 unfold aeL;refine aeJ (by simp[h.len]) λ i b c=>?_;rw[List.getElem_map,List.getElem_map];exact(h.tab i _ _).1.name
def Z'.suc {e:Nat}{b:List Ed}(h:Z' e a)(f:b.length<=3)(d:∀x∈b,GE x)(m:e<=26)(c:(bJ a b).2=0):ac0 a (bJ a b).1/\DI (e+3) 400000 (bJ a b).1:=by
 have j:(4096+1)*4^b.length<=400000:=by
  have:4^b.length<=4^3:=Nat.pow_le_pow_right (by simp) f;omega
 obtain⟨i,g⟩:=h.di.run d (by omega) j;exact⟨ac0.refl.run h.lo i (λ x l=>by have:=(d x l).k;omega) c,(g c).up (by omega) (aaB _)⟩
def ac0.fk {d:Db}(h:ac0 a d)(g:∀t∈a.tabs,∀f∈t.sch.fks,f.table=CU\/f.table=LN):∀t∈d.tabs,∀f∈t.sch.fks,f.table=CU\/f.table=LN:=λ t e f c=>by
 obtain⟨j,i,rfl⟩:=aaM e;have b:j<a.tabs.length:=by rw[<-h.len];grind
 rw[(h.tab j b _).1.fks]at c;grind
def Z'.WT {e:Nat}{D:Db}{d:List Ed}(h:Z' e D)(n:d.length<=2)(i:∀x∈d,GE x)(o:e<=26):Fg D d/\((bJ D d).2=0->Ow (bJ D d).1.tabs)/\(pd D d=0->ac0 D (bJ D d).1/\Z' (e+2) (mZ D d)):=by
 obtain⟨a,b,c⟩:=h.di.WT n i (by omega);refine⟨a,b,λ g=>?_⟩;obtain⟨k,q⟩:=Re g;obtain⟨f,l⟩:=h.suc (by omega) i o k;refine⟨f,c g,λ t j v p=>?_,f.nms.trans h.nm,f.fk h.fk⟩;have m:=(l.tab t j).2.2.2.1.lo v p;exact m
def Z'.up {e a:Nat}{D:Db}(h:Z' e D)(b:e<=a):Z' a D:=⟨h.di.up b (aaB _),h.lo,h.nm,h.fk⟩
def aeI {i l:bp}{a b:Ed}(j:a.kind=4)(p:b.kind=4)(q:a.sch=i)(n:b.sch=l)(m:EW CU i=true)(o:i.fks=[])(k:EW LN l=true):Z' 2 (mZ yd [a,b]):=by
 obtain⟨-,-,y,r⟩:=Oh j p q n m o k;subst q n;obtain⟨t,c⟩:=EY m;obtain⟨u,h⟩:=EY k;have g:oX yd a=(⟨0,1,[⟨t,[]⟩]⟩,0):=by rw[oX,if_pos j,show Ou _ _=t from aak _ c.cr];rfl
 have d:oX ⟨0,1,[⟨t,[]⟩]⟩ b=(⟨0,1,[⟨t,[]⟩,⟨u,[]⟩]⟩,0):=by rw[oX,if_pos p,show Ou _ _=u from aak _ h.cr];rfl
 have e:mZ yd [a,b]=⟨1,1,[⟨t,[]⟩,⟨u,[]⟩]⟩:=by unfold mZ;rw[bJ,g,bJ,d];rfl
 have z:t.fks=[]:=by
  have:(bt a.sch 1).1.fks=a.sch.fks:=by
   have:=c.cr;unfold bt at this⊢;grind
  rw[<-o,<-this,c.cr]
 refine⟨r,?_,?_,?_⟩
 .intro s x v A;grind
 .rw[e];show[t.name,u.name]=_;rw[c.name,h.name]
 .intro s x f w;rcases(show s=⟨t,[]⟩\/s=⟨u,[]⟩by grind)with rfl | rfl
  .grind
  .exact(h.fks f w).2.2
end
section
variable {a:Heap}{b d f g:Nat}{c e:D'}{h:List Rw}
def ao2 {h j:I'}(t:Sl a c b d h)(u:Sl a e f g j):
  ZB 276 [S c b d,S e f g] a gL (λ r _=>r=gf cQ h j):=by
 refine ΦK 0 (aj [26] [] [(2,[ag 11])]) (λ d=>W ZE a (λ g=>g 0 a) λ g h i j=>J (j<O b) (ΦX c j b (ΦE ZE i c (N j*1) (λ k=>J (O f<=j) (d 1 i) (ΦX e j f (ΦE ZE i e (N j*1) (λ l=>C ZP 52 [I k,I l] i λ m n=>V (n=0) (d n m) (ΦR (j+1)/\g (j+1) m/\h (j+1)<h j))))))) (J (O b<O f) (d (-1) i) (d 0 i))) ?_;dsimp only[PL,aQ,aR,aW,eQ,C,ΦE,N,ΦR,W,ΦX,O,V,J];refine⟨λ i _=>0<=i/\i<=b/\gf cQ h j=gf cQ (h.drop i.toNat) (j.drop i.toNat),λ i=>b-i.toNat,P' rfl,?_⟩;rintro P l i ⟨o,G,p⟩;have F:=t.bn;have L:=t.len;have M:=u.len;refine ΦD (λ k=>?_) λ w=>?_
 .obtain⟨v,y,_,E,⟨rfl,q⟩⟩:=t.at l o k;refine⟨y,o,k,_,E,ΦD (λ s=>?_) λ s=>?_⟩
  .rw[p,uS v (by omega)]
  .obtain⟨z,D,_,x,⟨rfl,Q⟩⟩:=u.at l o (by omega);refine⟨D,o,by omega,_,x,_,gC,?_⟩;rw[uQ v z]at p;grind
 .rw[uR (by omega)]at p;grind
def ao3 {H:Heap}:jM Tryz.prog Rw H 212 iA:=by
 rintro G r E s t _ ⟨A,n,c,B,m,d,rfl,h,f⟩ ⟨u,k,q,p,z,x,rfl,b,a⟩;refine ΦK 0 (aj [9,14,16] [(1,[2,4,6,8,12,14,16,18,11,21,23,25,26,0])] []) (λ a=>C ZP 116 [S A n c,S u k q] G λ b e=>C ZP 276 [S B m d,S p z x] b λ f g=>∃h:Int->Heap->Prop,U f [I e,I g] 2 (λ i j l=>af Tryz.prog 167 [S i 2 j] l ⟨false,[(false,[.int .i64])]⟩ h)/\∀(i:Heap)(j:Int),h j i->a j f) ?_;dsimp only[aQ,aR,C];refine⟨_,cL h b,?_⟩;rintro w e _ rfl;refine⟨_,ao2 (f.mono e) (a.mono e),?_⟩;rintro D F _ rfl;refine⟨_,λ A c g v j i=>Pn (l:=[bK s.vals t.vals,gf cQ s.lin t.lin]) (Row.sl (T:=Int) (Gq ?_) (ah g) j rfl i (by decide) (by simp)),?_⟩
 .have o:=aD.bd s.vals t.vals;have y:=fQ.lex.bd s.lin t.lin;grind
 .simp[Pk,iA];grind
def apa {r:Rw}(o:Sl a c b d r.vals)(j:Sl a e f g r.lin):
  ZB 210 [.agg ⟨[S c b d,S e f g]⟩] a ⟨false,[(true,[.sl,.sl])]⟩ (λ p h k i s q v=>Rep.rel v [S p h k,S i s q] r):=by
 refine ΦK 0 (aj [] [(1,[2,4,8,10,7,13,14,17,0])] []) (λ h=>C ZT 82 [S c b d] a λ i j k l=>C ZT 186 [S e f g] i λ m n o p=>h j k l n o p m) ?_;dsimp only[aQ,aR,C];refine⟨_,fx o,λ D t x G y l=>⟨_,eF (j.mono t),λ E u F I z w=>?_⟩⟩;exact⟨_,_,_,_,_,_,rfl,l.mono u,w⟩
def aoW:Go.Shelf.Ren:=⟨λ | 6=>211 | 15=>239 | 14=>275 | 28=>315 | 29=>316 | 20=>346 | 21=>347 | 22=>348 | 23=>349 | 24=>350 | 25=>351 | 26=>352 | 27=>353 | 46=>441 | 47=>399 | 48=>400 | 49=>442 | 50=>443 | 57=>489 | n=>n,λ | 22=>94 | 24=>110 | 25=>291 | 3=>3 | 39=>310 | 0=>0 | 53=>404 | 55=>406 | 4=>4 | 46=>398 | 45=>397 | 50=>252 | 5=>5 | 9=>9 | 66=>483 | 70=>487 | 76=>567 | 77=>232 | n=>n,λ n=>n⟩
def ao7:SlLaysF0.n6 Tryz.prog aoW:=by constructor<;>first | kernel_rfl | exact λ _=>by kernel_rfl | exact ab3 (by kernel_rfl) (by kernel_rfl)
def ape:TM Tryz.prog aoW 2:=⟨ao7,Tryz.isAgg110,Tryz.sizeOf110,by kernel_rfl⟩
def ao4 {H:Heap}{e:G'}(o:Row H e h)(j:h.length=b)(r:b<=140737488355328):
  ZC 211 [.slice none 0 0,.func (.func 212) #[] #[]] 0 110 b e true H ⟨true,[]⟩ (λ i (g:Heap)=>∃m:List Rw,Row g i m/\m.Perm h/\m.Pairwise (λ a d=>¬iA d a<0)):=by
 have c:=Gl ape o j r (f:=212) (cap:=[]) (cf:=iA) ⟨_,Tryz.func212,rfl,by rfl⟩ ao9 (λ g v u s t q p k=>ao3 (H:=H) _ _ _ s t q p k);exact c
def apf (s:Sl a c b d h):
  ZB 142 [S c b d] a fi (λ L B D u=>∃m:List Rw,Sl u L B D m/\m.Perm h/\m.Pairwise (λ e f=>¬iA f e<0)):=by
 refine ΦK 1 {aj [] [] [(3,[.slot 3 false [.row 21 110],ag 8])]with mt:=ir [211] []} (λ d=>W ZG a (λ e=>e 0 [] 0 a) λ e f g h i j=>J (j<O b) (ΦX c j b (ΦE XI g c (N j*2) (λ k l m n o p=>C ZY 210 [ΦG [S k l m,S n o p]] g λ q r s t u v w=>(h+1)*48<=M/\ΦR (j+1)/\let x:=i++[Value.slice r s t,S u v w];e (h+1) x (j+1) q/\f (h+1) x (j+1)<f h i j))) (ZZ ZV 211 [S none 0 0,.func (.func 212) ⟨[]⟩ ⟨[]⟩] 0 110 h i true g (λ k l=>U k l h λ m n o=>d m h n o))) ?_;dsimp only[PL,aQ,aR,aW,eQ,C,ZZ,ΦE,M,N,ΦR,W,ΦX,O,J];have hl:=s.len;have a0:b*48<=140737488355328:=s.bnd;refine⟨λ k y i u=>0<=i/\i<=b/\k=i.toNat/\Row u y (h.take i.toNat),λ _ _ i=>b-i.toNat,P' ⟨rfl,rfl⟩,?_⟩;rintro H2 t k y i ⟨v,h1,rfl,q⟩;have e1:(i+1).toNat=i.toNat+1:=by omega
 refine ΦD (λ g=>?_) λ z=>?_
 .obtain⟨Y,I,_,hc,⟨A9,n9,c9,B9,m9,d9,rfl,G,q2⟩⟩:=s.at t v g;refine⟨I,v,g,_,_,_,_,_,_,hc,_,apa (r:=h[i.toNat]) G q2,?_⟩;intro E w V F a1 T P X j;refine u' ⟨by grind,J' ?_,by grind⟩;rw[e1,aaj Y];exact(q.mono w).append (Row.one j)
 .rw[aag (by omega)]at q;refine⟨_,ao4 q (by omega) (by omega),?_⟩;rintro E w ys ⟨m,Z,x,R⟩ A4 c4 H4 Q p o;exact⟨m,Z.sl Q p (by rw[x.length_eq];omega) o (by show i.toNat*48<=_;omega) (by omega),x,R⟩
def aoz {c b t:Int}:ZB 81 [.agg ⟨[Φi c,Φi b]⟩,Φi t] a fg (λ r _=>r=uO ⟨c,b⟩ t):=by
 refine ΦK 0 (aj [6] [] []) (λ d=>C ZO 139 [ΦG [I c,I b]] a λ e f=>ΦQ f (J (c<=t) (d (decide (t<b)) e) (d false e)) (d false e)) ?_;dsimp only[aQ,aR,C,ΦQ,J];refine⟨_,bX,?_⟩;rintro e f _ rfl;refine⟨λ h=>⟨λ d=>?_,λ d=>?_⟩,λ h=>?_⟩<;>simp[uO, *]<;>simp
def apb {i h:Int}:ZB 141 [.agg ⟨[S c b d,Φi i,Φi h,S e f g]⟩] a ⟨false,[(true,[.sl,.sl])]⟩ (λ l j o k q p _=>l=c/\j=b/\o=d/\k=e/\q=f/\p=g):=by
 refine ΦK 0 bE (λ h=>h c b d e f g a) ?_;simp
def aoY {l:List aO}{t:Int}(x:Sl a c b d l):
  ZB 84 [S c b d,Φi t] a fi (λ Y Q R z=>∃m:List Rw,Sl z Y Q R m/\m.Perm (atT l t)/\m.Pairwise (λ e f=>¬iA f e<0)):=by
 refine ΦK 1 (aj [17] [] [(3,[.slot 5 false [.row 26 110],ag 10])]) (λ d=>W ZG a (λ e=>e 0 [] 0 a) λ e f g h i j=>J (j<O b) (ΦX c j b (ΦE ZI g c (N j*4) (λ k l m n o p q r=>C ZO 81 [ΦG [I n,I o],I t] g λ s u=>ΦQ u (C ZY 141 [ΦG [S k l m,I n,I o,S p q r]] s (λ v w x y z a0 a1=>(h+1)*48<=M/\ΦR (j+1)/\let a2:=i++[Value.slice w x y,S z a0 a1];e (h+1) a2 (j+1) v/\f (h+1) a2 (j+1)<f h i j)) (ΦR (j+1)/\e h i (j+1) s/\f h i (j+1)<f h i j)))) (U g i h (λ k l m=>C ZT 142 [S k h l] m λ n o p q=>d o p q n))) ?_;dsimp only[PL,aQ,aR,aW,eQ,C,ΦE,M,N,ΦQ,ΦR,W,ΦX,O,J];have hl:=x.len;have a1:b*64<=140737488355328:=x.bnd;refine⟨λ k G i z=>0<=i/\i<=b/\k=(atT (l.take i.toNat) t).length/\Row z G (atT (l.take i.toNat) t),λ _ _ i=>b-i.toNat,y' ⟨rfl,rfl⟩,?_⟩;rintro H2 y k G i ⟨B,h1,D,s⟩;have j:=ao8 (l.take i.toNat) t;rw[aaE]at j;have L:(i+1).toNat=i.toNat+1:=by omega
 refine ΦD (λ r=>?_) λ P=>?_
 .obtain⟨hi,X,_,hc,⟨A9,n9,c9,a0,Z,a2,rfl,V,q2,q3,q4⟩⟩:=x.at y B r;have g:=apd (t:=t) hi;refine⟨X,B,r,_,_,_,_,_,_,_,_,hc,_,aoz,?_⟩;rintro H3 E _ rfl;refine⟨λ F=>⟨_,apb,?_⟩,λ F=>?_⟩
  .rintro T v _ _ _ _ _ _ ⟨rfl,rfl,rfl,rfl,rfl,rfl⟩;have o:=F;rw[if_pos o]at g;have q:=aa E v;refine u' ⟨by grind,y' (T' ?_),by grind⟩;rw[L,g];exact(s.mono q).append (Row.one ⟨_,_,_,_,_,_,rfl,V.mono q,q4.mono q⟩)
  .have o:¬uO l[i.toNat].p t=true:=by
    simp_all
   rw[if_neg o,aar]at g;exact T' ⟨y' (T' (by rw[L,g];exact s.mono E)),by grind⟩
 .rw[aag (by omega)]at D s;have j:=ao8 l t;intro A4 c4 T v w u;exact⟨_,apf (s.sl v w D.symm u (by show k*48<=_;omega) (by omega)),λ H5 l5 A5 n5 c5 h=>h⟩
def nb {o D:D'}{k h l i:Nat}{r s:Rw}(u:Sl a c b d r.vals)(q:Sl a e f g r.lin)(w:Sl a o k h s.vals)(t:Sl a D l i s.lin):
  ZB 45 [.agg ⟨[S c b d,S e f g]⟩,.agg ⟨[S o k h,S D l i]⟩] a fg (λ j _=>j=decide (r=s)):=by
 refine ΦK 0 (aj [9,16] [] []) (λ j=>C ZP 26 [S c b d,S o k h] a λ m n=>J (n=0) (C ZP 105 [S e f g,S D l i] m (λ p q=>j (decide (q=0)) p)) (j false m)) ?_;dsimp only[aQ,aR,C,J];refine⟨_,fv u w,?_⟩;rintro x p _ rfl;have y:r=s↔bK r.vals s.vals=0/\gf cQ r.lin s.lin=0:=by
  rw[aD.iff,fQ.lex.iff];cases r;cases s;simp
 refine⟨λ v=>⟨_,vw (q.mono p) (t.mono p),?_⟩,λ v=>?_⟩
 .grind
 grind
def ao1 {j:List Rw}(p:Sl a c b d h)(q:Sl a e f g j)(y:h=j):
  ZB 35 [S c b d,S e f g] a fg (λ r _=>r=true):=by
 refine ΦK 0 (aj [25] [(6,ab 2 8 [19,20,0])] [(4,[ag 5])]) (λ d=>V (O b=O f) (d false a) (W ZE a (λ g=>g 0 a) (λ g h i j=>J (j<O b) (ΦX c j b (ΦE XI i c (N j*2) (λ k l m n o p=>ΦX e j f (ΦE XI i e (N j*2) (λ q r s t u v=>C ZO 45 [ΦG [S k l m,S n o p],ΦG [S q r s,S t u v]] i λ w x=>ΦQ (!x) (d false w) (ΦR (j+1)/\g (j+1) w/\h (j+1)<h j)))))) (d true i)))) ?_;dsimp only[PL,aQ,aR,aW,eQ,C,ΦE,N,ΦQ,ΦR,W,ΦX,O,V,J];subst y;have R:=p.len;have L:=p.bn;have s3:=q.len;refine⟨λ k=>by simp at k;omega,λ _=>⟨λ i _=>0<=i/\i<=b,λ i=>b-i.toNat,u' (by omega),?_⟩⟩;rintro Z s i ⟨o,Y⟩;refine⟨λ l=>?_,λ _=>rfl⟩;have l:=aab l;obtain⟨X,w,_,D,I,n1,P,A2,n2,Q,rfl,v,E⟩:=p.at s o l;obtain⟨hj,z,_,t,T,U,M,B2,G,F,rfl,x,u⟩:=q.at s o (by omega);refine⟨w,o,l,_,_,_,_,_,_,D,z,o,by omega,_,_,_,_,_,_,t,_,nb v E x u,?_⟩;grind
end
end Go.Vc
