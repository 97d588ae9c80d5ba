/- A part of the proof. -/
import Derived.Test.YtnkineaffgkicaaGreatDoorH29
set_option maxHeartbeats 0
set_option maxRecDepth 100000
set_option linter.unusedVariables false
set_option linter.defProp false
set_option linter.unusedSectionVars false
set_option linter.unusedSimpArgs false
namespace Go.Vc
open Go Go.Shelf Go.Proofs
section
def Xf {H:Heap}{V:D'}{n c:Nat}(h:Sl H V n c [Ll 0,Lm 0]):qj H ⟨1,CU,V,n,c,0,9,none,0,0,0,none,0,0,⟨⟨[]⟩⟩,none,0,0,none,0,0,none,0,0,none,0,0,0,mt,0⟩ ye:=
 ⟨rfl,rfl,h,rfl,rfl,Sl.nil,rfl,Sl.nil,ba,rfl,rfl,rfl,by decide,by decide,by decide,by decide,VY⟩
section
attribute [local irreducible] af
def Il {H:Heap}(g:mr H):ZB 17 [] H fg (λ r _=>r=true):=by
 refine ΦK 1 {aj [57,62,80] [(3,[4,6,8,3,11,13,14,16,18,21,23,24,0,1,1,21,13,14,16,18,23,24,0,1,1,1,21,11,13,14,16,18,23,24,0,1,1,1,1,11,3,13,14,16,18,21,23,24,0,1,1,21,13,14,16,18,23,24,0,1,1,1,21,3,13,14,16,18,23,24,0,1,1,1,1,21,3,11,13,14,16,18,23,24,0,1,1,1,11,3,13,14,16,18,23,24,0])] []with res:=wj [(8,⟨false,[(true,[.str,.sl,.sl,.row 83 68,.sl])]⟩)],kb:=ir [29,30,33,38,44,53,58,63,72,76,81] []} (λ a=>C Zl 57 [ΦT {data:=⟨[(116:UInt8)]⟩},ΦG [.int .u16 0,.int .u16 1,.int .u16 0,.int .u16 0]] H λ b c d e f g h i j k l m n=>C ZT 58 [.int .u16 0,.int .u16 0] b λ o p q r=>let s:=λ s t (u:Nat)(v w:Int) x (y z:Nat)(a0:Int) a1 (a2 a3:Nat) a4 (a5 a6:Nat)=>U s [I 4,ΦT ⟨⟨[]⟩⟩,S none 0 0,I 0,I 0,S none 0 0,I 0,S none 0 0,ΦT c,S d e f,S g h i,S t j u,S l m n,I 0,ΦT ⟨⟨[]⟩⟩,I 0,I 1,ΦT {data:=⟨[(116:UInt8)]⟩},S p q r,I 0,I 9,S none 0 0,I 0,S none 0 0,ΦT ⟨⟨[]⟩⟩,S none 0 0,S none 0 0,S none 0 0,S none 0 0,I 0,ΦT ⟨⟨[]⟩⟩,I 0] 2 λ a7 a8 a9=>let b0:=λ(b0 b1:Int) b2 (b3 b4:Nat)(b5:Int) b6 (b7 b8:Nat) b9 (c0 c1:Nat)=>[I b0,I b1,S b2 b3 b4,I b5,S b6 b7 b8,S b9 c0 c1];C YT 29 [ΦG (b0 v w x y z a0 a1 a2 a3 a4 a5 a6),S a7 2 a8] a9 λ b1 b2 b3 b4 b5 b6 b7 b8 b9 c0 c1 c2 c3 c4=>U b1 [I 1,ΦT {data:=⟨[(116:UInt8)]⟩},S p q r,I 0,I 9,S none 0 0,I 0,S none 0 0,ΦT ⟨⟨[]⟩⟩,S none 0 0,S none 0 0,S none 0 0,S none 0 0,I 0,ΦT ⟨⟨[]⟩⟩,I 0] 1 λ c5 c6 c7=>C YT 29 [ΦG (b0 b2 b3 b4 b5 b6 b7 b8 b9 c0 c1 c2 c3),S c5 1 c6] c7 λ c8 c9 d0 d1 d2 d3 d4 d5 d6 d7 d8 d9 e0 e1=>decide (c4=0)=true/\decide (b2=1)=true/\decide (b3=2)=true/\decide (O b5=1)=true/\ΦX b4 0 b5 (ΦE ZM c8 b4 (N 0*6+5) (λ e2 e3 e4=>decide (O e3=1)=true/\C ZP 16 [ΦG (b0 b2 b3 b4 b5 b6 b7 b8 b9 c0 c1 c2 c3),ΦT {data:=⟨[(116:UInt8)]⟩}] c8 λ e5 e6=>decide (e6=0)=true/\C ZP 16 [ΦG (b0 b2 b3 b4 b5 b6 b7 b8 b9 c0 c1 c2 c3),ΦT {data:=⟨[(117:UInt8)]⟩}] e5 λ e7 e8=>decide (e8=-1)=true/\ΦX b4 0 b5 (ΦE XM e7 b4 (N 0*6) (λ e9 f0 f1 f2 f3 f4 f5 f6 f7 f8 f9 g0 g1 g2 g3 g4=>C ZT 14 [ΦG [ΦT e9,S f0 f1 f2,S f3 f4 f5,S f6 f7 f8,S f9 g0 g1,S g2 g3 g4]] e7 λ g5 g6 g7 g8=>decide (O g7=1)=true/\decide (e1=15)=true/\C ZP 19 [ΦG (b0 b2 b3 b4 b5 b6 b7 b8 b9 c0 c1 c2 c3)] g5 λ g9 h0=>decide (h0=0)=true/\a true g9))));C YS 59 [] o (λ t u v w x y z a0 a1 a2 a3 a4 a5=>U t k j (λ a6 a7 a8=>s a8 a6 a7 u v w x y z a0 a1 a2 a3 a4 a5/\s a8 a6 a7 u v w x y z a0 a1 a2 a3 a4 a5)/\U t k j λ a6 a7 a8=>s a8 a6 a7 u v w x y z a0 a1 a2 a3 a4 a5)/\let t:=λ t u (v:Nat)=>C YS 59 [] t λ w x y z a0 a1 a2 a3 a4 a5 a6 a7 a8=>s w u v x y z a0 a1 a2 a3 a4 a5 a6 a7 a8;U o k j (λ u v w=>C YS 59 [] w (λ x y z a0 a1 a2 a3 a4 a5 a6 a7 a8 a9=>s x u v y z a0 a1 a2 a3 a4 a5 a6 a7 a8 a9/\s x u v y z a0 a1 a2 a3 a4 a5 a6 a7 a8 a9)/\t w u v)/\C YS 59 [] o (λ u v w x y z a0 a1 a2 a3 a4 a5 a6=>U u k j λ a7 a8 a9=>s a9 a7 a8 v w x y z a0 a1 a2 a3 a4 a5 a6)/\U o k j λ u v w=>t w u v) ?_;dsimp only[aQ,aR,eQ,C,ΦE,ΦG,I,N,S,ΦT,U,ΦX,O];refine⟨_,oH (nm:=CU) (a:=0) (b:=1) (c:=0) (d:=0) (Fa (.inl rfl)) (by decide) (by decide) (by decide) (by decide),?_⟩;rintro H1 W nm A1 n1 c1 B1 m1 d1 rn b3 F1 k1 f1 l;refine⟨_,Nh (abt _) (abt _),?_⟩;rintro H2 l2 V vn vc hV;have q1:=l.vers;have q2:=l.key;have q3:=l.row;have G:=l.rn;have q5:=l.cst;rw[show mkKey 1=[1]by kernel_rfl]at q2;rw[show jF 0=[]by kernel_rfl]at q3 G;rw[show jR 0=[]by kernel_rfl]at q5;repeat' first
  |(have e:=F;have p:=E;refine Bu ?_)
  |(refine⟨_,Ii,?_⟩;rintro H3 l3 a b X n c h Y m d Z k e F;obtain⟨rfl,rfl,rfl,rfl,rfl,rfl,rfl,rfl,rfl,rfl,rfl,rfl⟩:=F;have F:=True.intro)
  |(
   fail_if_success
    have p:=E
   intro E1 e1 H4 l4 E nP;have J:Heap.le H2 H4:=by repeat first | assumption | exact ah _ | refine aa (by assumption) ?_)
  |(
   fail_if_success
    have e:=F;have p:=E
   apply And.intro)
 all_goals
  intro A6 c6 u l6 g6 n6;have t:Heap.le H1 u:=by repeat first | assumption | exact ah _ | refine aa (by assumption) ?_
  have r2:Heap.le H2 u:=by repeat first | assumption | exact ah _ | refine aa (by assumption) ?_
  have r4:Heap.le H4 u:=by repeat first | assumption | exact ah _ | refine aa (by assumption) ?_
  have M:aV u nm A1 n1 c1 B1 m1 d1 E1 rn e1 F1 k1 f1 Ox:=⟨l.z.symm,l.s,q1.mono t,q2.mono t,((q3.mono (aa l2 J)).sl (ah _) E G.symm nP (by rw[G];decide) (by rw[G];decide)).mono r4,q5.mono t⟩;have y:=Xf (hV.mono r2);have he:Sl u A6 2 c6 [EZ Ox,ye]:=((Row.one (KA M)).append (AL y)).sl (ah _) g6 rfl n6 (by decide) (by grind);refine⟨_,Ks (g.mono (aa W t)) ⟨rfl,rfl,Sl.nil,rfl,rfl⟩ he Xd (by exact Xc.2.1),?_⟩;rintro H7 L b1 b4 X n c a9 Y hn hc Z cn cc er ⟨Q,hz,-⟩;obtain⟨q,hh⟩:=hz Wg;rw[Wg]at Q;rw[WZ]at q;intro A8 c8 H8 w g8 n8;have T:Sl H8 A8 1 c8 [ye]:=(AL (y.mono (aa L w))).sl (ah _) g8 rfl n8 (by decide) (by simp);refine⟨_,Ks (g.mono (aa W (aa t (aa L w)))) (q.mono w) T Wi.1 Wi.2.1,?_⟩;rintro H9 l9 a0 a1 X2 n2 c2 a2 Y2 b6 a8 Z2 b5 b0 a4 ⟨D,-,-⟩;rw[Xe]at D;have q:=q.mono (aa w l9);have o:=UE▸q;have j:=o.tabs.len;have j:n=1:=j.symm;obtain⟨_,hA,_,ha,a5,C1,o1,s1,C2,o2,s2,C3,o3,s3,C4,o4,s4,C5,o5,s5,rfl,hT⟩:=o.tabs.at (i:=0) (ah _) (by simp) (by omega);have B:=hT.vs.len;have B:o5=1:=B.symm;refine⟨by grind,by rw[o.now];rfl,by rw[o.nid];rfl,aau (by omega),hA,by simp,by omega,_,_,_,ha.cy (k:=5) rfl,aau (by omega),_,qY o.tabs,?_⟩;rintro b2 v _ rfl;refine⟨by rfl,_,qY (o.tabs.mono v),?_⟩;rintro a3 R _ rfl;have f:=aa v R;refine⟨by rfl,hA,by simp,by omega,_,_,_,_,_,_,_,_,_,_,_,_,_,_,_,_,ha.mono f,_,Ab (hT.mono f) (abz _ _) (by omega),?_⟩;rintro a7 A P pn pc hP;have x:=hP.len;have x:pn=1:=x.symm;refine⟨aau (by omega),by grind,_,Ih (g.mono (aa W (aa t (aa L (aa w (aa l9 (aa f A))))))) (q.mono (aa f A)) wkK,?_⟩;rintro b7 a6 _ rfl;exact⟨by rw[Wj];rfl,rfl⟩
end
end
section
variable {a c g:Int}{b h:List bR}{f:bp}
def V' (x:Int)(v u:bR):Prop:=u=v\/v.rc.hi=1099511627776/\u={v with rc:=⟨v.rc.lo,x⟩}
def V'.id {x:Int}{v u:bR}(h:V' x v u):u.id=v.id/\u.rc.lo=v.rc.lo/\u.vals=v.vals/\u.vd=v.vd:=by
 rcases h with rfl |⟨-,rfl⟩<;>exact⟨rfl,rfl,rfl,rfl⟩
def Suc (x n d:Int)(a b:List bR):Prop:=∃(g:bR->bR) (c:List bR),b=a.map g++c/\(∀v∈a,V' x v (g v))/\∀u∈c,n<=u.id/\u.id<d/\u.rc=⟨x,1099511627776⟩
def Suc.refl:Suc a c g b b:=⟨id,[],by simp,λ _ _=> .inl rfl,λ _ h=>by grind⟩
def Suc.up {i:Int}(f:Suc a c g b h)(o:g<=i):Suc a c i b h:=by
 obtain⟨d,k,e,j,l⟩:=f;exact⟨d,k,e,j,λ u m=>by grind⟩
def ac9 {c:List Int}:cp c a (b++h)=cp c a b++cp c a h:=by simp[cp]
def ac7 {a:List Int}{x:Int}:∀{l:List bR},(∀v∈l,v.rc.lo≠x)->cp a x l=l.map λ v=>if v.id∈a then{v with rc:=⟨v.rc.lo,x⟩}else v
 |[],_=>rfl
 | v::r,h=>by
  have e:cp a x (v::r)=kR a x v++cp a x r:=by rfl
  rw[e,ac7 (λ u b=>h u (by grind)),kR]
  grind
def nk.one (h:nk b){a c:bR}(d:a∈b)(g:c∈b)(e:a.id=c.id):a=c:=Ly (f:=bR.id) h d g e
def Suc.apply {l:List Int}{k:List aO}(f:Suc a c g b h)(D:c<=g)(z:∀v∈b,v.rc.lo≠a)(t:Gx h l k a g):Suc a c (g+k.length) b (jN h l k a g):=by
 obtain⟨d,e,rfl,o,E⟩:=f;refine⟨λ v=>if(d v).id∈l then{d v with rc:=⟨(d v).rc.lo,a⟩}else d v,cp l a e++gN g a k,?_,λ v m=>?_,λ u i=>?_⟩
 .rw[jN,ac9,ac7 (λ u i=>?_),List.map_map,aat];·rfl
  obtain⟨v,m,rfl⟩:=aaO.1 i;rw[(o v m).id.2.1];grind
 .have j:=o v m;dsimp only;split
  .rename_i A;obtain⟨u,i,y,s,-⟩:=t.cur _ A;have:=t.lI.one i (aeb _ (aaO.2 ⟨v,m,rfl⟩)) y;subst this;rcases j with j |⟨j,B⟩
   .rw[j]at s⊢;exact .inr ⟨s,rfl⟩
   grind
  grind
 .rcases aam.1 i with i | i
  .obtain⟨w,C,i⟩:=aaZ.1 i;rw[kR]at i;grind
  .obtain⟨p,q,r,-⟩:=lg i;grind
structure ac1 (x:Int)(s s':bp):Prop where
 name:s'.name=s.name
 fks:s'.fks=s.fks
 at':∀t,t<x->((cY t s'.vers).getD og).cols=((cY t s.vers).getD og).cols
def ac1.refl:ac1 a f f:=⟨rfl,rfl,λ _ _=>rfl⟩
def ac1.trans {x:Int}{s c b:bp}(h:ac1 x s c)(a:ac1 x c b):ac1 x s b:=⟨a.name.trans h.name,a.fks.trans h.fks,λ t d=>(a.at' t d).trans (h.at' t d)⟩
def wt (x:Int):∀(l m:List dh),cY x (l++m)=(cY x l).or (cY x m)
 |[],m=>by rfl
 | v::r,m=>by
  rw[aby,cY,cY];split
  .rfl
  .exact wt x r m
def ac3 {l:List dh}{v:dh}{b:List cz}(d:l.getLast?=some v)(h:c<a)(i:a<v.rc.hi):((cY c (bf l b a)).getD og).cols=((cY c l).getD og).cols:=by
 obtain⟨e,rfl⟩:=zT d;unfold bf;rw[d];dsimp only;rw[aea];split
 .rw[wt,wt];have g:cY c [⟨v.rc,b⟩]=none:=by rw[cY,if_neg (by grind)];rfl
  have f:cY c [v]=none:=by rw[cY,if_neg (by omega)];rfl
  grind
 .rw[wt,wt];cases cY c _ with
  | some w=>rfl
  | none=>
   simp[cY];grind
def ad3 {v:dh}(h:cg f a=true)(d:f.vers.getLast?=some v):a<v.rc.hi:=by
 obtain⟨b,c,-⟩:=mW h;have:=(CI b).2;rw[eV]at this;grind
def ac1.add {c:cz}(h:(eW f c a).2=0):ac1 a f (eW f c a).1:=by
 obtain⟨v,d,b,l,j,k,i,e⟩:=Nr h;rw[e];exact⟨rfl,rfl,λ t g=>ac3 b g (ad3 d b)⟩
def ac1.drop {x:Int}(h:(bN f a x).2=0):ac1 x f (bN f a x).1:=by
 obtain⟨v,d,b,k,g,j,c⟩:=JN h;rw[c];exact⟨rfl,rfl,λ t e=>ac3 b e (ad3 d b)⟩
structure ac0 (D d:Db):Prop where
 now:d.now=D.now
 nid:D.nid<=d.nid
 len:d.tabs.length=D.tabs.length
 tab:∀(j:Nat) (h:j<D.tabs.length) (h':j<d.tabs.length),ac1 (D.now+1) D.tabs[j].sch d.tabs[j].sch/\Suc (D.now+1) D.nid d.nid D.tabs[j].vs d.tabs[j].vs
def ac0.refl {D:Db}:ac0 D D:=⟨rfl,abt _,rfl,λ _ _ _=>⟨ac1.refl,Suc.refl⟩⟩
def K' (D:Db):Prop:=∀t∈D.tabs,∀v∈t.vs,v.rc.lo<=D.now
def ac0.set {D d:Db}{j m:Nat}{t t':eC}(h:ac0 D d)(e:d.tabs[j]?=some t)
  (g:∀(c:j<D.tabs.length),ac1 (D.now+1) D.tabs[j].sch t.sch->Suc (D.now+1) D.nid d.nid D.tabs[j].vs t.vs->ac1 (D.now+1) D.tabs[j].sch t'.sch/\Suc (D.now+1) D.nid (d.nid+m) D.tabs[j].vs t'.vs):
  ac0 D ⟨d.now,d.nid+m,d.tabs.set j t'⟩:=by
 have:=h.nid;refine⟨h.now,by grind,by rw[abd];exact h.len,λ i f b=>?_⟩;obtain⟨p,q⟩:=h.tab i _ _;show ac1 _ _ _/\Suc _ _ (d.nid+m) _ _;by_cases a:j=i
 .grind
 .rw[List.getElem_set_ne a];exact⟨p,q.up (by omega)⟩
section
variable {e L:Nat}{D d:Db}{x:Ed}
def ac0.ed (h:ac0 D d)(j:K' D)(k:Tn d)(u:x.kind≠4)(b:(oX d x).2=0):ac0 D (oX d x).1:=by
 unfold oX at*;rw[if_neg u]at b⊢;split at b
 .rename_i t e;split at b
  .grind
  rename_i w;rw[if_neg w];have y:=aaJ e;have i:=h.now;unfold NB at*;split at b
  .rename_i f;rw[if_pos f];obtain⟨l,B⟩:=Ho (k.tab t y).1 k.n b;rw[Lv b];refine h.set e λ z p q=>⟨p,?_⟩;rw[i]at l⊢;exact q.apply h.nid (λ v A=>by have:=j _ (aan _) v A;omega) l
  rename_i f;rw[if_neg f];have c:∀{s:bp},ac1 (d.now+1) t.sch s->ac0 D _:=λ {s} a=>by
   have:=h.set (m:=0) (t':=⟨s,t.vs⟩) e λ z p q=>⟨p.trans (by grind),q.up (by simp)⟩;simpa[zZ]using this
  split at b
  .rename_i g;rw[if_pos g];rw[rF,if_pos b];exact c (ac1.add b)
  .rename_i g;rw[if_neg g];unfold sR at b⊢;split at b
   .grind
   rename_i o;split at b
   .grind
   rename_i r;rw[if_neg o,if_neg r];exact c (ac1.drop (acQ o))
 grind
def ac0.run:∀{es:List Ed} {d:Db},ac0 D d->K' D->Fg d es->(∀x∈es,x.kind≠4)->(bJ d es).2=0->ac0 D (bJ d es).1
 |[],d,h,_,_,_,_=>h
 | x::r,d,h,hlo,hr,hk,h0=>by
  obtain⟨c,e,f,b⟩:=hr;rw[bJ]at h0⊢;split at h0
  .rename_i a;rw[if_pos a];exact ac0.run (h.ed hlo c (hk x (by simp)) a) hlo (b a) (λ y g=>hk y (by grind)) h0
  grind
end
end
def aoy (v:bR):Bool:=eo v.vd&&dm v.rc
def aoC (v:bR):aO:=⟨v.vals,v.vd,[v.id]⟩
def aox (a:List bR)(t:Int):List aO:=(a.filter λ v=>aoy v&&uO v.rc t).map aoC
def aoH {x n d t:Int}{a b:List bR}(h:Suc x n d a b)(m:∀v∈a,v.rc.lo<x)(q:x<1099511627776)(p:t<x):aox b t=aox a t:=by
 obtain⟨g,j,rfl,i,o⟩:=h;have c:j.filter (λ v=>aoy v&&uO v.rc t)=[]:=by
  refine adh.2 λ u l=>?_;obtain⟨-,-,r⟩:=o u l;have:uO u.rc t=false:=by rw[r];simp[uO];omega
  grind
 unfold aox;rw[abB,c];induction a with
 | nil=>rfl
 | cons v r s=>
  have k:(aoy (g v)&&uO (g v).rc t)=(aoy v&&uO v.rc t)/\aoC (g v)=aoC v:=by
   rcases i v (by simp)with h |⟨c,f⟩
   .grind
   .refine⟨?_,by rw[f];rfl⟩;unfold aoy uO;have e:dm ⟨v.rc.lo,x⟩=dm v.rc:=by
     rw[aaH,fo,fo];grind
    grind
  grind
section
variable {a:Db}
section
variable {D d:Db}{x:Ed}{q:Int}
end
def aeL (d:Db):List ByteArray:=d.tabs.map λ t=>t.sch.name
structure Z' (e:Nat)(D:Db):Prop where
 di:DI e 4096 D
 lo:K' D
 nm:aeL D=[CU,LN]
 fk:∀t∈D.tabs,∀f∈t.sch.fks,f.table=CU\/f.table=LN
def aot:CU≠LN:=by decide
def Zb (h:aeL a=[CU,LN]):a.tabs.length=2:=by have:=aak List.length h;simpa[aeL]using this
def an6 (h:aeL a=[CU,LN]){j:Nat}(b:j<a.tabs.length):a.tabs[j].sch.name=if j=0 then CU else LN:=by
 have:(aeL a)[j]?=some a.tabs[j].sch.name:=by rw[aeL,aev,aai _];rfl
 grind
def aoq {D:Db}(h:aeL D=[CU,LN]){j:Nat}(e:j<D.tabs.length):cO D.tabs[j].sch.name D.tabs=j:=by
 have f:=Zb h;have g:=an6 h e;rw[g];have c:=an6 h (j:=0) (by omega);have d:=an6 h (j:=1) (by omega);match i:D.tabs,f with
 |[a,b],_=>
  simp[i]at c d;unfold cO idxOf;obtain rfl | rfl:j=0\/j=1:=by grind
  .grind
  .rw[c];show(if decide _=true then(0+1)else _)=_;grind
def ac0.nms {d:Db}(h:ac0 a d):aeL d=aeL a:=by
 unfold aeL;refine aeJ (by simp[h.len]) λ i b c=>?_;rw[List.getElem_map,List.getElem_map];exact(h.tab i _ _).1.name
def Z'.suc {e:Nat}{b:List Ed}(h:Z' e a)(f:b.length<=3)(d:∀x∈b,GE x)(m:e<=26)(c:(bJ a b).2=0):ac0 a (bJ a b).1/\DI (e+3) 400000 (bJ a b).1:=by
 have j:(4096+1)*4^b.length<=400000:=by
  have:4^b.length<=4^3:=Nat.pow_le_pow_right (by simp) f;omega
 obtain⟨i,g⟩:=h.di.run d (by omega) j;exact⟨ac0.refl.run h.lo i (λ x l=>by have:=(d x l).k;omega) c,(g c).up (by omega) (aaB _)⟩
def ac0.fk {d:Db}(h:ac0 a d)(g:∀t∈a.tabs,∀f∈t.sch.fks,f.table=CU\/f.table=LN):∀t∈d.tabs,∀f∈t.sch.fks,f.table=CU\/f.table=LN:=λ t e f c=>by
 obtain⟨j,i,rfl⟩:=aaM e;have b:j<a.tabs.length:=by rw[<-h.len];grind
 rw[(h.tab j b _).1.fks]at c;grind
def Z'.WT {e:Nat}{D:Db}{d:List Ed}(h:Z' e D)(n:d.length<=2)(i:∀x∈d,GE x)(o:e<=26):Fg D d/\((bJ D d).2=0->Ow (bJ D d).1.tabs)/\(pd D d=0->ac0 D (bJ D d).1/\Z' (e+2) (mZ D d)):=by
 obtain⟨a,b,c⟩:=h.di.WT n i (by omega);refine⟨a,b,λ g=>?_⟩;obtain⟨k,q⟩:=Re g;obtain⟨f,l⟩:=h.suc (by omega) i o k;refine⟨f,c g,λ t j v p=>?_,f.nms.trans h.nm,f.fk h.fk⟩;have m:=(l.tab t j).2.2.2.1.lo v p;exact m
def Z'.up {e a:Nat}{D:Db}(h:Z' e D)(b:e<=a):Z' a D:=⟨h.di.up b (aaB _),h.lo,h.nm,h.fk⟩
def aeI {i l:bp}{a b:Ed}(j:a.kind=4)(p:b.kind=4)(q:a.sch=i)(n:b.sch=l)(m:EW CU i=true)(o:i.fks=[])(k:EW LN l=true):Z' 2 (mZ yd [a,b]):=by
 obtain⟨-,-,y,r⟩:=Oh j p q n m o k;subst q n;obtain⟨t,c⟩:=EY m;obtain⟨u,h⟩:=EY k;have g:oX yd a=(⟨0,1,[⟨t,[]⟩]⟩,0):=by rw[oX,if_pos j,show Ou _ _=t from aak _ c.cr];rfl
 have d:oX ⟨0,1,[⟨t,[]⟩]⟩ b=(⟨0,1,[⟨t,[]⟩,⟨u,[]⟩]⟩,0):=by rw[oX,if_pos p,show Ou _ _=u from aak _ h.cr];rfl
 have e:mZ yd [a,b]=⟨1,1,[⟨t,[]⟩,⟨u,[]⟩]⟩:=by unfold mZ;rw[bJ,g,bJ,d];rfl
 have z:t.fks=[]:=by
  have:(bt a.sch 1).1.fks=a.sch.fks:=by
   have:=c.cr;unfold bt at this⊢;grind
  rw[<-o,<-this,c.cr]
 refine⟨r,?_,?_,?_⟩
 .intro s x v A;grind
 .rw[e];show[t.name,u.name]=_;rw[c.name,h.name]
 .intro s x f w;rcases(show s=⟨t,[]⟩\/s=⟨u,[]⟩by grind)with rfl | rfl
  .grind
  .exact(h.fks f w).2.2
end
section
variable {a:Heap}{b f:D'}{c d g h:Nat}{e:Int}
def aoz {b t:Int}:ZB 81 [.agg ⟨[Φi e,Φi b]⟩,Φi t] a fg (λ r _=>r=uO ⟨e,b⟩ t):=by
 refine ΦK 0 (aj [6] [] []) (λ c=>C ZO 139 [ΦG [I e,I b]] a λ d f=>ΦQ f (J (e<=t) (c (decide (t<b)) d) (c false d)) (c false d)) ?_;dsimp only[aQ,aR,C,ΦQ,J];refine⟨_,bX,?_⟩;rintro d f _ rfl;refine⟨λ h=>⟨λ c=>?_,λ c=>?_⟩,λ h=>?_⟩<;>simp[uO, *]<;>simp
def aoG {v:bR}:ZB 80 [.agg #[Φi v.id,.slice b c d,Φi v.vd.lo,Φi v.vd.hi,Φi v.rc.lo,Φi v.rc.hi]] a fg (λ r _=>r=aoy v):=by
 refine ΦK 0 (aj [5,9] [] []) (λ b=>C ZO 138 [ΦG [I v.vd.lo,I v.vd.hi]] a λ c d=>ΦQ d (C ZO 139 [ΦG [I v.rc.lo,I v.rc.hi]] c (λ e f=>b f e)) (b false c)) ?_;dsimp only[aQ,aR,C,ΦQ];refine⟨_,fw,λ g i r h=>⟨λ e=>⟨_,bX,λ f j q k=>?_⟩,λ e=>?_⟩⟩
 .unfold aoy;simp_all
 .unfold aoy;simp_all
def aoE (l:List bR)(v:bR)(t:Int):aox (l++[v]) t=aox l t++(if(aoy v&&uO v.rc t)=true then[aoC v]else[]):=by
 unfold aox;grind
def aoA (l:List bR)(t:Int):(aox l t).length<=l.length:=by
 unfold aox;grind
def aoF {j:List bR}(hs:Sl a b c d j)(hn:c<=1000000000):
  ZB 32 [.slice b c d,Φi e] a fi (λ A' n' c' o=>Sl o A' n' c' (aox j e)):=by
 refine ΦK 1 (aj [15,20] [(6,[2,4,6,10,12,14,16,9,19,20,23,25,26,0,1,1,1,19,9,20,23,25,26,0])] [(3,[.slot 5 false [.row 36 107],ag 10])]) (λ d=>W ZG a (λ f=>f 0 [] 0 a) λ f g h i j k=>J (k<O c) (ΦX b k c (ΦE ZH h b (N k*6) (λ l m n o p q r s=>C ZO 80 [ΦG [I l,S m n o,I p,I q,I r,I s]] h λ t u=>let v:=λ v=>ΦR (k+1)/\f i j (k+1) v/\g i j (k+1)<g i j k;ΦQ u (C ZO 81 [ΦG [I r,I s],I e] t (λ w x=>ΦQ x (let y:=C ZT 82 [S m n o] w λ y z a0 a1=>U y [I l] 1 λ a2 a3 a4=>(i+1)*64<=M/\ΦR (k+1)/\let a5:=j++[Value.slice z a0 a1,I p,I q,S a2 1 a3];f (i+1) a5 (k+1) a4/\g (i+1) a5 (k+1)<g i j k;y/\y) (v w))) (v t)))) (U h j i (λ l m n=>d l i m n))) ?_;dsimp only[PL,aQ,aR,aW,eQ,C,ΦE,M,N,ΦQ,ΦR,W,ΦX,O,J];have hl:=hs.len;refine⟨λ k P i o=>0<=i/\i<=c/\k=(aox (j.take i.toNat) e).length/\Row o P (aox (j.take i.toNat) e),λ _ _ i=>c-i.toNat,y' ⟨by simp[aox],by simp[aox,Row]⟩,?_⟩;rintro H2 l2 k P i ⟨i0,i1,rfl,L⟩;refine ΦD (λ y=>?_) λ a5=>?_
 .obtain⟨hi,hA,_,hc,A',n',c',rfl,r1,hv,r2,r3,r4,r5⟩:=hs.at l2 i0 y;have e1:(i+1).toNat=i.toNat+1:=by omega
  have e2:aox (j.take (i+1).toNat) e=aox (j.take i.toNat) e++(if(aoy j[i.toNat]&&uO j[i.toNat].rc e)=true then[aoC j[i.toNat]]else[]):=by
   rw[e1,List.take_add_one,aai hi,Option.toList_some,aoE]
  have q:=aoA (j.take i.toNat) e;rw[aaE]at q;have skip:(aoy j[i.toNat]&&uO j[i.toNat].rc e)=false->∀{o:Heap},Heap.le H2 o->ae .i64 (i+1)/\(0<=i+1/\i+1<=c/\(aox (j.take i.toNat) e).length=(aox (j.take (i+1).toNat) e).length/\Row o P (aox (j.take (i+1).toNat) e))/\c-(i+1).toNat<c-i.toNat:=by
   intro h o s;rw[e2,h];exact u' ⟨y' (N' (by simpa using L.mono s)),by omega⟩
  have z:(aoy j[i.toNat]&&uO j[i.toNat].rc e)=true->∀{o:Heap} {B:D'} {m f:Nat} {E:D'} {g:Nat},Heap.le H2 o->Sl o B m f j[i.toNat].vals->Cells o E 0 [Φi j[i.toNat].id]->1<=g->((aox (j.take i.toNat) e).length+1)*64<=140737488355328/\ae .i64 (i+1)/\(0<=i+1/\i+1<=c/\(aox (j.take i.toNat) e).length+1=(aox (j.take (i+1).toNat) e).length/\Row o (P++[.slice B m f,Φi j[i.toNat].vd.lo,Φi j[i.toNat].vd.hi,.slice E 1 g]) (aox (j.take (i+1).toNat) e))/\c-(i+1).toNat<c-i.toNat:=by
   intro h o B m f E g s hb a0 Z;rw[e2,h];refine u' ⟨by grind,y' (N' ((L.mono s).append (Row.one ⟨B,m,f,E,1,g,rfl,hb,r2,r3,?_⟩))),by omega⟩;exact(Row.one (show Rep.rel o [Φi j[i.toNat].id] j[i.toNat].id from⟨rfl,r1⟩)).sl (ah _) a0 rfl Z (by decide) (by grind)
  generalize j[i.toNat]=v at*;refine⟨hA,i0,y,_,_,_,_,_,_,_,_,hc,_,aoG (v:=v),λ a8 G b0 hb=>⟨λ V=>⟨_,aoz,λ b2 D a6 b1=>⟨λ a2=>?_,λ a2=>?_⟩⟩,λ V=>?_⟩⟩
  .have hh:(aoy v&&uO v.rc e)=true:=by simp_all
   have l:=aa G D;refine⟨⟨_,fx (hv.mono l),λ X w T a1 R u a4 Y Q p x r=>?_⟩,_,fx (hv.mono l),λ X w T a1 R u a4 Y Q p x r=>?_⟩
   .exact z hh (aa l (aa w p)) (u.mono p) x r
   .exact z hh (aa l (aa w p)) (u.mono p) x r
  .exact skip (by simp_all) (aa G D)
  grind
 .intro a7 b3 a9 a3 hc F;have q:=aoA j e;rw[aag (by omega)]at L F⊢;exact L.sl a3 hc rfl F (by show _*64<=_;omega) (by omega)
def nb {o D:D'}{k e l i:Nat}{r s:Rw}(u:Sl a b c d r.vals)(q:Sl a f g h r.lin)(w:Sl a o k e s.vals)(t:Sl a D l i s.lin):
  ZB 45 [.agg ⟨[.slice b c d,.slice f g h]⟩,.agg ⟨[.slice o k e,.slice D l i]⟩] a fg (λ j _=>j=decide (r=s)):=by
 refine ΦK 0 (aj [9,16] [] []) (λ j=>C ZP 26 [S b c d,S o k e] a λ m n=>J (n=0) (C ZP 105 [S f g h,S D l i] m (λ p q=>j (decide (q=0)) p)) (j false m)) ?_;dsimp only[aQ,aR,C,J];refine⟨_,fv u w,?_⟩;rintro y p _ rfl;have x:r=s↔bK r.vals s.vals=0/\gf cQ r.lin s.lin=0:=by
  rw[aD.iff,fQ.lex.iff];cases r;cases s;simp
 refine⟨λ v=>⟨_,vw (q.mono p) (t.mono p),?_⟩,λ v=>?_⟩
 .grind
 grind
def Xb {i:Int}:ZB 46 [.agg ⟨[.slice b c d,Φi e,Φi i,.slice f g h]⟩] a ⟨false,[(true,[.sl,.sl])]⟩ (λ l j o k q p _=>l=b/\j=c/\o=d/\k=f/\q=g/\p=h):=by
 refine ΦK 0 bE (λ e=>e b c d f g h a) ?_;simp
def ib {e j:List aO}(t:Sl a b c d e)(v:Sl a f g h j)(P:e=j):
  ZB 13 [.slice b c d,.slice f g h] a fg (λ r _=>r=true):=by
 refine ΦK 0 (aj [39] [(6,[2,4,6,8,10,12,14,16,18,20,22,24,26,28,30,32,36,38,40,42,35,45,47,48,50,0])] [(4,[ag 5])]) (λ d=>V (O c=O g) (d false a) (W ZE a (λ e=>e 0 a) (λ e h i j=>J (j<O c) (ΦX b j c (ΦE ZK i b (N j*4+1) (λ k l=>ΦX f j g (ΦE ZK i f (N j*4+1) (λ m n=>ΦQ (!(decide (k=m)&&decide (l=n))) (d false i) (ΦX b j c (ΦE ZI i b (N j*4) (λ o p q r s t u v=>ΦX f j g (ΦE ZI i f (N j*4) (λ w x y z a0 a1 a2 a3=>C ZY 46 [ΦG [S o p q,I r,I s,S t u v]] i λ a4 a5 a6 a7 a8 a9 b0=>C ZY 46 [ΦG [S w x y,I z,I a0,S a1 a2 a3]] a4 λ b1 b2 b3 b4 b5 b6 b7=>C ZO 45 [ΦG [S a5 a6 a7,S a8 a9 b0],ΦG [S b2 b3 b4,S b5 b6 b7]] b1 λ b8 b9=>ΦQ (!b9) (d false b8) (ΦR (j+1)/\e (j+1) b8/\h (j+1)<h j))))))))))) (d true i)))) ?_;dsimp only[PL,aQ,aR,aW,eQ,C,ΦE,N,ΦQ,ΦR,W,ΦX,O,V,J];subst P;have s1:=t.len;have s2:=t.bn;have s3:=v.len;refine⟨λ l=>by simp at l;omega,λ _=>⟨λ i _=>0<=i/\i<=c,λ i=>c-i.toNat,u' (by omega),?_⟩⟩;rintro H2 x i ⟨q,i1⟩;refine⟨λ o=>?_,λ _=>rfl⟩;have o:=aab o;obtain⟨hi,w,_,z,Y,n1,c1,A2,n2,c2,rfl,E,q2,q3,M⟩:=t.at x q o;obtain⟨hj,y,_,u,B1,m1,d1,B2,T,R,rfl,L,U,Q,D⟩:=v.at x q (by omega);refine⟨w,q,o,_,_,z.TH (k:=1) rfl rfl,y,q,by omega,_,_,u.TH (k:=1) rfl rfl,λ l=>by grind,λ _=>⟨w,q,o,_,_,_,_,_,_,_,_,z,y,q,by omega,_,_,_,_,_,_,_,_,u,_,Xb,?_⟩⟩;rintro X F _ _ _ _ _ _ ⟨rfl,rfl,rfl,rfl,rfl,rfl⟩;refine⟨_,Xb,?_⟩;rintro Z G _ _ _ _ _ _ ⟨rfl,rfl,rfl,rfl,rfl,rfl⟩;have p:=aa F G;refine⟨_,nb (r:=aeT _) (s:=aeT _) (E.mono p) (M.mono p) (L.mono p) (D.mono p),?_⟩;grind
end
end Go.Vc
