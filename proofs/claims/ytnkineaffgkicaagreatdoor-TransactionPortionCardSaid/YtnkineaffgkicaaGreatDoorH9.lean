/- A part of the proof. -/
import Derived.Test.YtnkineaffgkicaaGreatDoorH8
import Derived.Scope
set_option maxHeartbeats 0
set_option maxRecDepth 100000
set_option linter.unusedVariables false
set_option linter.defProp false
set_option linter.unusedSimpArgs false
namespace Go.Vc
open Go Go.RowKit
section
variable {b:Code}{c:List Item}{d:St}{e:aU}{f:fI}{g:Heap}{h:Nat}{i:Bool}
def pI:∀(b:List Nat) (a:List SV),(Fo b a).length=a.length
 |[],_=>rfl
 | d::b,a=>by simp[Fo,pI _]
def yS:∀{ds:List Nat} {fr:List SV} {j:Nat} {x:SV},(Fo ds fr)[j]?=some x->x= .one .any\/(j∉ds/\fr[j]?=some x)
 |[],fr,j,x,h=> .inr (N' h)
 | d::ds,fr,j,x,h=>by
  rcases yS (ds:=ds) (fr:=fr.set d _) h with a |⟨a,b⟩
  .grind
  grind
def yT:∀{a:List Nat} {b:List SV} {j:Nat},j∉a->(Fo a b)[j]?=b[j]?
 |[],_,_,_=>rfl
 | d::a,b,j,h=>by
  simp at h;simp[Fo];rw[yT h.2,aaK (abu h.1)]
def pJ:∀(a:List Nat) (L:List (Option ti)),(Fp a L).length=L.length
 |[],_=>rfl
 | d::a,fr=>by simp[Fp,pJ _]
def mF:∀{ds:List Nat} {L:List (Option ti)} {j:Nat} {x:Option ti},(Fp ds L)[j]?=some x->(x=none/\(j∈ds\/L[j]?=some none))\/(j∉ds/\L[j]?=some x)
 |[],L,j,x,h=> .inr (N' h)
 | d::ds,L,j,x,h=>by
  rcases mF (ds:=ds) (L:=L.set d _) h with⟨b,a⟩ |⟨b,a⟩
  .grind
  grind
def yU:∀{a:List Nat} {L:List (Option ti)} {j:Nat},j∉a->(Fp a L)[j]?=L[j]?
 |[],_,_,_=>rfl
 | d::a,fr,j,h=>by
  simp at h;simp[Fp];rw[yU h.2,aaK (abu h.1)]
def lH:∀(L:List (Option ti)),(lock L).length=L.length
 |[]=>rfl
 | none::L=>by simp[lock,lH L]
 | some (_,_)::L=>by simp[lock,lH L]
def jv:∀(L:List (Option ti)) (j:Nat),(lock L)[j]?=(L[j]?).map (Option.map λ x=>(false,x.2))
 |[],j=>by rfl
 | none::L,j=>by
  cases j with
  | zero=>rfl
  | succ j=>simpa[lock]using jv L j
 | some (_,_)::L,j=>by
  cases j with
  | zero=>rfl
  | succ j=>simpa[lock]using jv L j
def fm:∀(a:List Item) (L:List (Option ti)),(lE a L).length=L.length
 |[],_=>rfl
 | .slot _ _ _::a,L=>fm a L
 | .box i _ _::a,L=>by simp[lE,fm _]
 | .arr i _::a,L=>by simp[lE,fm _]
 | .im i _::a,L=>by simp[lE,fm _]
def kE:∀{is:List Item} {L:List (Option ti)} {j:Nat} {x:Option ti},(lE is L)[j]?=some x->x=some (false,.dead)\/(j∉bh is/\L[j]?=some x)
 |[],L,j,x,h=> .inr ⟨by simp[bh],h⟩
 | .slot _ _ _::is,L,j,x,h=>kE (is:=is) h
 | .box i _ _::is,L,j,x,h=>by
  rcases kE (is:=is) h with c |⟨c,b⟩
  .grind
  .by_cases a:i=j
   .grind
   .rw[aaK a]at b;exact .inr ⟨by simp[bh,abu a,c],b⟩
 | .arr i _::is,L,j,x,h=>by
  rcases kE (is:=is) h with c |⟨c,b⟩
  .grind
  .by_cases a:i=j
   .grind
   .rw[aaK a]at b;exact .inr ⟨by simp[bh,abu a,c],b⟩
 | .im i _::is,L,j,x,h=>by
  rcases kE (is:=is) h with c |⟨c,b⟩
  .grind
  .by_cases a:i=j
   .grind
   .rw[aaK a]at b;exact .inr ⟨by simp[bh,abu a,c],b⟩
def mG:∀{is:List Item} {L:List (Option ti)} {j:Nat},j∉bh is->(lE is L)[j]?=L[j]?
 |[],_,_,_=>rfl
 | .slot _ _ _::is,L,j,h=>mG (is:=is) h
 | .box i _ _::is,L,j,h=>by
  simp[bh]at h;simp[lE];rw[mG h.2,aaK (abu h.1)]
 | .arr i _::is,L,j,h=>by
  simp[bh]at h;simp[lE];rw[mG h.2,aaK (abu h.1)]
 | .im i _::is,L,j,h=>by
  simp[bh]at h;simp[lE];rw[mG h.2,aaK (abu h.1)]
def pK {c:St}:∀{b:List Nat},tu c b=true->∀d∈b,c.L[d]?=some none
 |[],_,d,a=>by grind
 | x::b,h,d,a=>by
  simp[tu]at h;rcases aaw.1 a with rfl | a
  .exact bw h.1
  .exact pK h.2 d a
def su {o:bL}(a:(eH f b c d g e).L[h]?=some (some (i,o))):
  o= .dead\/(i=false/\h∉bh c/\∃p,d.L[h]?=some (some (p,o))):=by
 rcases kE a with n |⟨n,m⟩
 .grind
 .rcases mF m with⟨l,_⟩ |⟨_,l⟩
  .grind
  .rcases mF l with⟨k,_⟩ |⟨_,k⟩
   .grind
   .rw[jv]at k;cases q:d.L[h]? with
    | none=>grind
    | some j=>
     simp_all
def Ge (a:(eH f b c d g e).L[h]?=some none):
  d.L[h]?=some none\/h∈gR c++my f b:=by
 rcases kE a with m |⟨m,l⟩
 .grind
 .rcases mF l with⟨_,k⟩ |⟨_,k⟩
  .rcases k with k | k
   .grind
   .rcases mF k with⟨_,j⟩ |⟨_,j⟩
    .rcases j with j | j
     .grind
     .rw[jv]at j;simp_all
    .rw[jv]at j;simp_all
  .rcases mF k with⟨_,j⟩ |⟨_,j⟩
   .rcases j with j | j
    .grind
    .rw[jv]at j;simp_all
   .rw[jv]at j;simp_all
def Mr {o:bL}(a:d.L[h]?=some (some (i,o)))(k:h∉bh c)(j:h∉gR c++my f b):
  (eH f b c d g e).L[h]?=some (some (false,o)):=by
 simp at j;simp[eH];rw[mG k,yU j.1,yU j.2,jv,a];rfl
def fZ:∀(L a:List (Option ti)) (i:Nat),(∃o,(∃c,L[i]?=some (some (true,c)))/\(∃f,a[i]?=some (some (f,o)))/\(unlock L a)[i]?=some (some (true,o)))\/
  ((unlock L a)[i]?=a[i]?/\((∀o,L[i]?≠some (some (true,o)))\/(∀x,a[i]?≠some (some x))))
 |[],a,i=> .inr ⟨rfl,.inl (by simp)⟩
 | x::L,[],i=> .inr ⟨by cases x with
   | none=>rfl
   | some x=>obtain⟨b,o⟩:=x;cases b<;>rfl,.inr (by simp)⟩
 | none::L,y::a,i=>by
  cases i with
  | zero=>exact .inr ⟨rfl,.inl (by simp)⟩
  | succ i=>simpa[unlock]using fZ L _ i
 | some (false,o)::L,y::a,i=>by
  cases i with
  | zero=>exact .inr ⟨rfl,.inl (by simp)⟩
  | succ i=>simpa[unlock]using fZ L _ i
 | some (true,o)::L,none::a,i=>by
  cases i with
  | zero=>exact .inr ⟨rfl,.inr (by simp)⟩
  | succ i=>simpa[unlock]using fZ L _ i
 | some (true,o)::L,some (f,c)::a,i=>by
  cases i with
  | zero=>exact .inl ⟨c,⟨o,rfl⟩,⟨f,rfl⟩,rfl⟩
  | succ i=>simpa[unlock]using fZ L _ i
def fP:∀(L a:List (Option ti)),(unlock L a).length=a.length
 |[],a=>rfl
 | x::L,[]=>by
  cases x with
  | none=>rfl
  | some x=>obtain⟨b,o⟩:=x;cases b<;>rfl
 | none::L,y::a=>by simp[unlock,fP L _]
 | some (false,o)::L,y::a=>by simp[unlock,fP L _]
 | some (true,o)::L,none::a=>by simp[unlock,fP L _]
 | some (true,o)::L,some (f,o')::a=>by simp[unlock,fP L _]
section
variable {P:Program}{Γ:fh}{w0:W0}{w w':World}{H0 H':Heap}{a:Act}{ρ:Nat->Nat}{σ:Nat->Value}{an:fI}
structure Pd (an:fI)(c:Code)(is:List Item)(st st2 stc st3:St):Prop where
 fl:stc.fr.length=st.fr.length
 ll:stc.L.length=st.L.length
 fr:∀j,j∉gu is->j∉writes an c->stc.fr[j]?=st.fr[j]?
 obj:∀(i:Nat) (f:Bool) (o:bL),(eH an c is st2 stc.H ux).L[i]?=some (some (f,o))->o= .dead\/(f=false/\∃f',st3.L[i]?=some (some (f',o)))
 le:Heap.le st.H stc.H
def RV {p m u:St}(S:∀k:Nat,d.L[k]?=some none->d.eN k)(r:dd d p)(z:tu d (gR c++my an b)=true)
  (s:Good P w0 H0 m a w ρ σ) (v:dd m u) (t:Pd an b c d p m u) (V:∀l:Nat,e l≠none->m.O l=e l):LI P w0 H0 a w ρ σ m u (eH an b c p m.H e) σ m:=by
 have D:=s.ab7 v;have C:∀(j:Nat) (x:SV),(eH an b c p m.H e).fr[j]?=some x->x= .one .any\/(d.fr[j]?=some x/\m.fr[j]?=some x):=by
  intro j x G;rcases yS G with K |⟨K,N⟩
  .grind
  .rcases yS N with W |⟨W,T⟩
   .grind
   .rw[r.fr]at T;exact .inr ⟨T,(t.fr j K W).trans T⟩
 have E:(eH an b c p m.H e).L.length=m.L.length:=by
  simp[eH,fm,pJ,lH];rw[r.ll,t.ll]
 have F:(eH an b c p m.H e).fr.length=m.fr.length:=by
  simp[eH,pI];rw[r.fr,t.fl]
 have n:∀(i:Nat) (f:Bool) (o:bL),(eH an b c p m.H e).L[i]?=some (some (f,o))->o≠ .dead->∃A,u.L[i]?=some (some (A,o)):=by
  intro i f o B q;rcases t.obj i f o B with h |⟨_,h⟩
  .grind
  grind
 refine⟨⟨s.defers,by rw[s.size,F],λ i x G=>?_,s.below,s.le,s.ef,s.snap,λ i f o B=>?_,λ i j f A o Z g Q B J y I=>?_,λ k M=>?_,s.sl,λ l x y=>?_⟩,dd.refl _,rfl,F,E,λ j f o g J y=>?_,V,λ _ _ _=>rfl⟩
 rotate_right
 rotate_right
 .obtain⟨Y,k2⟩:=s.opn l x ((V l (by rw[show e l=_ from y];simp)).trans y);refine⟨Y,λ i f o B=>?_⟩;by_cases q:o= .dead
  .subst q;simp[dy]
  .obtain⟨A,h⟩:=n i f o B q;exact k2 i _ o (v.back h q)
 rotate_left
 .rcases C i x G with rfl |⟨_,h⟩
  .trivial
  .exact s.fr i x h
 .by_cases q:o= .dead
  .subst q;trivial
  .obtain⟨A,h⟩:=n i f o B q;have:=D.obj i _ o h;rw[v.H]at this;exact this
 .have q:o≠ .dead:=by rintro rfl;simp[dy]at y
  have U:Z≠ .dead:=by rintro rfl;simp[dy]at I
  obtain⟨f1,K⟩:=n i f o B q;obtain⟨f2,N⟩:=n j _ _ J U;exact D.sep i j _ _ o _ g Q K N y I
 .have R:d.L[k]?=some none:=by
   rcases Ge M with h | h
   .exact r.none h
   .exact pK z k h
  have X:=S k R;refine⟨λ j x G=>?_,λ j f o J=>?_⟩
  .rcases C j x G with rfl |⟨h,_⟩
   .exact λ t=>t
   .exact X.fr j x h
  .rcases su J with rfl |⟨_,_,A,h⟩
   .exact λ t=>t
   .by_cases q:o= .dead
    .subst q;exact λ t=>t
    .exact X.obj j _ o (r.back h q)
 .have q:o≠ .dead:=by rintro rfl;simp[dy]at y
  obtain⟨A,h⟩:=n j f o J q;refine⟨j,A,o,v.back h q,y,.inl ⟨rfl,λ M=>?_⟩⟩;unfold bj at M;grind
def yV (P:Program)(w0:W0)(H0:Heap)(f:List Nat)(g:St)(K:Exit->St->Prop)(Q:Exit->Act->World->Prop):Prop:=
 ∀e d w' a b c,K e a->au f g a->Good P w0 H0 a d w' b c->Q e d w'
def yV.mono {f a:List Nat}{g:St}{K:Exit->St->Prop}{Q:Exit->Act->World->Prop}(h:yV P w0 H0 a g K Q)(m:∀x∈f,x∈a):yV P w0 H0 f g K Q:=
 λ e j w' c b d k i l=>h e j w' c b d k (i.mono m) l
def Ms {m:Bool}{K:aU->Prop}(O:aU)(h:Vi i K):∃a:aU,(∀b:Nat,a b≠none->O b=a b)/\(∀(q:HP i) (H:Heap),UL i q H O->UL i q H a)/\(∀x:MP (i&&m),Te (i&&m) x a=Te (i&&m) x O)/\K a:=by
 cases i with
 | false=>exact⟨ux,λ b c=>absurd rfl c,λ q H h=>h,λ _=>rfl,h⟩
 | true=>exact⟨O,λ _ _=>rfl,λ _ _ h=>h,λ _=>rfl,h O⟩
def mH (hm:P.follows .mixedOrders=true)(hT:cE P Γ):∀{c:Code} {K:Exit->St->Prop} {Q:Exit->Act->World->Prop} {r:St} {a:Act} {w:World} {ρ:Nat->Nat} {σ:Nat->Value},
  Good P w0 H0 r a w ρ σ->AT P Γ an c K r->yV P w0 H0 (writes an c) r K Q->c.wp P Q a w:=by
 intro c;induction c with
 | skip=>intro K Q r a w ρ σ g h k;exact wp_skip (k _ _ _ _ _ _ h ((au.refl _).mono (by simp)) g)
 | label l=>intro K Q r a w ρ σ g h k;exact wp_label (k _ _ _ _ _ _ h ((au.refl _).mono (by simp)) g)
 | exit l=>intro K Q r a w ρ σ g h k;exact wp_exit (k _ _ _ _ _ _ h ((au.refl _).mono (by simp)) g)
 | ret=>intro K Q r a w ρ σ g h k;exact wp_ret (k _ _ _ _ _ _ h ((au.refl _).mono (by simp)) g)
 | region id ops draw=>
  intro K Q r a w ρ σ g h k;have a9:wc P w0 H0 (cU ops.toList) r (λ r=>BL (K .normal) (an.pa id) r) (Q .normal):=by
   intro a' w' p D E s A C;obtain⟨B,q1,q2,q3⟩:=vY C s;exact k _ _ _ _ _ _ q1 ((A.mono (by simp[writes];grind)).trans (q2.mono (by simp[writes];grind))) q3
  cases draw with
  | false=>exact DF hT g h a9
  | true=>
   simp[AT]at h;split at h
   .rename_i hs;split at h
    .rename_i a7;exact IZ hm hT g hs a7 h a9
    grind
   grind
 | scope c ih=>
  intro K Q r a w ρ σ g h k;refine wp_scope_straight (ih g h ?_);intro e a' w' p D E s A C;cases e with
  | goto l=>grind
  | _=>exact k _ _ _ _ _ _ s A C
 | seq x y a3 a4=>
  intro K Q r a w ρ σ g h k;refine wp_seq (a3 g h ?_);intro e a' w' p D E s A C;have hk:au (writes an (.seq x y)) _ _:=A.mono (by simp[writes];grind);cases e with
  | normal=>exact a4 C s λ e d4 d2 c3 c4 c2 k1 k2 X=>k _ _ _ _ _ _ k1 (hk.trans (k2.mono (by simp[writes];grind))) X
  | _=>exact k _ _ _ _ _ _ s hk C
 | cond o x y a3 a4=>
  intro K Q r a w ρ σ g h k;have hx:∀{r:St} {a:Act} {w:World} {ρ σ},Good P _ _ _ a w ρ σ->AT P _ _ x K _->yV P _ _ (writes an (.cond o x y)) r K Q->x.wp P Q a w:=
   λ g h k=>a3 g h (k.mono (by simp[writes];grind))
  have hy:∀{r:St} {a:Act} {w:World} {ρ σ},Good P _ _ _ a w ρ σ->AT P _ _ y K _->yV P _ _ (writes an (.cond o x y)) r K Q->y.wp P Q a w:=
   λ g h k=>a4 g h (k.mono (by simp[writes];grind))
  simp[AT]at h;split at h
  .rename_i U;exact wp_cond_true (aE g U) (hx g h k)
  .rename_i U;exact wp_cond_false (aE g U) (hy g h k)
  .rename_i b U;exact wp_cond_split (t:=b) (aE g U) (λ e=>hx g (h.1 e) k) (λ e=>hy g (h.2 e) k)
  .rename_i b U;exact wp_cond_split (t:=b) (aE g U) (λ e=>hx g (h.1 e) k) (λ e=>hy g (h.2 e) k)
  grind
 | block id c ih=>
  intro K Q r a w ρ σ g h k;refine wp_block (ih g h ?_);intro e a' w' p D E s A C;cases e with
  | exit c9=>
   simp[Exit.inBlock];simp at s;split at s
   .rename_i U;simp[U];exact k _ _ _ _ _ _ s A C
   .rename_i U;simp[U];exact k _ _ _ _ _ _ s A C
  | _=>exact k _ _ _ _ _ _ s A C
 | loop c ih=>
  intro K Q d1 a w ρ σ b5 h b8;obtain⟨c7,μ,h⟩:=h;obtain⟨r,h,b7,g,_⟩:=bM b5 h;have k:yV P _ _ _ _ K Q:=λ e a' w' p D E s A C=>b8 _ _ _ _ _ _ s ((b7.mono (by simp)).trans A) C;split at h
  .rename_i I;generalize b4:an.lt _=is at*;generalize hz:Fq _ _ _=z at*;split at h
   .rename_i x B S;obtain⟨h0,V⟩:=h;have M:=eE S;have b3:=kO S;refine wp_loop_ghost (λ n a w=>∃v Z ρ σ q u,Good P _ _ v a w ρ σ/\jK _ z v=some ((q,u),Z)/\n=Te _ u v.O/\UL _ q v.H v.O/\Pd an c is _ B v Z) _ ⟨r,B,ρ,σ,x.1,x.2,g,S,rfl,h0,rfl,rfl,λ _ _ _=>rfl,?_,Heap.le_refl _⟩ ?_
    .intro i f o T;rcases su T with s |⟨s,_,A⟩
     .grind
     grind
    .rintro n a1 w1 ⟨v,Z,c5,c8,q,u,a8,G,rfl,hq,hh⟩;have a5:=eE G;obtain⟨O',c1,b9,c0,b0⟩:=Ms (m:=an.mo) v.O (V _ hh.le);have li:=RV g.nr M I a8 a5 hh c1;obtain⟨bs,d3,k1,k2,X⟩:=jt a8 a5 li b0 G;have b2:bs.H=v.H:=X.H;have W:∀j,j∉gu is->j∉writes an c->bs.fr[j]?=r.fr[j]?:=by
      intro j s A;rw[X.fr j s];simp[eH];rw[yT s,yT A,M.fr]
     have J:bs.L.length=r.L.length:=by
      rw[X.ll];simp[eH,fm,pJ,lH];exact M.ll
     have Y:bs.fr.length=r.fr.length:=by
      rw[X.fl];simp[eH,pI];rw[M.fr]
     refine ih k2 (k1 (b9 _ _ hq)) ?_;intro e a' w' p D E e1 F e3;have a0:∀(i:Nat) (o:bL),(eH _ c _ _ v.H ux).L[i]?=some (some (false,o))->i∉bh _->p.L[i]?=some (some (false,o)):=
      λ i o T hb=>F.ro i o (X.ro i o hb T)
     have a2:=Heap.le_trans hh.le (by rw[<-b2];exact F.le);have N:au (writes an (.loop c)) r {p with L:=unlock B.L p.L}/\Good P w0 H0 {p with L:=unlock B.L p.L} a' w' D E:=by
      constructor
      .refine⟨F.fl.trans Y,by simp[fP];exact F.ll.trans J,λ j hj=>?_,λ i o T=>?_,a2⟩
       .simp[writes,b4,not_or]at hj;exact(F.fr j hj.2).trans (W j hj.1 hj.2)
       .have s:=M.ro T;have A:i∉bh is:=λ hb=>by
         grind
        have C:i∉gR _++my _ c:=λ hb=>by
         have:=pK I i hb;grind
        have h4:=a0 i o (Mr s A C) A;rcases fZ B.L p.L i with⟨o',⟨o2,d0⟩,_⟩ |⟨h5,_⟩
        .grind
        grind
      .refine e3.alike (λ i f o T=> .inr ?_) (λ d hd=>?_)
       .rcases fZ B.L p.L i with⟨o',_,⟨f',c6⟩,h5⟩ |⟨h5,_⟩
        .grind
        grind
       .rcases fZ B.L p.L d with⟨o',_,_,h5⟩ |⟨h5,_⟩
        .grind
        grind
     cases e with
     | normal=>
      obtain⟨a6,e1,b6,e3,_⟩:=bM e3 e1;have F:=F.trans (b6.mono (by simp));have a0:∀(i:Nat) (o:bL),(eH _ c _ _ v.H ux).L[i]?=some (some (false,o))->i∉bh _->a6.L[i]?=some (some (false,o)):=
       λ i o T hb=>F.ro i o (X.ro i o hb T)
      have a2:=Heap.le_trans hh.le (by rw[<-b2];exact F.le);split at e1
      .rename_i x' b1 R;refine⟨Te _ _ _,by have:=e1.2;rw[show Te _ u _=Te _ u _ from c0 u]at this;exact this,a6,b1,D,E,x'.1,x'.2,e3,R,rfl,e1.1,F.fl.trans Y,F.ll.trans J,λ j s A=>(F.fr j A).trans (W j s A),?_,a2⟩;intro i f o T;rcases su T with s |⟨s,A,f',C⟩
       .grind
       .subst s;refine .inr ⟨rfl,false,(eE R).ro (a0 i o ?_ A)⟩;exact T
      grind
     | _=>exact k _ _ _ _ _ _ e1 N.1 N.2
   grind
  grind
 | _=>intro K Q r a w ρ σ g h k;exact h.elim
end
end
section
variable {b:Heap}{c f:Nat}{d g:G'}{e:TypeId}{h:Value}{i:Func}{j:cj}{k:FuncId}
section
variable {P:Program}{Γ:fh}{w0:W0}{w w':World}{H0 H':Heap}{a:Act}{ρ:Nat->Nat}{σ:Nat->Value}{an:fI}
def gX:∀{z:List aI} {R:Type} {p:bz z R} {s:List S1} {t:G'} {x r:St} {q:R},Good P w0 H0 x a w ρ σ->dx z p s x=some (q,r)->bO ρ σ s t->
  ∃f,dz P w0 w σ x r f/\∀(b:List cP) (K:G'->List cP->R->Prop),K t b q->vT z p (f++b) K
 |[],R,p,s,t,x,r,q,hg,h,hr=>by
  cases s with
  | nil=>
   obtain⟨rfl,rfl⟩:=h;cases t with
   | nil=>exact⟨[],dz.nil _ _,λ b K d=>d⟩
   | cons _ _=>exact hr.elim
  | cons _ _=>simp[dx]at h
 | l::z,R,p,s,t,x,r,q,hg,h,hr=>by
  cases s with
  | nil=>cases l<;>simp[dx]at h
  | cons c s=>
   cases t with
   | nil=>exact hr.elim
   | cons y t=>
    cases l with
    | cells=>simp[dx]at h
    | row i e=>
     simp[dx]at h;split at h
     .rename_i n D E C;have B:=gU C;obtain⟨f,j,g⟩:=gX (hg.ab7 B) h hr.2;refine⟨⟨y,e,n,D⟩::f,(pz hg C hr.1).append hg j B (dv h),λ b K d=>?_⟩;exact⟨⟨y,e,n,D⟩,f++b,rfl,rfl,g _ _ d⟩
     grind
    | int k=>
     simp[dx]at h;split at h
     .rename_i n o;have:=BX o hr.1;subst this;obtain⟨f,j,g⟩:=gX hg h hr.2;exact⟨f,j,λ b K d=>⟨n,g _ _ d⟩⟩
     grind
    | bool=>
     simp[dx]at h;split at h
     .rename_i n o;have:=S1.nA o hr.1;subst this;obtain⟨f,j,g⟩:=gX hg h hr.2;exact⟨f,j,λ b K d=>⟨n,g _ _ d⟩⟩
     grind
    | str=>
     simp[dx]at h;split at h
     .rename_i n o;have:=BY o hr.1;subst this;obtain⟨f,j,g⟩:=gX hg h hr.2;exact⟨f,j,λ b K d=>⟨n,g _ _ d⟩⟩
     grind
    | sl=>
     simp[dx]at h;split at h
     .rename_i A n m o;have:=FY o hr.1;subst this;obtain⟨f,j,g⟩:=gX hg h hr.2;exact⟨f,j,λ b K d=>⟨A,n,m,g _ _ d⟩⟩
     grind
    | mp=>
     simp[dx]at h;split at h
     .rename_i A o;have:=FZ o hr.1;subst this;obtain⟨f,j,g⟩:=gX hg h hr.2;exact⟨f,j,λ b K d=>⟨A,g _ _ d⟩⟩
     grind
    | val=>
     simp[dx]at h;split at h
     .rename_i v o;have:=BZ o hr.1;subst this;obtain⟨f,j,g⟩:=gX hg h hr.2;have u:=by
       unfold S1.ym at o;split at o
       .rename_i d;exact S1.Dq hg.sl d hr.1
       grind
      exact⟨f,j,λ b K d=>⟨y,u,g _ _ d⟩⟩
     grind
def tM:∀{s:List (Bool×List aI)} {R:Type} {p:bo s R} {k:List SV} {j:G'} {i b:St} {q:R},Good P w0 H0 i a w ρ σ->AR s p k i=some (q,b)->nH ρ σ k j->
  dd i b/\∃l,dz P w0 w σ i b l/\∀(d:List cP) (K:G'->List cP->R->Prop),K j d q->Iy s p (l++d) K
 |[],R,p,k,j,i,b,q,hg,h,hr=>by
  cases k with
  | nil=>
   obtain⟨rfl,rfl⟩:=h;cases j with
   | nil=>exact⟨dd.refl _,[],dz.nil _ _,λ d K z=>z⟩
   | cons _ _=>exact hr.elim
  | cons _ _=>simp[AR]at h
 |(g,ls)::s,R,p,k,j,i,b,q,hg,h,hr=>by
  cases k with
  | nil=>simp[AR]at h
  | cons x k=>
   cases j with
   | nil=>exact hr.elim
   | cons v j=>
    have u:=tw hg.obj hr.1;have o:∀{t:List _} {ys:List _} {n:bo _ R} {e:St},dx _ p t i=some (n,e)->AR _ n k e=some (q,b)->bO ρ σ t ys->xJ g ys=some v->
      dd i b/\∃l,dz P w0 w σ i b l/\∀(d:List _) (K:List _->List _->R->Prop),K (v::j) d q->Iy _ p (l++d) K:=by
     intro t ys n e m E A B;have y:=dv m;obtain⟨l,D,H⟩:=gX hg m A;obtain⟨r,C,F,I⟩:=tM (hg.ab7 y) E hr.2;refine⟨y.trans r,l++C,D.append hg F y r,λ d K z=>?_⟩;rw[aat];exact H _ _ ⟨v,B,I _ _ z⟩
    simp[AR]at h;split at h
    .rename_i t f;rw[f]at u;obtain⟨ys,rfl,G⟩:=u;split at h
     .rename_i n e m;exact o m h G (by rfl)
     grind
    .rename_i c f;rw[f]at u;split at h
     .rename_i n e m;exact o (ys:=[v]) m h ⟨u,trivial⟩ rfl
     grind
    grind
def DJ (n:cE P Γ){j:St}(c:Good P w0 H0 j a w ρ σ){r:ResultVar}{x:SV}(h:IG Γ j r=some x):
  ∃v,(match r with | .tmp t=>pure (a.tmps.getD t undef) | .cell b t=>do loadVar t (<-asAddr (a.tmps.getD b undef)):Sem Value).run P w= .ok v w/\x.rel ρ σ v:=by
 unfold IG at h;split at h
 .rename_i t;split at h
  .rename_i y f;simp at h;subst h;exact⟨_,rfl,tw c.obj (c.fr t y f)⟩
  grind
 .rename_i b t;split at h
  .rename_i o s;split at h
   .rename_i A B q;split at h
    .rename_i i u;split at h
     .have d:=n _ _ u;obtain⟨C,m,g,_⟩:=OR c q;have z:a.tmps.getD b _= .pointer _:=c.fr b _ s;obtain⟨p,l,_⟩:=Fy h (gT c.obj g);refine⟨_,?_,p⟩;simp[z];have e:=cX g;have:=eO d w _ 0 _ (λ k y f=>by rw[eD m];grind) (by omega) (l);simpa[asAddr]using this
     grind
    grind
   grind
  grind
def km (i:cE P Γ){j:St}(g:Good P w0 H0 j a w ρ σ):∀{d:List ResultVar} {e:List SV},mf Γ j d=some e->
  ∃c,(d.mapM λ r=>(match r with | .tmp t=>pure (a.tmps.getD t undef) | .cell b t=>do loadVar t (<-asAddr (a.tmps.getD b undef)):Sem Value)).run P w= .ok c w/\nH ρ σ e c/\c.length=d.length
 |[],e,h=>by
  simp[mf]at h;subst h;exact⟨[],by rfl,trivial,rfl⟩
 | r::d,e,h=>by
  simp[mf]at h;split at h
  .rename_i x m;split at h
   .rename_i k f;simp at h;subst h;obtain⟨v,q,l⟩:=DJ i g m;obtain⟨c,o,n,p⟩:=km i g f;refine⟨v::c,?_,⟨l,n⟩,by grind⟩;simp_all
   grind
  grind
def qQ (v:Value):(vU v).rel ρ σ v:=by
 unfold vU;split
 .exact⟨_,rfl,sk _⟩
 .exact⟨_,_,rfl,rfl⟩
 rfl
def nM (a:(vU h).refs c):False:=by
 unfold vU at a;split at a
 .exact qO a
 .exact a
 .exact a
def Gf {args:G'}{n extra:Nat}(l:ct b w):
  Good P ⟨w,λ _=>False⟩ b (Om args n extra b) {tmps:=args.toArray++Array.replicate (n-args.toArray.size) undef,defers:=[]} w (λ _=>0) (λ _=> .slice none 0 0):=by
 refine⟨rfl,by simp[Om],λ i x c=>?_,⟨rfl,rfl,rfl,aaB _,λ _ _ _=>rfl,aaB _⟩,Heap.le_refl _,λ _ _ _=>rfl,l,λ i f o h=>?_,λ i j f q o p g _ h=>?_,λ d _=>⟨λ j x c=>?_,λ j f o h=>?_⟩,λ _=>⟨_,_,_,rfl⟩,λ a x h=>by cases h⟩
 .simp[Om]at c;by_cases k:i<args.length
  .rw[abA (by grind)]at c;simp[k]at c;subst c;have:(args.toArray++Array.replicate (n-args.toArray.size) undef).getD i undef=args[i]:=by
    simp[abM,k]
   rw[this];exact qQ _
  .rw[abk (by grind)]at c;simp[abn]at c;obtain⟨m,rfl⟩:=c;have:(args.toArray++Array.replicate (n-args.toArray.size) undef).getD i undef=undef:=by
    simp[abM,k,m]
   rw[this];rfl
 .simp[Om,abn]at h
 .simp[Om,abn]
 .rcases aam.1 (aaJ c)with h | h
  .obtain⟨v,_,rfl⟩:=aaO.1 h;exact λ e=>nM e
  .rw[(adD.1 h).2];exact λ e=>e
 .simp[Om,abn]at h
def qR (G:cE P Γ){C:St}(B:Good P w0 b C a w ρ σ){e:bo j.parts (Heap->Prop)}(h:KM Γ i.results.toList j e C):
  a.defers=[]/\∃v,(results i a.tmps).run P w= .ok v w/\∃H' p,Fits j e v H' p/\(ns w0.w w w0.g/\Heap.le b H'/\(∀c,¬w0.nw c->∀o,H' c o=b c o)/\ct H' w)/\(∀r∈p,jX P w0 w H' r)/\bg p:=by
 refine⟨B.defers,?_⟩;unfold KM at h;split at h
 .rename_i l;split at h
  .grind
  .obtain⟨x,z,L,f,_⟩:=bM B h;split at z
   .grind
   .rename_i K y;split at z
    .rename_i q F k;obtain⟨d,s,n,m⟩:=km G f y;obtain⟨J,p,u,E⟩:=tM f k n;have t:(results i a.tmps).run P w= .ok (if h:d.toArray.size=1 then d.toArray[0]else .tuple d.toArray) w:=by
      unfold results;rw[acN];simp only[Sem.run_bind,Sem.run_map];refine(aak (λ r:Result _=>((r.andThen _).andThen _)) (s)).trans ?_;rfl
     refine⟨_,t,x.H,p,?_,⟨f.below,f.le,f.ef,f.snap⟩,λ r I=>(u.each r I).1,u.apart⟩
     .have:=E _ (λ D A q=>A=[]/\(if j.kz then(if h:d.toArray.size=1 then d.toArray[0]else .tuple d.toArray)= .tuple ⟨D⟩else D=[if h:d.toArray.size=1 then d.toArray[0]else .tuple d.toArray])/\q _) ⟨rfl,?_,z⟩
      .rw[aar]at this;exact this
      .rw[l,<-m];by_cases u:d.length=1
       .match d,u with
        |[v],_=>rfl
       grind
    grind
 grind
def uJ (V:P.follows .mixedOrders=true)(B:cE P Γ){fn:Func}(L:P.funcs[k]?=some fn)(s:(fn.name== "runtime.NumGoroutine")=false){extra:Nat}{m:bo j.parts (Heap->Prop)}
  (h:TG P Γ an fn d extra b j m):af P k d b j m:=by
 unfold TG at h;split at h
 .grind
 .rename_i c p;refine⟨⟨fn,L,T' s⟩,λ w T=>calls_of_wp L p ?_⟩;refine mH V B (Gf T) h ?_;intro e O w' R N U q _ K;have u:∀{v:Value} {H':Heap} {n:List _},(results fn O.tmps).run P w'= .ok v w'->Fits _ m v H' n/\(ns w w' (λ _=>False)/\Heap.le b H'/\(∀i,¬(W0.mk w (λ _=>False)).nw i->∀o,H' i o=b i o)/\ct H' w')/\(∀r∈n,jX P ⟨w,λ _=>False⟩ w' H' r)/\bg n->
    ∃J H' n,Ending.returned v= .returned J/\Fits _ m J H' n/\KF w w' b H'/\(∀r∈n,Dd P w w' H' r)/\bg n:=by
   rintro v H' n _ ⟨y,⟨p,I,x,A⟩,S,C⟩;refine⟨v,H',n,rfl,y,⟨⟨p.os,p.tape,p.output,p.size,λ a q=>p.block a q (by simp)⟩,I,λ i p=>x i (λ h=>by rcases h with h | h;exact absurd p (Nat.not_lt.2 h);grind),A,p.drawn⟩,λ r z=>?_,C⟩;obtain⟨D,W,Q⟩:=S r z;refine⟨⟨D.row.1,?_⟩,W,Q⟩;rcases D.row.2 with h |⟨g,E,F,M,_,h⟩
   .grind
   .refine .inr ⟨g,E,F,M,?_,h⟩;rcases D.nw g (by rw[M];rfl)with h' | h'
    .grind
    grind
  cases e with
  | normal=>
   obtain⟨y,v,t,H',n,G⟩:=qR B K q;exact⟨y,v,t,u t G⟩
  | ret=>
   obtain⟨y,v,t,H',n,G⟩:=qR B K q;exact⟨y,v,t,u t G⟩
  | exit id=>exact q.elim
  | goto l=>exact q.elim
  | panic X=>exact q.elim
  | outgrown=>exact q.elim
def Mt {n extra:Nat}(Q:ct b w)(T:c<d.length)(F:w.ownsRow 0 e (P.cellsOf e) h f g)(C:∀x∈g,x.oneCell'=true)
  (O:∀l,h.ownBlock=some l->∀o,b l o=none):
  Good P ⟨w,λ q=>h.ownBlock=some q⟩ b (Ft d c n extra e f g b) {tmps:=(d.set c h).toArray++Array.replicate (n-(d.set c h).toArray.size) undef,defers:=[]} w (λ _=>0) (λ i=>if i=n+extra then h else .slice none 0 0):=by
 have E:∀{i a o},(Ft d c n extra e f g b).L[i]?=some (some (a,o))->i=n+extra/\a=true/\o= .row e f g:=by
  intro i a o r;simp[Ft]at r;grind
 have S:∀{p:Nat},(Ft d c n extra e f g b).L[p]?=some none->p≠n+extra:=by
  rintro p r rfl;simp only[Ft]at r;grind
 have K:∃A n t,h= .slice A n t:=by
  rcases F.2 with⟨R,_⟩ |⟨l,M,N,R,_⟩
  .grind
  grind
 refine⟨rfl,by simp[Ft],λ i x u=>?_,⟨rfl,rfl,rfl,aaB _,λ _ _ _=>rfl,aaB _⟩,Heap.le_refl _,λ _ _ _=>rfl,Q,λ i a o r=>?_,λ i j a V o W l J r U=>?_,λ p G=>⟨λ j x u=>?_,λ j a o r=>?_⟩,λ i=>?_,λ q x r=>by cases r⟩
 .simp[Ft]at u;by_cases D:i<d.length
  .rw[abA (by grind)]at u;have B:((d.set c h).toArray++Array.replicate (n-(d.set c h).toArray.size) undef).getD i undef=(d.set c h)[i]'(by grind):=by
    simp[abM,D]
   rw[B];by_cases y:c=i
   .subst y;rw[adL (by grind)]at u;simp at u;subst u;simp;show h=_;simp
   .rw[aaK y]at u;simp[D]at u;subst u;rw[List.getElem_set_ne y];exact qQ _
  .rw[abk (by grind)]at u;simp[abn]at u;obtain⟨C,rfl⟩:=u;have:((d.set c h).toArray++Array.replicate (n-(d.set c h).toArray.size) undef).getD i undef=undef:=by
    simp[abM,D,C]
   rw[this];rfl
 .obtain⟨rfl,rfl,rfl⟩:=E r;simp[dj];exact⟨⟨F,λ l I=> .inr I⟩,C,O⟩
 .grind
 .rcases aam.1 (aaJ u)with r | r
  .rcases acP r with r | rfl
   .obtain⟨v,_,rfl⟩:=aaO.1 r;exact λ z=>nM z
   .intro z;exact S G (Eq.symm z)
  .rw[(adD.1 r).2];exact λ z=>z
 .obtain⟨_,_,rfl⟩:=E r;exact λ z=>z
 grind
def Ja (hm:P.follows .mixedOrders=true)(O:cE P Γ)(Y:P.funcs[k]?=some i)(y:(i.name== "runtime.NumGoroutine")=false){extra:Nat}{t:bo j.parts (Heap->Prop)}
  (hk:c<d.length) (h:OK P Γ an i d c e f g extra b j t):dJ P k d c e f g false b j (λ _=>t):=by
 unfold OK at h;split at h
 .grind
 .rename_i q M;refine⟨⟨i,Y,T' y⟩,λ w B s hs hB W=>calls_of_wp Y M ?_⟩;obtain⟨Z,D,J⟩:=W;have z:w.ownsRow 0 e (P.cellsOf e) s f g:=iZ Z;refine mH hm O (Mt (n:=i.ntmps) (extra:=extra) hs hk z D J) h ?_;intro e' a' w' a1 a0 a2 u _ F;have C:∀{v:Value} {H':Heap} {x:List _},Fits _ t v H' x/\(ns w w' (λ p=>s.ownBlock=some p)/\Heap.le b H'/\(∀p,¬(W0.mk w (λ p=>s.ownBlock=some p)).nw p->∀o,H' p o=b p o)/\ct H' w')/\(∀r∈x,jX P ⟨w,λ p=>s.ownBlock=some p⟩ w' H' r)/\bg x->
    ∃X H' x ys,Ending.returned v= .returned X/\Fits _ t X H' x/\bV w w' b H' s.ownBlock/\(false=true->fH P w' B H' ⟨s,e,f,ys⟩)/\
     (∀r∈x,fH P w' B H' r/\∀a,r.s.ownBlock=some a->w.heap.size<=a\/(false=false/\s.ownBlock=some a))/\bg x:=by
   rintro v H' x ⟨A,⟨M,U,E,N⟩,L,Q⟩;refine⟨v,H',x,[],rfl,A,⟨M.opt,U,λ p V a3=>E p (λ h=>by rcases h with h | h;exact absurd V (Nat.not_lt.2 h);grind),N⟩,by simp,λ r I=>?_,Q⟩;obtain⟨A,q2,q3⟩:=L r I;refine⟨⟨⟨A.row.1,?_⟩,q2,q3⟩,λ a F=>?_⟩
   .rcases A.row.2 with h |⟨a,R,S,hv,_,h⟩
    .grind
    .refine .inr ⟨a,R,S,hv,?_,h⟩;rcases A.nw a (by rw[hv];rfl)with G | G
     .grind
     .exact(Z.lt a G).1
   .rcases A.nw a F with G | G
    .grind
    grind
  cases e' with
  | normal=>
   obtain⟨D,v,K,H',x,T⟩:=qR O F u;exact⟨D,v,K,C T⟩
  | ret=>
   obtain⟨D,v,K,H',x,T⟩:=qR O F u;exact⟨D,v,K,C T⟩
  | exit id=>exact u.elim
  | goto l=>exact u.elim
  | panic ch=>exact u.elim
  | outgrown=>exact u.elim
def Mu {n extra:Nat}(Q:ct b w)(T:c<d.length)(F:w.ownsRow 0 e (P.cellsOf e) h f g)(C:∀x∈g,x.oneCell'=true)
  (O:∀l,h.ownBlock=some l->∀o,b l o=none):
  Good P ⟨w,λ q=>h.ownBlock=some q⟩ b (Fu d c n extra h e f g b) {tmps:=(d.set c h).toArray++Array.replicate (n-(d.set c h).toArray.size) undef,defers:=[]} w (λ _=>0) (λ i=>if i=n+extra then h else .slice none 0 0):=by
 have E:∀{i a o},(Fu d c n extra h e f g b).L[i]?=some (some (a,o))->i=n+extra/\a=true/\o= .row e f g:=by
  intro i a o r;simp[Fu]at r;grind
 have S:∀{p:Nat},(Fu d c n extra h e f g b).L[p]?=some none->p≠n+extra:=by
  rintro p r rfl;simp only[Fu]at r;grind
 have K:∃A n t,h= .slice A n t:=by
  rcases F.2 with⟨R,_⟩ |⟨l,M,N,R,_⟩
  .grind
  grind
 refine⟨rfl,by simp[Fu],λ i x u=>?_,⟨rfl,rfl,rfl,aaB _,λ _ _ _=>rfl,aaB _⟩,Heap.le_refl _,λ _ _ _=>rfl,Q,λ i a o r=>?_,λ i j a V o W l J r U=>?_,λ p G=>⟨λ j x u=>?_,λ j a o r=>?_⟩,λ i=>?_,λ q x r=>by cases r⟩
 .simp[Fu]at u;by_cases D:i<d.length
  .rw[abA (by grind)]at u;have B:((d.set c h).toArray++Array.replicate (n-(d.set c h).toArray.size) undef).getD i undef=(d.set c h)[i]'(by grind):=by
    simp[abM,D]
   rw[B];by_cases y:c=i
   .subst y;rw[adL (by grind)]at u;simp at u;subst u;simp;exact N' rfl
   .rw[aaK y]at u;simp[D]at u;subst u;rw[List.getElem_set_ne y];exact qQ _
  .rw[abk (by grind)]at u;simp[abn]at u;obtain⟨C,rfl⟩:=u;have:((d.set c h).toArray++Array.replicate (n-(d.set c h).toArray.size) undef).getD i undef=undef:=by
    simp[abM,D,C]
   rw[this];rfl
 .obtain⟨rfl,rfl,rfl⟩:=E r;simp[dj];exact⟨⟨F,λ l I=> .inr I⟩,C,O⟩
 .grind
 .rcases aam.1 (aaJ u)with r | r
  .rcases acP r with r | rfl
   .obtain⟨v,_,rfl⟩:=aaO.1 r;exact λ z=>nM z
   .intro z;exact S G (Eq.symm z)
  .rw[(adD.1 r).2];exact λ z=>z
 .obtain⟨_,_,rfl⟩:=E r;exact λ z=>z
 grind
def yW (hm:P.follows .mixedOrders=true)(hT:cE P Γ)(Z:P.funcs[k]?=some i)(A:(i.name== "runtime.NumGoroutine")=false){extra:Nat}{q:G'->Heap->Prop}
  (hk:c<d.length) (h:OL P Γ an i d c e f g extra b q):dJ P k d c e f g true b ⟨true,[]⟩ q:=by
 unfold OL at h;split at h
 .grind
 .rename_i p hb;refine⟨⟨i,Z,T' A⟩,λ w B s hs hB W=>calls_of_wp Z hb ?_⟩;obtain⟨hr,h1,I⟩:=W;have D:w.ownsRow 0 e (P.cellsOf e) s f g:=iZ hr;refine mH hm hT (Mu (n:=i.ntmps) (extra:=extra) hs hk D h1 I) (h s) ?_;intro e' Y w' C a0 a1 t _ z;have J:Fv i.results.toList c (i.ntmps+extra) s e f q C->i.results=#[]/\∃H' x,q x H'/\bV w w' b H' s.ownBlock/\fH P w' B H' ⟨s,e,f,x⟩:=by
   intro u;unfold Fv at u;split at u
   .grind
   .rename_i K;refine⟨acO K,?_⟩;split at u
    .rename_i i' s' G;split at u
     .rename_i hi;subst hi;split at u
      .rename_i e2 n2 x hL;split at u
       .rename_i he;subst he;obtain⟨U,Q,O⟩:=u;subst U Q;obtain⟨p1,p2⟩:=z.fr _ _ G;obtain⟨fl,S⟩:=cC hL;obtain⟨L,q2,q3⟩:=z.obj _ _ _ S;rw[<-p1,p2]at L;refine⟨C.H,x,O,⟨z.below.opt,z.le,λ j V a2=>z.ef j (λ h=>by rcases h with h | h;exact absurd V (Nat.not_lt.2 h);grind),z.snap⟩,⟨L.row.1,?_⟩,q2,λ a a3 o=>q3 a (by grind) o⟩;rcases L.row.2 with h |⟨a,M,N,hv,_,h⟩
        .grind
        .refine .inr ⟨a,M,N,hv,?_,h⟩;exact(hr.lt a (by rw[hv];rfl)).1
       grind
      grind
     grind
    grind
  have y:Fv i.results.toList c (i.ntmps+extra) s e f q C->Y.defers=[]/\∃v,(results i Y.tmps).run P w'= .ok v w'/\∃X H' R x,Ending.returned v= .returned X/\Fits ⟨true,[]⟩ (q x) X H' R/\bV w w' b H' s.ownBlock/\(true=true->fH P w' B H' ⟨s,e,f,x⟩)/\
    (∀r∈R,fH P w' B H' r/\∀a,r.s.ownBlock=some a->w.heap.size<=a\/(true=false/\s.ownBlock=some a))/\bg R:=by
   intro u;obtain⟨E,H',x,O,T,F⟩:=J u;refine⟨z.defers,.tuple _,by simp[results,E],.tuple _,H',[],x,rfl,⟨rfl,rfl,O⟩,T,λ _=>F,N' List.Pairwise.nil⟩
  cases e' with
  | normal=>exact y t
  | ret=>exact y t
  | exit id=>exact t.elim
  | goto l=>exact t.elim
  | panic ch=>exact t.elim
  | outgrown=>exact t.elim
end
end
def Gg:Value->Value->Bool
 | .bool a,.bool b=>a==b
 | .int k x,.int k' y=>decide (k=k')&&decide (x=y)
 | .string a,.string b=>decide (a=b)
 | .slice none n c,.slice none m d=>n==m&&c==d
 | .pointer none,.pointer none=>true
 | .nilFunc,.nilFunc=>true
 | .map none,.map none=>true
 | .nilIface,.nilIface=>true
 | _,_=>false
def Pe {a b:Value}(h:Gg a b=true):a=b:=by
 unfold Gg at h;grind
def mj:G'->G'->Bool
 |[],[]=>true
 | a::as_,b::bs=>Gg a b&&mj as_ bs
 | _,_=>false
def Ca:∀{c d:G'},mj c d=true->c=d
 |[],[],_=>rfl
 | a::c,b::d,h=>by
  simp[mj]at h;rw[Pe h.1,Ca h.2]
 |[],_::_,h=>by simp[mj]at h
 | _::_,[],h=>by simp[mj]at h
def Mv {a b:Value}(h:Gg a b=true):b.oneCell'=true:=by
 unfold Gg at h;split at h<;>first | rfl | grind
def yX:∀{c d:G'},mj c d=true->∀z∈d,z.oneCell'=true
 |[],[],_=>by simp
 | a::c,b::d,h=>by
  simp[mj]at h;intro z e;rcases aaw.1 e with rfl | e
  .exact Mv h.1
  .exact yX h.2 z e
 |[],_::_,h=>by simp[mj]at h
 | _::_,[],h=>by simp
def yY (P:Program)(t:TypeId)(b:Ty):Bool:=
 match b with
 | .int k=>match P.underlying t with
  | some (.int k')=>decide (k=k')
  | _=>false
 | .bool=>match P.underlying t with
  | some .bool=>true
  | _=>false
 | .string=>match P.underlying t with
  | some .string=>true
  | _=>false
 | .slice e=>match P.underlying t with
  | some (.slice e')=>decide (e=e')
  | _=>false
 | .struct a=>match P.underlying t with
  | some (.struct F)=>decide (F.toList.map (λ f=>(f.offset,f.type))=a)&&F.toList.all λ f=>(P.info? f.type).isSome
  | _=>false
 | .array n e=>match P.underlying t with
  | some (.array n' e')=>decide (n=n')&&decide (e=e')
  | _=>false
 | .map k e=>match P.underlying t with
  | some (.map k' e')=>decide (k=k')&&decide (e=e')
  | _=>false
 | .ptr e=>match P.underlying t with
  | some (.pointer e')=>decide (e=e')
  | _=>false
 | .func=>match P.underlying t with
  | some (.func _ _ _)=>true
  | _=>false
 | .other=>match P.underlying t with
  | some (.struct _)=>false
  | some (.array _ _)=>false
  | some _=>true
  | none=>false
def Pf:Ty->Bool
 | .struct _=>true
 | .array _ _=>true
 | _=>false
def DK (P:Program)(q:EK)(t:TypeId):Bool:=
 match q with
 | .int=>match P.underlying t with
  | some (.int _)=>true
  | _=>false
 | .bool=>match P.underlying t with
  | some .bool=>true
  | _=>false
 | .str=>match P.underlying t with
  | some .string=>true
  | _=>false
def Jb {P:Program}{q:EK}{t:TypeId}(h:DK P q t=true):Mb P q t:=by
 cases q<;>simp[DK]at h<;>split at h<;>simp_all[Mb]
def gB (P:Program):Nat->List Field->List EK->Bool
 | _,[],[]=>true
 | k,f::fs,q::qs=>decide (f.offset=k)&&decide (f.name≠ "_")&&DK P q f.type&&gB P (k+1) fs qs
 | _,_,_=>false
def pL {P:Program}:∀{k:Nat} {b:List Field} {a:List EK},gB P k b a=true->b.length=a.length/\
  ∀(j:Nat) (f:Field) (q:EK),b[j]?=some f->a[j]?=some q->f.offset=k+j/\f.name≠ "_"/\Mb P q f.type
 | k,[],[],_=>⟨rfl,by simp⟩
 | k,f::b,q::a,h=>by
  simp[gB]at h;obtain⟨⟨⟨o,e⟩,l⟩,i⟩:=h;obtain⟨m,n⟩:=pL i;refine T' λ j g r d c=>?_;cases j with
  | zero=>
   simp at d c;subst d;subst c;exact T' ⟨e,Jb l⟩
  | succ j=>
   grind
 | _,[],_::_,h=>by simp[gB]at h
 | _,_::_,[],h=>by simp[gB]at h
def KV (P:Program)(t:TypeId)(a:List EK):Bool:=
 match a with
 |[]=>true
 | _=>match P.underlying t with
  | some (.struct F)=> !P.eqGuardType P.depth t&& !P.stoodInHeld t&&gB P 0 F.toList a
  | _=>false
def Cb (P:Program)(t:TypeId)(i:tj):Bool:=
 match P.info? t with
 | some a=>decide (a.size=i.size)&&decide (a.bytes=i.bytes)&&match a.zero with
  | some z=>mj z.cells.toList i.zero&&(match z with
   | .agg _=>i.agg
   | _=> !i.agg)
  | none=>false
 | none=>false
def DL (P:Program)(t:TypeId)(i:tj):Bool:=
 yY P t i.ty&&decide (i.agg=Pf i.ty)&&Cb P t i&&decide (i.zero.length=i.size)&&KV P t i.eqk
def Jc {P:Program}{t:TypeId}{i:tj}(h:DL P t i=true):yA P t i:=by
 simp[DL,aah]at h;obtain⟨⟨⟨⟨b,k⟩,y⟩,o⟩,g⟩:=h;have x:∀d,P.underlying t=some d->∀w,(isAgg t).run P w= .ok (match d with | .struct _=>true | .array _ _=>true | _=>false) w:=by
  intro d j w;simp[isAgg,aL j];cases d<;>rfl
 have e:∃a z,P.info? t=some a/\a.size=i.size/\a.bytes=i.bytes/\a.zero=some z/\mj z.cells.toList i.zero=true/\(i.agg=true↔∃p,z= .agg p):=by
  unfold Cb at y;grind
 obtain⟨a,z,A,n,u,v,m,G⟩:=e;refine⟨?_,?_,⟨a,z,A,n,u,v,acO (Ca m)⟩,o,λ l D C I=>?_,yX m,?_,?_⟩
 .unfold yY at b;split at b<;>rename_i c<;>rw[c]<;>simp only
  .grind
  .grind
  .grind
  .grind
  .split at b
   .rename_i F r;simp only[aah,aad,aaG]at b;exact⟨F,r,b.1,λ f s=>Option.isSome_iff_exists.1 (b.2 f s)⟩
   grind
  .grind
  .grind
  .grind
  grind
 .rw[k];unfold yY at b;split at b<;>rename_i c<;>rw[c]<;>simp[Pf]<;>split at b<;>first |(simp at b;done) | skip
  all_goals first
   |(rename_i j;exact x _ j w)
   | grind
 .grind
 .rw[k];cases i.ty<;>simp[Pf]
 .unfold KV at g;split at g
  .grind
  .split at g
   .simp at g;obtain⟨⟨E,J⟩,q⟩:=g;obtain⟨B,H⟩:=pL q;grind
   grind
def tN (P:Program)(a:fh):List Nat->Bool
 |[]=>true
 | t::ts=>(match a t with
  | some i=>DL P t i
  | none=>true)&&tN P a ts
def wi {P:Program}{c:fh}:∀{b:List Nat},tN P c b=true->∀t∈b,∀i,c t=some i->yA P t i
 |[],_,t,a=>by grind
 | x::b,h,t,a=>by
  simp[tN]at h;intro i d;rcases aaw.1 a with rfl | a
  .have:=h.1;rw[d]at this;exact Jc this
  .exact wi h.2 t a i d
section
variable {b:Nat}{c:Heap}{d:TypeId}{e:aU}{f:G'}{g:Func}
section
variable {P:Program}{Γ:fh}{w0:W0}{w w':World}{H0 H':Heap}{a:Act}{ρ:Nat->Nat}{σ:Nat->Value}{an:fI}
def uK:∀{cs:List BC} {ys:G'},tn cs ys->∀k:Nat,(Fw cs)[k]?=((dN cs ys)[k]?).map λ r=>some (true,bL.row r.e r.n r.xs)
 |[],[],_,k=>by rfl
 | .v x::cs,y::ys,h,k=>uK h.2 k
 | .row e n xs::cs,y::ys,h,0=>rfl
 | .row e n xs::cs,y::ys,h,k+1=>by
  have:=uK (cs:=cs) (ys:=ys) h k;simpa[Fw,dN]using this
 |[],_::_,h,_=>h.elim
 | .v _::_,[],h,_=>h.elim
 | .row _ _ _::_,[],h,_=>h.elim
def sw:∀{b:List BC} {a:G'} {m:Nat},tn b a->(∀(k:Nat) (r:cP),(dN b a)[k]?=some r->σ (m+k)=r.s)->bO ρ σ (po b m) a
 |[],[],_,_,_=>trivial
 | .v x::b,y::a,m,h,hs=>⟨h.1.1,sw h.2 hs⟩
 | .row e n xs::b,y::a,m,h,hs=>⟨(hs 0 _ rfl).symm,sw h λ k r c=>by
  have:=hs (k+1) r (by simpa[dN]using c)
  grind⟩
 |[],_::_,_,h,_=>h.elim
 | .v _::_,[],_,h,_=>h.elim
 | .row _ _ _::_,[],_,h,_=>h.elim
def pM:∀{b:List BC} {m d:Nat},dI d (po b m)->m<=d
 |[],m,d,⟨c,a,_⟩=>by simp[po]at a
 | .v x::b,m,d,⟨c,a,hr⟩=>by
  rcases aaw.1 a with rfl | a
  .exact hr.elim
  .exact pM ⟨c,a,hr⟩
 | .row e n xs::b,m,d,⟨c,a,hr⟩=>by
  rcases aaw.1 a with rfl | a
  .have:m=d:=hr;omega
  .have:=pM (m:=m+1) (d:=d) ⟨c,a,hr⟩;omega
def Cc {c:List BC}{p j:Nat}:∀{args:List BA},oI c args->BA.lx p j∈args->∃e n d,c[p]?=some (.row e n d)/\0<n
 | a::as_,h,b=>by
  rcases aaw.1 b with rfl | b
  .have h:=h.1;grind
  .refine Cc (args:=as_) ?_ b;cases a with
   | lx _ _=>exact h.2
   | v _=>exact h
   | me=>exact h
def pN:∀{cs:List BC} {ys:G'} {p:Nat} {e:TypeId} {n:Nat} {a:G'},tn cs ys->cs[p]?=some (.row e n a)->∃y,ys[p]?=some y/\(dN cs ys)[BO cs p]?=some ⟨y,e,n,a⟩
 |[],_,_,_,_,_,_,h=>by grind
 | .v x::cs,y::ys,0,_,_,_,_,h=>by grind
 | .v x::cs,y::ys,p+1,e,n,a,hl,h=>by
  obtain⟨z,c,b⟩:=pN (cs:=cs) (ys:=ys) (p:=p) hl.2 (by simpa using h);exact⟨z,T' b⟩
 | .row _ _ _::cs,y::ys,0,e,n,a,hl,h=>by
  obtain⟨rfl,rfl,rfl⟩:=h;exact⟨y,rfl,rfl⟩
 | .row _ _ _::cs,y::ys,p+1,e,n,a,hl,h=>by
  obtain⟨z,c,b⟩:=pN (cs:=cs) (ys:=ys) (p:=p) hl (by simpa using h);exact⟨z,T' (by simpa[dN,BO]using b)⟩
 | .v _::_,[],_,_,_,_,h,_=>h.elim
 | .row _ _ _::_,[],_,_,_,_,h,_=>h.elim
def RW (N:Nat)(a:List cP)(i:Nat):Value:=if N+1<=i then match a[i-(N+1)]? with
 | some r=>r.s
 | none=> .slice none 0 0 else .slice none 0 0
def Pg {args:List BA}{n extra:Nat}{A:List BC}(hs:ct c w)(V:tn A f)(he:oI A args)(G:Iz P w c b d f (dN A f) e):
  Good P ⟨w,Names (some b) (dN A f) e⟩ c (OM args n extra b d A c e) {tmps:=(args.map (BA.val b f)).toArray++Array.replicate (n-(args.map (BA.val b f)).toArray.size) undef,defers:=[]} w (λ _=>b) (RW (n+extra) (dN A f)):=by
 obtain⟨N,Y⟩:∃N,N=n+extra:=⟨_,rfl⟩;have W:∀i,i<N->(OM args n extra b d A c e).L[i]?=some none:=by
  simp[OM];grind
 have a0:(OM args n extra b d A c e).L[N]?=some (some (true,.box d (po A (N+1)))):=by
  simp[OM];grind
 have Q:∀k,(OM args n extra b d A c e).L[N+1+k]?=((dN A f)[k]?).map λ r=>some (true,bL.row r.e r.n r.xs):=by
  intro k;simp[OM,<-Y];rw[abk (by grind),List.length_replicate,show N+1+k-N=k+1 by omega];exact uK V k
 have K:∀{i:Nat} {a:Bool} {o:bL},(OM args n extra b d A c e).L[i]?=some (some (a,o))->(i=N/\o= .box d (po A (N+1)))\/∃k r,i=N+1+k/\(dN A f)[k]?=some r/\o= .row r.e r.n r.xs:=by
  intro i a o h;rcases abV i N with E | E | E
  .grind
  .grind
  .obtain⟨k,rfl⟩:∃k,i=N+1+k:=⟨i-(N+1),by omega⟩;grind
 have z:∀(k:Nat) (r:cP),(dN A f)[k]?=some r->RW N (dN A f) (N+1+k)=r.s:=by
  unfold RW;grind
 rw[<-Y];refine⟨rfl,by simp[OM],λ i x I=>?_,⟨rfl,rfl,rfl,aaB _,λ _ _ _=>rfl,aaB _⟩,Heap.le_refl _,λ _ _ _=>rfl,hs,λ i a o h=>?_,λ i j a f' o o' g a1 h h' F C=>?_,λ l hd=>?_,λ i=>?_,λ q x T=>?_⟩
 .simp[OM]at I;by_cases E:i<args.length
  .rw[abA (by grind)]at I;simp[E]at I;subst I;have:((args.map (BA.val b f)).toArray++Array.replicate (n-(args.map (BA.val b f)).toArray.size) undef).getD i undef=args[i].val b f:=by
    simp[abM,E]
   rw[this];cases X:args[i]with
   | v x=>exact qQ _
   | me=>exact⟨rfl,rfl⟩
   | lx p j=>
    obtain⟨u,m,xs,hc,Z⟩:=Cc he (X▸aan _);obtain⟨y,hy,D⟩:=pN V hc;obtain⟨R,_,_⟩:=G.rows _ (aaJ D);have U:=z _ _ D;rcases R.2 with⟨_,h0⟩ |⟨g,a2,a3,hv,_⟩
    .grind
    .simp at hv U;subst hv;refine⟨g,_,_,by rw[<-Y];omega,?_⟩;simp[BA.val,hy]
  .rw[abk (by grind)]at I;simp[abn]at I;obtain⟨S,rfl⟩:=I;have:((args.map (BA.val b f)).toArray++Array.replicate (n-(args.map (BA.val b f)).toArray.size) undef).getD i undef=undef:=by
    simp[abM,E,S]
   rw[this];rfl
 .rcases K h with⟨rfl,rfl⟩ |⟨k,r,rfl,D,rfl⟩
  .exact⟨⟨f⟩,G.box,sw V λ k r hk=>z k r hk,.inr (.inl rfl),G.hid⟩
  .have Z:=aaJ D;obtain⟨R,q2,q3⟩:=G.rows r Z;simp[dj];rw[z k r D];exact⟨⟨R,λ g hg=> .inr (.inr (.inl ⟨r,Z,hg⟩))⟩,q2,q3⟩
 .rcases K h with⟨rfl,rfl⟩ |⟨k,r,rfl,D,rfl⟩
  .simp[dy]at F;subst F;rcases K h' with⟨u,_⟩ |⟨k',r',rfl,J,rfl⟩
   .grind
   .simp[dy]at C;rw[z _ _ J]at C;exact G.ne _ (aaJ J) C
  .simp[dy]at F;rw[z k r D]at F;rcases K h' with⟨rfl,rfl⟩ |⟨k',r',rfl,J,rfl⟩
   .simp[dy]at C;subst C;exact G.ne r (aaJ D) F
   .simp[dy]at C;have hp:=aaX.1 G.apart;grind
 .have a4:l<N:=by
   rcases abV l N with E | E | E
   .grind
   .grind
   .obtain⟨k,rfl⟩:∃k,l=N+1+k:=⟨l-(N+1),by omega⟩;grind
  refine⟨λ j x I=>?_,λ j a o hj=>?_⟩
  .rcases aam.1 (aaJ I)with h | h
   .obtain⟨q,_,rfl⟩:=aaO.1 h;cases q with
    | v x=>exact λ B=>nM B
    | me=>
     intro B;have B:n+extra=l:=B;omega
    | lx p j=>
     intro B;have B:n+extra+1+BO _ p=l:=B;omega
   .rw[(adD.1 h).2];exact λ B=>B
  .rcases K hj with⟨rfl,rfl⟩ |⟨k,r,rfl,D,rfl⟩
   .intro B;have:=pM B;omega
   .exact λ B=>B
 .unfold RW;split
  .split
   .rename_i r D;exact tF (G.rows r (aaJ D)).1
   simp
  simp
 .have T:e q=some x:=T;obtain⟨S,h2⟩:=G.opn q x T;have h3:=G.opn2 q (by grind);refine⟨⟨.inr (.inr (.inr (by grind))),S,h2⟩,λ i a o E M=>?_⟩;rcases K E with⟨rfl,rfl⟩ |⟨k,r,rfl,D,rfl⟩
  .simp[dy]at M;grind
  .simp[dy]at M;grind
def RX {a:Act}(c:(g.results.toList.mapM λ r=>(match r with | .tmp t=>pure (a.tmps.getD t undef) | .cell b t=>do loadVar t (<-asAddr (a.tmps.getD b undef)):Sem Value)).run P w= .ok f w):
  (results g a.tmps).run P w= .ok (if h:f.toArray.size=1 then f.toArray[0]else .tuple f.toArray) w:=by
 unfold results;rw[acN];simp only[Sem.run_bind,Sem.run_map];refine(aak (λ r:Result _=>((r.andThen _).andThen _)) (c)).trans ?_;rfl
def Ph {h y:St}(l:Good P w0 H0 h a w ρ σ){f:Bool}{C:List S1}(A:h.L[b]?=some (some (f,.box d C))){ys:G'}(v:w.heap[ρ b]?=some (.cells ⟨ys⟩ d (0,0)))(z:∀o,h.H (ρ b) o=none){B:List cP}(p:dz P w0 w σ h y B):Iz P w h.H (ρ b) d ys B h.O:=by
 refine⟨v,z,λ r j=>?_,λ r j g=>?_,p.apart,λ c x m=>(l.opn c x m).1.2,λ c m=>⟨?_,λ r j g=>?_⟩⟩
 .obtain⟨D,G,E⟩:=(p.each r j).1;exact⟨D.row,G,E⟩
 .obtain⟨k,e,n,F,q,_,u⟩:=(p.each r j).2 _ g;have s:k≠b:=by grind
  exact l.sep k b _ _ _ _ _ s q A u rfl
 .rintro rfl;exact m (l.dG A rfl)
 .obtain⟨k,e,n,F,q,_,u⟩:=(p.each r j).2 _ g;exact m (l.dG q u)
def Pj {d g:St}(n:Good P w0 H0 d a w ρ σ)(l:w0.nw (ρ b)){j:List cP}(k:dz P w0 w σ d g j){c:Nat}(h:Names (some (ρ b)) j d.O c):w0.nw c:=by
 rcases h with e |⟨r,m,f⟩ | o
 .grind
 .exact(k.each r m).1.own.nw c f
 .rcases h:d.O c with _ | x
  .grind
  .exact(n.opn c x h).1.1
def Jd (hm:P.follows .mixedOrders=true)(hT:cE P Γ){f:FuncId}(hf:P.funcs[f]?=some g)(B:(g.name== "runtime.NumGoroutine")=false){args:List BA}{G:List BC}{extra:Nat}{Y:List aI}{M:cj}{m:bz Y (bo M.parts (Heap->aU->Prop))}
  (he:oI G args) (h:ON P Γ an g args b d G extra c e Y M m):ph P f args d G c e Y M m:=by
 unfold ON at h;split at h
 .grind
 .rename_i a hb;refine⟨⟨g,hf,T' B⟩,λ w I ys hs hl a3=>calls_of_wp hf hb ?_⟩;refine mH hm hT (Pg (args:=args) (n:=g.ntmps) (extra:=extra) hs hl he a3) (h _) ?_;intro e' a' w' a0 b0 b3 F _ hg;have L:Dm Γ g.results.toList b (g.ntmps+extra) I d _ _ m a0->a'.defers=[]/\∃v,(results g a'.tmps).run P w'= .ok v w'/\∃v' H' W s nr,Ending.returned v= .returned v'/\
    (vT _ m nr λ u a1 q=>u=s/\Iy _ q a1 λ K D p=>D=[]/\(if M.kz then v'= .tuple ⟨K⟩else K=[v'])/\p H' W)/\
    ns w w' (Names (some I) (dN G ys) e)/\Heap.le c H'/\(∀j,j<w.heap.size->¬Names (some I) (dN G ys) e j->∀o,H' j o=c j o)/\ct H' w'/\Iz P w' H' I d s nr W/\
    (∀j,Names (some I) nr W j->w.heap.size<=j\/Names (some I) (dN G ys) e j):=by
   intro V;refine⟨hg.defers,?_⟩;unfold Dm at V;split at V
   .rename_i Q;split at V
    .grind
    .obtain⟨N,x,q2,r,_⟩:=bM hg V;split at x
     .grind
     .rename_i xs a6;split at x
      .rename_i i j a5;split at x
       .rename_i t' a9 T;split at x
        .rename_i Z;obtain⟨rfl,rfl⟩:=Z;obtain⟨a7,x⟩:=x;subst a7;split at x
         .rename_i q b1 z;split at x
          .rename_i p a8 C;obtain⟨u,S,U,J⟩:=km hT r a6;obtain⟨p1,p2⟩:=r.fr _ _ a5;obtain⟨fl,hL⟩:=cC T;obtain⟨s,o1,o2,o3,o4⟩:=r.obj _ _ _ hL;obtain⟨X,r1,r2⟩:=gX r z (gT r.obj o2);have R:=dv z;obtain⟨a2,a4,r3,r4⟩:=tM (r.ab7 R) C U;have y:=r1.append r r3 R a2;have A:=Ph r hL (ys:=s.toList) o1 o4 y;rw[p2]at A;refine⟨_,RX S,_,N.H,N.O,s.toList,X++a4,rfl,?_,r.below,r.le,λ j E b2=>r.ef j (λ hn=>?_),r.snap,A,λ j E=>?_⟩
           .have:=r4 _ (λ K D p=>D=[]/\(if M.kz then(if h:u.toArray.size=1 then u.toArray[0]else .tuple u.toArray)= .tuple ⟨K⟩else K=[if h:u.toArray.size=1 then u.toArray[0]else .tuple u.toArray])/\p _ _) ⟨rfl,?_,x⟩
            .grind
            .rw[Q,<-J];by_cases h1:u.length=1
             .match u,h1 with
              |[v],_=>rfl
             grind
           .rcases hn with hn | hn
            .grind
            grind
           .rw[<-p2]at E;exact Pj r o3 y E
          grind
         grind
        grind
       grind
      grind
   grind
  cases e' with
  | normal=>exact L F
  | ret=>exact L F
  | exit id=>exact F.elim
  | goto l=>exact F.elim
  | panic ch=>exact F.elim
  | outgrown=>exact F.elim
def Mw {args:G'}{n extra:Nat}{O:aU}(p:ct c w)(m:∀b x,O b=some x->(∃l,w.heap[b]?=some l/\UK P x l)/\∀t,BI P x t->c b t=none):
  Good P ⟨w,Names none [] O⟩ c {Om args n extra c with O:=O} {tmps:=args.toArray++Array.replicate (n-args.toArray.size) undef,defers:=[]} w (λ _=>0) (λ _=> .slice none 0 0):=by
 have a:=Gf (P:=P) (args:=args) (n:=n) (extra:=extra) p;have e:∀{i:Nat} {f:Bool} {o:bL},(Om args n extra c).L[i]?=some (some (f,o))->False:=by
  intro i f o h;simp[Om,abn]at h
 exact⟨a.defers,a.size,a.fr,⟨rfl,rfl,rfl,aaB _,λ _ _ _=>rfl,aaB _⟩,a.le,λ _ _ _=>rfl,a.snap,λ i f o h=>(e h).elim,λ i j f q o r g _ h=>(e h).elim,λ d k=>⟨(a.nr d k).fr,(a.nr d k).obj⟩,a.sl,λ b x h=>⟨⟨.inr (.inr (.inr (by
  grind))),m b x h⟩,λ i f o h=>(e h).elim⟩⟩
def iH:∀{a:List aI} {R:Type} {p:bz a R} {d:List cP} {K:G'->List cP->R->Prop},mc a=[]->vT a p d K->vT a p [] λ f b q=>b=[]/\K f d q
 |[],_,_,_,_,_,h=>⟨rfl,h⟩
 | .row _ _::_,_,_,_,_,e,_=>by simp[mc]at e
 | .cells::_,_,_,_,_,_,h=>h.elim
 | .int _::_,_,_,_,_,e,h=>let⟨n,h⟩:=h;⟨n,iH e h⟩
 | .bool::_,_,_,_,_,e,h=>let⟨n,h⟩:=h;⟨n,iH e h⟩
 | .str::_,_,_,_,_,e,h=>let⟨n,h⟩:=h;⟨n,iH e h⟩
 | .sl::_,_,_,_,_,e,h=>let⟨A,n,c,h⟩:=h;⟨A,n,c,iH e h⟩
 | .mp::_,_,_,_,_,e,h=>let⟨n,h⟩:=h;⟨n,iH e h⟩
 | .val::_,_,_,_,_,e,h=>let⟨n,g,h⟩:=h;⟨n,g,iH e h⟩
def Cd:∀{b:List (Bool×List aI)} {R:Type} {p:bo b R} {c:List cP} {K:G'->List cP->R->Prop},Dp b=true->Iy b p c K->Iy b p [] λ d a q=>a=[]/\K d c q
 |[],_,_,_,_,_,h=>⟨rfl,h⟩
 |(g,ls)::b,R,p,c,K,e,h=>by
  simp[Dp,aah]at e;refine eT (K:=λ f a q=>a=[]/\∃v,xJ g _=some v/\Iy _ q _ _) ?_ (iH e.1 h);rintro f a q ⟨rfl,v,i,h⟩;exact⟨v,i,Cd e.2 h⟩
def Gi:∀{b:List (Bool×List aI)} {R:Type} {p:bo b R} {a:List cP} {K d:G'->List cP->R->Prop},(∀c a q,K c a q->d c a q)->Iy b p a K->Iy b p a d
 |[],_,_,_,_,_,hk,h=>hk _ _ _ h
 |(g,ls)::b,_,_,_,_,_,hk,h=>eT (λ f a q ⟨v,e,h⟩=>⟨v,e,Gi (λ _ _ _=>hk _ _ _) h⟩) h
def Je (hm:P.follows .mixedOrders=true)(hT:cE P Γ){a:FuncId}(hf:P.funcs[a]?=some g)(u:(g.name== "runtime.NumGoroutine")=false){G:cj}{k:bo G.parts (Heap->aU->Prop)}
  (h:OO P Γ an g f b c e G k):LX P a f c e G k:=by
 unfold OO at h;split at h
 .grind
 .rename_i i hb;split at h
  .rename_i T;refine⟨⟨g,hf,T' u⟩,λ w hs hO=>calls_of_wp hf hb ?_⟩;refine mH hm hT (Mw hs hO) h ?_;intro e' V w' X a0 a2 C _ hg;have F:Dn Γ g.results.toList _ k X->V.defers=[]/\∃v,(results g V.tmps).run P w'= .ok v w'/\∃Y H' U,Ending.returned v= .returned Y/\
     (Iy _ k [] λ D nr p=>nr=[]/\(if G.kz then Y= .tuple ⟨D⟩else D=[Y])/\p H' U)/\
     ns w w' (Names none [] e)/\Heap.le c H'/\(∀d,d<w.heap.size->¬Names none [] e d->∀o,H' d o=c d o)/\ct H' w'/\Wy P w' H' U/\
     (∀d,U d≠none->w.heap.size<=d\/e d≠none):=by
    intro R;refine⟨hg.defers,?_⟩;unfold Dn at R;split at R
    .rename_i I;split at R
     .grind
     .obtain⟨n,W,q2,z,_⟩:=bM hg R;split at W
      .grind
      .rename_i xs S;split at W
       .rename_i q a1 E;obtain⟨m,L,K,J⟩:=km hT z S;obtain⟨hd,nr,y,h2⟩:=tM z E K;have M:(results g V.tmps).run P w'= .ok (if h:m.toArray.size=1 then m.toArray[0]else .tuple m.toArray) w':=by
         unfold results;rw[acN];simp only[Sem.run_bind,Sem.run_map];refine(aak (λ r:Result _=>((r.andThen _).andThen _)) (L)).trans ?_;rfl
        have B:=λ d x s=>(z.opn d x s).1;refine⟨_,M,_,n.H,pf n.O,rfl,?_,z.below,z.le,λ d Q a3=>z.ef d (λ hn=>?_),z.snap,λ d x s=>?_,λ d Q=>?_⟩
        .have:=h2 _ (λ D N q=>N=[]/\(if G.kz then(if h:m.toArray.size=1 then m.toArray[0]else .tuple m.toArray)= .tuple ⟨D⟩else D=[if h:m.toArray.size=1 then m.toArray[0]else .tuple m.toArray])/\q _ _) ⟨rfl,?_,W⟩
         .exact Gi (λ D N q ⟨j,_,h3,h4⟩=>⟨j,h3,h4⟩) (Cd T this)
         .rw[I,<-J];by_cases y:m.length=1
          .match m,y with
           |[v],_=>rfl
          grind
        .rcases hn with hn | hn
         .grind
         grind
        .unfold pf at s;split at s
         .rename_i t Z A ho;cases s;obtain⟨_,⟨ob,k2,rfl,k3,k4,k5⟩,k6⟩:=B d _ ho;exact⟨⟨_,k2,Z,A,rfl,rfl,k3,k4,k5⟩,k6⟩
         .grind
         .obtain⟨_,k2,k3⟩:=B d _ s;grind
        .have:n.O d≠none:=by
          intro j;apply Q;unfold pf;grind
         cases s:n.O d with
         | none=>grind
         | some x=>
          rcases(B d x s).1 with y | y
          .grind
          .rcases y with y |⟨r,hr,_⟩ | y
           .grind
           .grind
           grind
       grind
    grind
   cases e' with
   | normal=>exact F C
   | ret=>exact F C
   | exit id=>exact C.elim
   | goto l=>exact C.elim
   | panic ch=>exact C.elim
   | outgrown=>exact C.elim
  grind
end
end
end Go.Vc
