/- A part of the proof. -/
import Derived.Test.YtnkineaffgkicaaGreatDoorH5
import Derived.Lib.SliceRun
import Derived.Lib.Walk
set_option maxHeartbeats 0
set_option maxRecDepth 100000
set_option linter.unusedVariables false
set_option linter.defProp false
set_option linter.unusedSimpArgs false
namespace Go.Vc
open Go Go.RowKit
section
section
variable {P:Program}{w:World}
structure eR (w w':World)(g:Nat)(e:TypeId)(cur cur':Array Value):Prop where
 os:w'.os=w.os
 tape:w'.tape=w.tape
 output:w'.output=w.output
 size:w'.heap.size=w.heap.size
 block:∀k,k≠g->w'.heap[k]?=w.heap[k]?
 here:w'.heap[g]?=some (.cells cur' e (0,0))
 drawn:w.drawn<=w'.drawn
theorem yH {g o:Nat}{e:TypeId}{a:Array Value}{v:Value}(h:w.heap[g]?=some (.cells a e (0,0))):eR w (w.setCell ⟨g,o,none⟩ v) g e a (a.setIfInBounds o v):=by
 refine⟨rfl,rfl,rfl,by simp,λ k b=>?_,?_,aaB _⟩
 .simp[World.setCell];grind
 .simp[World.setCell];grind
theorem bQ {g:Nat}{e:TypeId}:∀(f:G') (o:Nat) (w:World) (a:Array Value),w.heap[g]?=some (.cells a e (0,0))->o+f.length<=a.size->
  ∃b,eR w (w.setCells g o f) g e a b/\b.toList=a.toList.take o++(f++a.toList.drop (o+f.length))
 |[],o,w,a,h,hl=>⟨a,⟨rfl,rfl,rfl,rfl,λ _ _=>rfl,h,aaB _⟩,by simp⟩
 | v::r,o,w,a,h,hl=>by
  have d:=yH (o:=o) (v:=v) h;obtain⟨b,c,l⟩:=bQ r (o+1) _ _ d.here (by grind);refine⟨b,⟨c.os.trans d.os,c.tape.trans d.tape,c.output.trans d.output,c.size.trans d.size,λ k i=>(c.block k i).trans (d.block k i),c.here,aax d.drawn c.drawn⟩,?_⟩;rw[l];have j:o<a.toList.length:=by grind
  simp;rw[List.take_set,aeg (by omega),show o+1+r.length=o+(r.length+1)by omega];rw[List.take_add_one];have m:min o a.size=o:=by omega
  simp_all
theorem eR.trans {w d w2:World}{g:Nat}{e:TypeId}{c i b:Array Value}(h:eR w d g e c i)(a:eR d w2 g e i b):eR w w2 g e c b:=
 ⟨a.os.trans h.os,a.tape.trans h.tape,a.output.trans h.output,a.size.trans h.size,λ k f=>(a.block k f).trans (h.block k f),a.here,aax h.drawn a.drawn⟩
theorem eR.drew {w:World}{g:Nat}{e:TypeId}{c:Array Value}(h:w.heap[g]?=some (.cells c e (0,0))):eR w w.drew g e c c:=⟨rfl,rfl,rfl,rfl,λ _ _=>rfl,h,ads _⟩
theorem BQ {t e ty:TypeId}{z:Value}(f:P.underlying t=some (.slice e))(q:∀w,(zeroValue e).run P w= .ok z w)(s:∀x∈z.cells.toList,x.oneCell'=true){g:Nat}{a:Array Value}{k:TypeId}
  (h:w.heap[g]?=some (.cells a k (0,0))) {o n c:Nat} (A:0<n) (u:o+n*z.cells.size<=a.size):
  (Builtin.clear_ #[t] ty #[.slice (some ⟨g,o,none⟩) n c]).run P w= .ok (.tuple #[]) (w.setCells g o (Builtin.zeroCells z.cells n).toList):=by
 have p:(Builtin.zeroCells z.cells n).toList.length=n*z.cells.size:=by simp[Builtin.zeroCells]
 have d:=run_storeCells_cells (P:=P) g o (Builtin.zeroCells z.cells n).toList 0 w (λ j r=>by
   simp[World.cell?,h,show o+j<a.size by omega])
  (λ j r=>by simp[World.frozen?,h]) (by
   intro v b;simp[Builtin.zeroCells,List.mem_range]at b;obtain⟨i,y,rfl⟩:=b;have l:0<z.cells.size:=by
    grind
   have B:=Nat.mod_lt i l;grind)
 obtain⟨m,rfl⟩:∃m,n=m+1:=⟨n-1,by omega⟩;simp[Builtin.clear_,run_underlying f,q,d]
end
section
variable {P:Program}{Γ:fh}{w0:W0}{w:World}{H0:Heap}{st:St}{a:Act}{ρ:Nat->Nat}{σ:Nat->Value}
variable (hT:cE P Γ)(hg:Good P w0 H0 st a w ρ σ)
theorem yI {t e ty:TypeId}(a:P.underlying t=some (.slice e)){A:D'}{n c:Nat}(h:A=none\/n=0):
  (Builtin.clear_ #[t] ty #[.slice A n c]).run P w= .ok (.tuple #[]) w:=by
 rcases h with rfl | rfl
 .simp[Builtin.clear_,run_underlying a]
 .cases A<;>simp[Builtin.clear_,run_underlying a]
theorem yJ {z:Value}{a:G'}{n c:Nat}(d:z.cells=⟨a⟩)(b:a.length=c):(Builtin.zeroCells z.cells n).toList=dE a n:=by
 have h:=sr _ n _ b;subst b;rw[<-h];simp only[d];rfl
include hT hg in
theorem FF {C:Option Tmp}{t ty e:TypeId}{i j:tj}{x:Operand}{xv:SV}{M:String}{p:Array Edge}{Y:Option (Nat×Bool)}{K:St->Prop}
  (hi:Γ t=some i) (Z:i.ty= .slice e) (hj:Γ e=some j) (hx:ev st x=some xv) (h:Dh st C e j xv K):
  oU P w0 H0 st a w ρ ⟨C,.call {callee:= .builtin .clear,args:=#[x],argTypes:=#[t]},ty,M,p,Y⟩ K:=by
 have hu:=(hT _ _ hi).und;rw[Z]at hu;have y:=hT _ _ hj;have hv:=aE hg hx;obtain⟨b6,z,i1,i2,i3,i4,i5⟩:=y.info;have hz:∀w,(zeroValue e).run P w= .ok z w:=λ w=>by simp[zeroValue,typeInfo,i1,i4]
 have R:=y.zlen;have S:∀x∈z.cells.toList,x.oneCell'=true:=by rw[i5];exact y.zone
 have F:∀{k n l m:Nat} {r:G'},gK st k=some (.row e n r)->l+m<=n->(∀A c,σ k= .slice A n c->a.eval x= .slice (eM A c l j.size) m (c-l))->
   K (Vc.aq st k (.row e n (av r (l*j.size) (dE j.zero m))))->C=none->oU P w0 H0 st a w ρ ⟨C,.call {callee:= .builtin .clear,args:=#[x],argTypes:=#[t]},ty,M,p,Y⟩ K:=by
  intro k n l m r H N U W hd;subst hd;have V:=aT H;obtain⟨d,b0,B⟩:=hg.obj _ _ _ V;have a0:r.length=n*j.size:=by rw[d.row.1,y.cellsOf]
  have a5:(dE j.zero m).length=m*j.size:=by rw[gz,R]
  have b9:l*j.size+m*j.size<=n*j.size:=by rw[<-acS];exact aaC _ N
  have J:m=0\/(∃c,σ k= .slice none n c)->oU P w0 H0 st a w ρ ⟨none,.call {callee:= .builtin .clear,args:=#[x],argTypes:=#[t]},ty,M,p,Y⟩ K:=by
   intro hc;have hm:m=0:=by
    rcases hc with h |⟨c,hc⟩
    .grind
    .rcases d.row.2 with⟨_,h0⟩ |⟨g,q,u,f,_⟩
     .omega
     grind
   subst hm;have O:av r (l*j.size) (dE j.zero 0)=r:=by simp[av,dE]
   rw[O]at W;have a1:Vc.aq st k (.row e n r)=st:=by
    have:st.L.set k (some (true,.row e n r))=st.L:=by
     obtain⟨b7,h1⟩:=aap.1 V;rw[<-h1];simp
    simp[Vc.aq,this]
   rw[a1]at W;obtain⟨A,c,E⟩:∃A c,σ k= .slice A n c:=by
    rcases d.row.2 with⟨f,h0⟩ |⟨g,q,u,f,_⟩
    .grind
    grind
   refine⟨.value _,.tuple #[],w,st,ρ,σ,?_,.inl rfl,W,au.refl _,hg,cF.refl _ _ w⟩;have:=yI (P:=P) (w:=w) (ty:=ty) hu (A:=eM A c l j.size) (n:=0) (c:=c-l) (.inr rfl);simp[execOp,resolve,invoke,builtin,U A c E,this]
  by_cases b8:m=0
  .grind
  rcases d.row.2 with⟨h0,c1⟩ |⟨g,q,u,E,a9,hb,a8,a6,c0,I⟩
  .grind
  .have b2:l≠q:=by omega
   have hA:eM (some ⟨g,0,none⟩) q l j.size=some ⟨g,l*j.size,none⟩:=by
    unfold eM;rw[if_neg (abu b2)];simp[add_plain]
   have T:(σ k).ownBlock=some g:=by rw[E];rfl
   have b4:n*j.size<=u.size:=by grind
   have G:=BQ (P:=P) (ty:=ty) hu hz S hb (o:=l*j.size) (n:=m) (c:=q-l) (by omega) (by grind);rw[yJ i5 R]at G;obtain⟨D,Q,a3⟩:=bQ (dE j.zero m) (l*j.size) w _ hb (by grind);have b1:lC w (w.setCells g (l*j.size) (dE j.zero m)) (some g):=⟨⟨Q.os,Q.tape,Q.output,by rw[Q.size];simp,λ k' b5 X=>Q.block k' (λ e=>X (by grind))⟩,Q.drawn⟩;obtain⟨a4,q1,q2,q3,q4⟩:=uF (w':=w.setCells g (l*j.size) (dE j.zero m)) (g:=g) hg H T (by exact T) W b1 (by
    have a2:(av r (l*j.size) (dE j.zero m)).length=r.length:=by simp[av,aaE];omega
    have b3:D.toList.length=u.size:=by grind
    refine⟨⟨⟨by rw[a2,d.row.1],.inr ⟨g,q,D,E,a9,Q.here,a8,a6,T' ?_⟩⟩,d.nw⟩,?_,B⟩
    .rw[a3,<-aat];simp only[av];have hk:l*j.size+m*j.size<=n*P.cellsOf e:=by grind
     rw[<-I,aco,aco];simp[a5];rw[aei,aei,aej];have e1:min (n*P.cellsOf e) (l*j.size)=l*j.size:=by omega
     have e2:min (l*j.size) (n*P.cellsOf e)=l*j.size:=by omega
     have e3:min (l*j.size) u.size=l*j.size:=by omega
     rw[e1,e2,e3,aag (by grind:(dE _ m).length<=n*P.cellsOf e-l*j.size)]
    .intro v f;rcases aam.1 f with f | f
     .rcases aam.1 f with f | f
      .grind
      .exact y.zone v (FC f)
     grind) (λ _ _ _ hh=>hh)
   refine⟨.value _,.tuple #[],_,a4,ρ,σ,?_,.inl rfl,q1,q2,q3,q4.mono λ i hh=>by simp[nE]at hh⟩;have O:=U _ _ E;rw[hA]at O;simp[execOp,resolve,invoke,builtin,O,G]
 unfold Dh at h;split at h
 .split at h
  .rename_i k;split at h
   .rename_i e' n r H;split at h
    .rename_i O;subst O;have V:=aT H;obtain⟨d,b0,B⟩:=hg.obj _ _ _ V;have a0:r.length=n*j.size:=by rw[d.row.1,y.cellsOf]
     refine F (k:=k) (l:=0) (m:=n) H (by simp) (λ A c E=>?_) ?_ rfl
     .have e1:=hv;rw[e1,E]
      .unfold eM;split
       .rfl
       .cases A with
        | none=>rfl
        | some ad=>obtain⟨b,o,s⟩:=ad;cases s<;>simp[Addr.add]
     .have:av r (0*j.size) (dE j.zero n)=dE j.zero n:=by
       simp[av,gz];grind
      rw[this];exact h
    grind
   grind
  .rename_i k l m sz;obtain⟨A,n0,c,E,N,O⟩:∃A n c,σ k= .slice A n c/\l+m<=n/\a.eval x= .slice _ m _:=hv;split at h
   .rename_i e' n r H;split at h
    .rename_i a7;obtain⟨rfl,rfl⟩:=a7;have hn:n=n0:=by
      obtain⟨d,_⟩:=hg.obj _ _ _ (aT H);rcases d.row.2 with⟨f,h0⟩ |⟨g,q,u,f,_⟩
      .grind
      grind
     subst hn;refine F (k:=k) (l:=l) (m:=m) H N (λ A' c' c2=>?_) h rfl;grind
    grind
   grind
  grind
 grind
omit hT hg in
theorem FH {e:TypeId}{b sz2:Nat}{A:D'}{n c m:Nat}{a:G'}(h:kJ w w0 e b (.slice A n c) n a)(p:m<=n):
  kJ w w0 e b (.slice (eM A c 0 sz2) m (c-0)) m (yf a n m)/\(Value.slice (eM A c 0 sz2) m (c-0)).ownBlock=(Value.slice A n c).ownBlock/\∀x∈yf a n m,x∈a:=by
 have o:eM A c 0 sz2=A:=by
  unfold eM;split
  .rfl
  .rcases h.row.2 with⟨f,_⟩ |⟨g,j,k,f,_⟩
   .grind
   .simp at f;rw[f.1];simp[add_plain]
 rw[o];have d:yf a n m=a.take (m*b):=by
  unfold yf;rw[h.row.1];rcases abl n with i | i
  .grind
  .rw[Nat.mul_div_cancel_left _ i,adX]
 have q:m*b<=n*b:=aaC _ p;have l:(Value.slice A m c).ownBlock=(Value.slice A n c).ownBlock:=by
  cases A<;>rfl
 refine⟨⟨⟨by rw[d,aaE,h.row.1];omega,?_⟩,λ g hg=>h.nw g (by grind)⟩,l,λ x v=>by grind⟩;rcases h.row.2 with⟨f,i⟩ |⟨g,j,k,f,t,r,y,s,z,u⟩
 .grind
 grind
end
end
section
variable {b:Value}{c:G'}
structure jX (P:Program)(w0:W0)(w:World)(H:Heap)(r:cP):Prop where
 own:kJ w w0 r.e (P.cellsOf r.e) r.s r.n r.xs
 one:∀x∈r.xs,x.oneCell'=true
 free:∀g,r.s.ownBlock=some g->∀o,H g o=none
section
variable {P:Program}{Γ:fh}{w0:W0}{w w':World}{H0 H':Heap}{st:St}{a:Act}{ρ:Nat->Nat}{σ:Nat->Value}
def tF {d:Nat}{e:TypeId}{f:Nat}{n:Nat}(h:w.ownsRow d e f b n c):∃A m a,b= .slice A m a:=by
 rcases h.2 with⟨j,_⟩ |⟨g,k,i,j,_⟩
 .grind
 grind
def Good.IM (l:Good P w0 H0 st a w ρ σ){d:Nat}(u:da st d=true){r:cP}(b:jX P w0 w st.H r)
  (p:∀i f o g,st.L[i]?=some (some (f,o))->dy ρ σ i o=some g->r.s.ownBlock≠some g) (m:∀g,r.s.ownBlock=some g->st.O g=none):
  Good P w0 H0 (Vc.aq st d (.row r.e r.n r.xs)) a w ρ (vW σ d r.s):=by
 have t:=bw u;have j:=(aap.1 t).1;have k:=l.nr d t;refine Good.step l _ d _ _ (bD j) (λ i c=> .inl ?_) (.inr ⟨k,λ _ _=>rfl,λ i c=>eP _ _ c⟩)
  (lC.refl w _) (λ g h=>⟨(b.own.lt g h).1,b.free g h⟩) m (λ i f o g c h q=>?_) ?_ ?_ (λ _ _ _ _ v=>v) ?_
 .grind
 .grind
 .simp[dj,bm];exact⟨b.own,b.one,b.free⟩
 .intro g q;simp[dy,bm]at q;grind
 .intro i;by_cases c:i=d
  .subst c;rw[bm];exact tF b.own.row
  .rw[eP _ _ c];exact l.sl i
def yK (st:St)(ρ:Nat->Nat)(σ:Nat->Value)(a:List cP):Prop:=
 (∀r∈a,∀i f o g,st.L[i]?=some (some (f,o))->dy ρ σ i o=some g->r.s.ownBlock≠some g)/\∀r∈a,∀g,r.s.ownBlock=some g->st.O g=none
def Carry (st:St)(σ a:Nat->Value):Prop:=∀i,st.L[i]?≠some none->a i=σ i
def OX (st:St)(c:S1):Prop:=∀d,st.L[d]?=some none->¬c.refs d
def jo (st:St)(a:List S1):Prop:=∀d,st.L[d]?=some none->¬dI d a
def FI (st a:St):Prop:=∀i:Nat,st.L[i]?≠some none->a.L[i]?=st.L[i]?
def FI.refl (st:St):FI st st:=λ _ _=>rfl
def Carry.refl (st:St)(σ:Nat->Value):Carry st σ σ:=λ _ _=>rfl
def S1.Mi {a:Nat->Value}(h:Carry st σ a){c:S1}(d:OX st c)(f:c.rel ρ σ b):c.rel ρ a b:=by
 cases c<;>simp[S1.rel]at f⊢<;>try exact f
 case kH i j=>
  have:=h i (λ e=>d i e rfl);grind
 case own i=>
  have:=h i (λ e=>d i e rfl);grind
 case sub i l m sz=>
  have:=h i (λ e=>d i e rfl);grind
 case Rq i s=>
  have:=h i (λ e=>d i e rfl);grind
def ss {a:Nat->Value}(h:Carry st σ a):∀{f:List S1} {g:G'},jo st f->bO ρ σ f g->bO ρ a f g
 |[],[],_,_=>trivial
 | c::_,_::_,hn,hr=>⟨S1.Mi h (λ d b e=>hn d b ⟨c,N' e⟩) hr.1,ss h (λ d b ⟨x,i,e⟩=>hn d b ⟨x,T' e⟩) hr.2⟩
 |[],_::_,_,hr=>hr.elim
 | _::_,[],_,hr=>hr.elim
def nG:∀{T:List aI} {R:Type} {p:bz T R} {st:St} {σ:Nat->Value} {K:List S1->St->R->Prop} {Q:G'->List cP->R->Prop} {F:List cP},
  Good P w0 H0 st a w ρ σ->nt T p st K->vT T p F Q->(∀r∈F,jX P w0 w st.H r)->bg F->yK st ρ σ F->
  ∃(D:List S1) (m:St) (q:R) (y:List cP) (E:G') (u:Nat->Value),K D m q/\Q E y q/\Good P w0 H0 m a w ρ u/\bO ρ u D E/\au [] st m/\jo m D/\(∀d:Nat,m.L[d]?=some none->st.L[d]?=some none)/\
   Carry st σ u/\m.H=st.H/\FI st m/\(∀r∈y,jX P w0 w m.H r)/\bg y/\yK m ρ u y
 |[],R,p,st,σ,K,Q,F,hg,h,z,h3,h4,h5=>
  ⟨[],st,p,F,[],σ,h,z,hg,trivial,au.refl st,λ d _ ⟨x,J,_⟩=>by grind,λ _ h=>h,Carry.refl st σ,rfl,FI.refl st,h3,h4,h5⟩
 | l::T,R,p,st,σ,K,Q,F,hg,h,z,h3,h4,h5=>by
  have t:∀{p':bz T R} (c:S1) (v:Value),(∀ρ σ,S1.rel ρ σ c v)->(∀d,¬c.refs d)->nt _ p' st (λ D st q=>K (c::D) st q)->vT _ p' F (λ E F q=>Q (v::E) F q)->
    ∃(D:List _) (m:St) (q:R) (y:List _) (E:List _) (u:Nat->Value),K D m q/\Q E y q/\Good P w0 H0 m a w ρ u/\bO ρ u D E/\au [] st m/\jo m D/\(∀d:Nat,m.L[d]?=some none->st.L[d]?=some none)/\
     Carry st σ u/\m.H=st.H/\FI st m/\(∀r∈y,jX P w0 w m.H r)/\bg y/\yK m ρ u y:=by
   intro p' c v hr hn ha he;obtain⟨D,m,q,y,E,u,Y,k2,k3,k4,k5,k6,W,V,Z,G⟩:=nG hg ha he h3 h4 h5;refine⟨c::D,m,q,y,v::E,u,Y,k2,k3,⟨hr _ _,k4⟩,k5,?_,W,V,Z,G⟩;rintro d O ⟨x,J,C⟩;rcases aaw.1 J with rfl | J
   .grind
   .exact k6 d O ⟨x,J,C⟩
  cases l with
  | int k=>obtain⟨n,z⟩:=z;exact t (.v _) _ (λ _ _=>rfl) (λ _ C=>C) (h n) z
  | bool=>obtain⟨n,z⟩:=z;exact t (.b n) _ (λ _ _=>rfl) (λ _ C=>C) (h n) z
  | str=>obtain⟨n,z⟩:=z;exact t (.v _) _ (λ _ _=>rfl) (λ _ C=>C) (h n) z
  | sl=>obtain⟨A,n,c,z⟩:=z;exact t (.v _) _ (λ _ _=>rfl) (λ _ C=>C) (h A n c) z
  | mp=>obtain⟨A,z⟩:=z;exact t (.v _) _ (λ _ _=>rfl) (λ _ C=>C) (h A) z
  | val=>obtain⟨v,_,z⟩:=z;exact t (.v v) _ (λ _ _=>rfl) (λ _ C=>C) (h v) z
  | cells=>exact h.elim
  | row i e=>
   obtain⟨r,a1,rfl,rfl,z⟩:=z;simp only[nt]at h;split at h
   .rename_i X;have hn:=bw X;have S:=kM X;have a0:=hg.IM X (h3 r (by simp)) (h5.1 r (by simp)) (h5.2 r (by simp));have N:yK (Vc.aq st i (.row r.e r.n r.xs)) ρ (vW σ i r.s) a1:=by
     refine⟨λ r' M j f o g I U=>?_,λ r' M=>h5.2 _ (by grind)⟩;by_cases B:j=i
     .subst B;simp[Vc.aq]at I;rw[bD S]at I;obtain⟨_,rfl⟩:=I;simp[dy,bm]at U;exact λ C=>(aaz.1 h4).1 _ M g U C
     .rw[al B]at I;refine h5.1 _ (by grind) j f o g I ?_;cases o<;>simp[dy]at U⊢<;>try exact U
      rw[eP _ _ B]at U;grind
    obtain⟨D,m,q,y,E,u,Y,k2,k3,k4,k5,k6,W,V,Z,G⟩:=nG a0 (h _ _) z (λ r' M=>h3 _ (by grind)) (aaz.1 h4).2 N;refine⟨.own i::D,m,q,y,r.s::E,u,Y,k2,k3,⟨?_,k4⟩,(au.iD X).trans k5,?_,?_,?_,Z,?_,G.2⟩
    .show r.s=u i;rw[V i (by simp[Vc.aq];grind),bm]
    .rintro d O ⟨x,J,C⟩;rcases aaw.1 J with rfl | J
     .have a2:=C;subst a2;have:=W i O;simp[Vc.aq]at this;grind
     .exact k6 d O ⟨x,J,C⟩
    .intro d O;exact(mD (W d O) S).2
    .intro j I;have B:j≠i:=λ e=>I (e▸hn);rw[V j (by rw[al B];grind),eP _ _ B]
    .intro j I;have B:j≠i:=λ e=>I (e▸hn);rw[G.1 j (by rw[al B];grind),al B]
   grind
def FJ (st:St)(r:List (Bool×List S1)):Prop:=∀d,st.L[d]?=some none->∀x∈r,¬dI d x.2
def IN {a:Nat->Value}(h:Carry st σ a){g:Bool}{c:List S1}(f:jo st c)(d:oT ρ σ [(g,c)] [b]):oT ρ a [(g,c)] [b]:=by
 cases g
 .exact⟨ss h f d.1,trivial⟩
 .obtain⟨⟨i,e,j⟩,_⟩:=d;exact⟨⟨i,e,ss h f j⟩,trivial⟩
def Mj {x:Bool×List S1}{r:List (Bool×List S1)}(h:oT ρ σ [x] [b])(a:oT ρ σ r c):oT ρ σ (x::r) (b::c):=by
 obtain⟨g,d⟩:=x;cases g
 .exact⟨h.1,a⟩
 .exact⟨h.1,a⟩
def kN:∀{n:List (Bool×List aI)} {R:Type} {p:bo n R} {st:St} {σ:Nat->Value} {K:List (Bool×List S1)->St->R->Prop} {m:G'->List cP->R->Prop} {nr:List cP},
  Good P w0 H0 st a w ρ σ->AQ n p st K->Iy n p nr m->(∀r∈nr,jX P w0 w st.H r)->bg nr->yK st ρ σ nr->
  ∃(r:List (Bool×List S1)) (b:St) (q:R) (f:List cP) (s:G') (c:Nat->Value),K r b q/\m s f q/\Good P w0 H0 b a w ρ c/\oT ρ c r s/\au [] st b/\FJ b r/\(∀d:Nat,b.L[d]?=some none->st.L[d]?=some none)/\
   Carry st σ c/\b.H=st.H/\FI st b
 |[],R,p,st,σ,K,m,nr,hg,h,h2,h3,h4,h5=>
  ⟨[],st,p,nr,[],σ,h,h2,hg,trivial,au.refl st,λ d _ x o=>by grind,λ _ h=>h,Carry.refl st σ,rfl,FI.refl st⟩
 |(g,ls)::n,R,p,st,σ,K,m,nr,hg,h,h2,h3,h4,h5=>by
  obtain⟨F,S,q1,a0,E,z,N,⟨v,j,k2⟩,Y,J,k5,G,t,T,X,C,y,A,B⟩:=nG hg h h2 h3 h4 h5;obtain⟨r,b,q,f,s,c,Q,Z,U,W,O,V,M,I,j9,u⟩:=kN Y N k2 y A B;refine⟨(g,F)::r,b,q,f,v::s,c,Q,Z,U,Mj ?_ W,k5.trans O,?_,λ d l=>t d (M d l),?_,j9.trans X,?_⟩
  .have D:oT ρ z [(g,F)] [v]:=by
    cases g with
    | true=>
     simp[xJ]at j;subst j;exact⟨⟨⟨E⟩,rfl,J⟩,trivial⟩
    | false=>
     match E,j with
     |[x],j=>
      simp[xJ]at j;subst j;exact⟨J,trivial⟩
   exact IN I G D
  .intro d l x o;rcases aaw.1 o with rfl | o
   .exact G d (M d l)
   .exact V d l x o
  .intro i k;rw[I i (λ e=>k (t i e)),T i k]
  .intro i k;rw[u i (λ e=>k (t i e)),C i k]
def lF (q:Good P w0 H0 st a w ρ σ){o:cj}{d:Option Tmp}{r:List (Bool×List S1)}{K:St->Prop}(h:rK o d r st K){m:G'}
  (k:oT ρ σ r m) (l:FJ st r) (n:if o.kz then b= .tuple ⟨m⟩else m=[b]):∃i,K i/\au d.toList st i/\Good P w0 H0 i (a.put d b) w ρ σ/\i.L=st.L:=by
 unfold rK at h;split at h
 .rename_i x e;refine⟨_,h,au.aK _ d x,Good.aK q d ?_ ?_,by cases d<;>rfl⟩
  .cases f:o.kz with
   | true=>
    rw[f]at e n;simp[Fk]at e;subst e;subst n;exact⟨⟨m⟩,rfl,k⟩
   | false=>
    rw[f]at e n;subst n;match r,e,k with
    |[(g,cs)],e,k=>
     simp[Fk]at e;cases g with
     | true=>
      simp[jJ]at e;subst e;exact k.1
     | false=>
      match cs,e,k with
      |[c],e,k=>
       simp[jJ]at e;subst e;exact k.1.1
  .intro s j;cases f:o.kz with
   | true=>
    rw[f]at e;simp[Fk]at e;subst e;rintro⟨x,e,p⟩;exact l _ j x e p
   | false=>
    rw[f]at e;match r,e,l with
    |[(g,cs)],e,l=>
     simp[Fk]at e;cases g with
     | true=>
      simp[jJ]at e;subst e;exact l _ j (true,cs) (by simp)
     | false=>
      match cs,e,l with
      |[c],e,l=>
       simp[jJ]at e;subst e;exact λ p=>l _ j (false,[c]) (by simp) ⟨c,N' p⟩
 grind
end
end
section
variable {b d:St}{c:Nat}{e:bL}{f:Bool}{g:G'}{h:TypeId}
def bj (st:St)(k:Nat):Prop:=st.L[k]?=some (some (true,.dead))
structure dd (st st':St):Prop where
 fr:st'.fr=st.fr
 H:st'.H=st.H
 O:st'.O=st.O
 ll:st'.L.length=st.L.length
 L:∀k:Nat,st'.L[k]?=st.L[k]?\/(bj st' k/\∃e n xs,st.L[k]?=some (some (true,.row e n xs)))
def dd.refl (st:St):dd st st:=⟨rfl,rfl,rfl,rfl,λ _=> .inl rfl⟩
def dd.keeps (h:dd b d)(a:bj b c):bj d c:=by
 rcases h.L c with h |⟨h,_⟩
 .unfold bj at*;grind
 grind
def dd.trans {st c a:St}(h:dd st c)(b:dd c a):dd st a:=by
 refine⟨b.fr.trans h.fr,b.H.trans h.H,b.O.trans h.O,b.ll.trans h.ll,λ k=>?_⟩;rcases b.L k with g |⟨g,e,n,j,f⟩
 .rcases h.L k with f |⟨f,d⟩
  .grind
  .exact .inr ⟨by unfold bj at*;grind,d⟩
 .rcases h.L k with d |⟨d,i⟩
  .grind
  grind
def dd.ro (h:dd b d)(f:b.L[c]?=some (some (false,e))):d.L[c]?=some (some (false,e)):=by
 rcases h.L c with i |⟨_,a,n,j,g⟩
 .grind
 grind
def dd.back (h:dd b d)(g:d.L[c]?=some (some (f,e)))(i:e≠ .dead):b.L[c]?=some (some (f,e)):=by
 rcases h.L c with a |⟨a,_⟩
 .grind
 .unfold bj at a;grind
def dd.none {st a:St}(h:dd st a){k:Nat}(c:a.L[k]?=some none):st.L[k]?=some none:=by
 rcases h.L k with b |⟨b,_⟩
 .grind
 .unfold bj at b;grind
def dd.box (h:dd b d)(i:b.L[c]?=some (some (f,e)))(j:∀a n g,e≠ .row a n g):d.L[c]?=some (some (f,e)):=by
 rcases h.L c with m |⟨_,a,n,g,l⟩
 .grind
 grind
def dd.kill {n:Nat}(a:gK b c=some (.row h n g)):dd b (aq b c .dead):=by
 have f:=aT a;refine⟨rfl,rfl,rfl,by simp[aq],λ j=>?_⟩;by_cases d:j=c
 .subst d;exact .inr ⟨by simp[bj,aq];grind,h,n,g,f⟩
 .exact .inl (al d)
def gU {f:S1}(a:ja b h f=some (c,g,d)):dd b d:=by
 unfold ja at a;split at a
 .split at a
  .rename_i i;split at a
   .obtain⟨_,_,rfl⟩:=a;exact dd.kill i
   grind
  grind
 .split at a
  .split at a
   .rename_i i;split at a
    .obtain⟨_,_,rfl⟩:=a;exact dd.kill i
    grind
   grind
  grind
 .obtain⟨_,_,rfl⟩:=a;exact dd.refl _
 grind
def dv:∀{d:List aI} {R:Type} {p:bz d R} {b:List S1} {st:St} {q:R} {a:St},dx d p b st=some (q,a)->dd st a
 |[],R,p,b,st,q,a,h=>by
  cases b with
  | nil=>obtain⟨_,rfl⟩:=h;exact dd.refl _
  | cons _ _=>simp[dx]at h
 | l::d,R,p,b,st,q,a,h=>by
  cases b with
  | nil=>cases l<;>simp[dx]at h
  | cons c b=>
   cases l with
   | cells=>simp[dx]at h
   | row i e=>
    simp[dx]at h;split at h
    .rename_i n j f g;exact(gU g).trans (dv h)
    grind
   | _=>
    simp[dx]at h;split at h
    .exact dv h
    grind
section
variable {P:Program}{Γ:fh}{w0:W0}{w w':World}{H0 H':Heap}{st:St}{a:Act}{ρ:Nat->Nat}{σ:Nat->Value}{an:fI}
def Good.alike (c:Good P w0 H0 st a w ρ σ){L':List (Option ti)}(h:∀(i:Nat) (f:Bool) (o:bL),L'[i]?=some (some (f,o))->o= .dead\/∃m,st.L[i]?=some (some (m,o)))(t:∀d:Nat,L'[d]?=some none->st.L[d]?=some none):
  Good P w0 H0 {st with L:=L'} a w ρ σ:=by
 refine⟨c.defers,c.size,c.fr,c.below,c.le,c.ef,c.snap,λ i f o k=>?_,λ i j f m o z g n k p r l=>?_,λ d q=>⟨(c.nr d (t d q)).fr,λ j f o p=>?_⟩,c.sl,λ b x s=>⟨(c.opn b x s).1,λ i f o k=>?_⟩⟩
 rotate_right
 .rcases h i f o k with rfl |⟨m,e⟩
  .simp[dy]
  .exact(c.opn b x s).2 i _ o e
 .rcases h i f o k with rfl |⟨m,e⟩
  .trivial
  .exact c.obj i _ o e
 .rcases h i f o k with rfl |⟨v,e⟩
  .simp[dy]at r
  .rcases h j _ _ p with rfl |⟨A,u⟩
   .simp[dy]at l
   .exact c.sep i j _ _ o _ g n e u r l
 .rcases h j f o p with rfl |⟨v,e⟩
  .exact λ y=>y
  .exact(c.nr d (t d q)).obj j _ o e
def Good.ab7 (j:Good P w0 H0 st a w ρ σ)(h:dd st b):Good P w0 H0 b a w ρ σ:=by
 have:=j.alike (L':=b.L) (λ i f o k=>by
  by_cases g:o= .dead
  .grind
  .exact .inr ⟨f,h.back k g⟩) (λ d c=>h.none c)
 have e:b={st with L:=b.L}:=by
  simp[<-h.fr,<-h.H,<-h.O]
 grind
end
section
variable {P:Program}{Γ:fh}{w0:W0}{w w':World}{H0 H':Heap}{a:Act}{ρ:Nat->Nat}{σ:Nat->Value}{an:fI}
structure dz (P:Program)(w0:W0)(w:World)(σ:Nat->Value)(st st':St)(nr:List cP):Prop where
 each:∀r∈nr,jX P w0 w st.H r/\∀g,r.s.ownBlock=some g->∃(k:Nat) (e:TypeId) (n:Nat) (xs:G'),st.L[k]?=some (some (true,.row e n xs))/\bj st' k/\(σ k).ownBlock=some g
 apart:bg nr
def dz.nil (st a:St):dz P w0 w σ st a []:=⟨by simp,List.Pairwise.nil⟩
def dz.append {c:St}(l:Good P w0 H0 b a w ρ σ){A p:List cP}(h:dz P w0 w σ b d A)(v:dz P w0 w σ d c p)(q:dd b d)(y:dd d c):
  dz P w0 w σ b c (A++p):=by
 refine⟨λ r f=>?_,aaW.2 ⟨h.apart,v.apart,λ r f G u g x j=>?_⟩⟩
 .rcases aam.1 f with f | f
  .obtain⟨z,t⟩:=h.each r f;refine⟨z,λ g l=>?_⟩;obtain⟨k,e,n,xs,i,o,m⟩:=t g l;exact⟨k,e,n,xs,i,y.keeps o,m⟩
  .obtain⟨z,t⟩:=v.each r f;refine⟨by rw[<-q.H];grind,λ g l=>?_⟩;obtain⟨k,e,n,xs,i,o,m⟩:=t g l;exact⟨k,e,n,xs,q.back i (by simp),o,m⟩
 .obtain⟨k,e,n,xs,i,o,m⟩:=(h.each r f).2 g x;obtain⟨E,I,F,B,C,J,D⟩:=(v.each _ u).2 g j;have s:k≠E:=by
   unfold bj at o;grind
  exact l.sep k _ _ _ _ _ g s i (q.back C (by simp)) m D
def pz (z:Good P w0 H0 b a w ρ σ){j:S1}{y:Value}(i:ja b h j=some (c,g,d))(p:j.rel ρ σ y):
  dz P w0 w σ b d [⟨y,h,c,g⟩]:=by
 unfold ja at i;split at i
 .rename_i k;split at i
  .rename_i D t s C;split at i
   .rename_i G;subst G;simp at i;obtain⟨rfl,rfl,rfl⟩:=i;have H:=p;subst H;have v:=aT C;obtain⟨u,I,E⟩:=z.obj _ _ _ v;refine⟨?_,abz _ _⟩;intro r p;simp at p;subst p;refine⟨⟨u,I,E⟩,λ f q=>⟨k,D,t,s,v,?_,q⟩⟩;simp[bj,aq];grind
   grind
  grind
 .rename_i k l m K;split at i
  .split at i
   .rename_i D t s C;split at i
    .rename_i G;subst G;simp at i;obtain⟨rfl,rfl,rfl⟩:=i;obtain⟨A,N,L,S,V,F⟩:∃A c j,σ k= .slice A c j/\0+m<=c/\y= .slice _ m _:=p;subst F;have v:=aT C;obtain⟨u,I,E⟩:=z.obj _ _ _ v;have U:t=N:=by
      rcases u.row.2 with⟨B,W⟩ |⟨f,M,Q,B,_⟩
      .grind
      grind
     subst U;rw[S]at u;obtain⟨O,X,R⟩:=FH (sz2:=K) u (by omega:m<=t);have J:∀f,(Value.slice (eM A L 0 K) m (L-0)).ownBlock=some f->(σ k).ownBlock=some f:=λ f z=>by grind
     refine⟨?_,abz _ _⟩;intro r p;simp at p;subst p;refine⟨⟨O,λ x T=>I x (R x T),λ f q o=>E f (J f q) o⟩,λ f q=>⟨k,D,t,s,v,?_,J f q⟩⟩;simp[bj,aq];grind
    grind
   grind
  grind
 .obtain⟨rfl,rfl,rfl⟩:=i;have F:=p;subst F;refine⟨?_,abz _ _⟩;intro r p;simp at p;subst p;exact⟨⟨kJ.nil w _ h _,by simp,by simp[Value.ownBlock]⟩,by simp[Value.ownBlock]⟩
 grind
end
section
variable {P:Program}{Γ:fh}{w0:W0}{w w':World}{H0 H':Heap}{st:St}{a:Act}{ρ:Nat->Nat}{σ:Nat->Value}{an:fI}
structure mE (st st1:St):Prop where
 fr:st1.fr=st.fr
 H:st1.H=st.H
 O:st1.O=st.O
 ll:st1.L.length=st.L.length
 L:∀k:Nat,st1.L[k]?=st.L[k]?\/(bj st1 k/\∃o,st.L[k]?=some (some (true,o)))
def mE.refl (st:St):mE st st:=⟨rfl,rfl,rfl,rfl,λ _=> .inl rfl⟩
def dd.Vp (h:dd b d):mE b d:=⟨h.fr,h.H,h.O,h.ll,λ k=>by
 rcases h.L k with h |⟨c,e,n,f,a⟩
 .grind
 grind⟩
def mE.set (h:mE b d)(l:b.L[c]?=some (some (true,e))):mE b (Vc.aq d c .dead):=by
 have g:c<d.L.length:=by rw[h.ll];grind
 refine⟨h.fr,h.H,h.O,by simp[Vc.aq,h.ll],λ k=>?_⟩;by_cases a:c=k
 .subst a;exact .inr ⟨by simp[bj,Vc.aq];grind,e,l⟩
 .rcases h.L k with f |⟨f,j⟩
  .simp[Vc.aq];grind
  .refine .inr ⟨?_,j⟩;simp[bj,Vc.aq];rw[aaK a];exact f
def pB (ρ:Nat->Nat)(σ:Nat->Value)(st a:St)(b:Nat):Prop:=(∃(j:Nat) (o:bL),st.L[j]?=some (some (true,o))/\bj a j/\dy ρ σ j o=some b)\/st.O b≠none
def pB.nw (d:Good P w0 H0 st a w ρ σ){c:St}{b:Nat}(h:pB ρ σ st c b):w0.nw b:=by
 rcases h with⟨j,o,f,_,g⟩ | h
 .exact(d.db f g).2.1
 .rcases e:st.O b with _ | x
  .grind
  .exact(d.opn b x e).1.1
def mE.live (d:mE st b)(h:b.L[c]?=some (some (f,e))):e= .dead\/st.L[c]?=some (some (f,e)):=by
 rcases d.L c with a |⟨a,_⟩
 .grind
 .unfold bj at a;grind
def mE.FK (l:Good P w0 H0 st a w ρ σ)(p:mE st b){g:Nat}(h:b.L[c]?=some (some (f,e)))(i:dy ρ σ c e=some g):g<w.heap.size/\¬pB ρ σ st b g:=by
 have s:e≠ .dead:=by rintro rfl;simp[dy]at i
 rcases p.live h with d | d
 .grind
 .refine⟨(l.db d i).1,?_⟩;rintro(⟨k,u,n,q,r⟩ | t)
  .have m:c≠k:=by
    unfold bj at q;grind
   exact l.sep c k _ _ _ _ g m d n i r
  .exact t (l.dG d i)
def ns.mono {g a:Nat->Prop}(h:ns w w' g)(e:∀b,g b->a b):ns w w' a:=⟨h.os,h.tape,h.output,h.size,λ k c f=>h.block k c λ d=>f (e k d),h.drawn⟩
def Good.DA (l:Good P w0 H0 st a w ρ σ)(s:mE st b)(u:ns w w' (pB ρ σ st b)){H':Heap}{Z:aU}(C:Heap.le st.H H')
  (p:∀c,c<w.heap.size->¬pB ρ σ st b c->∀o,H' c o=st.H c o) (hs:ct H' w')
  (hO:∀c x,Z c=some x->(∃ob,w'.heap[c]?=some ob/\UK P x ob)/\(∀t,BI P x t->H' c t=none)/\(w.heap.size<=c\/pB ρ σ st b c)):
  Good P w0 H0 {b with H:=H',O:=Z} a w' ρ σ:=by
 have V:∀{c},(w.heap.size<=c\/pB ρ σ st b c)->w0.nw c:=by
  rintro c (h | h)
  .exact .inl (aax l.below.size h)
  .exact h.nw l
 refine⟨l.defers,by rw[l.size];rw[s.fr],λ i x W=>l.fr i x (by rw[<-s.fr];grind),⟨u.os.trans l.below.os,u.tape.trans l.below.tape,u.output.trans l.below.output,aax l.below.size u.size,λ k v M=>?_,aax l.below.drawn u.drawn⟩,Heap.le_trans l.le C,λ c A o=>?_,hs,λ j f o h=>?_,λ j k f f' o o2 g Q X v I F=>?_,λ d hd=>?_,l.sl,λ c x W=>?_⟩
 .refine(u.block k (abY v l.below.size) λ D=>?_).trans (l.below.block k v M);rcases D.nw l with q | q
  .omega
  grind
 .exact(p c (abY (W0.ef A).1 l.below.size) (λ D=>A (D.nw l)) o).trans (l.ef c A o)
 .have r:=λ g=>s.FK l (g:=g) h;rcases s.live h with rfl | q
  .trivial
  have K:=l.obj j f o q;cases o<;>simp[dj]at K⊢;case box t cs=>
   obtain⟨ys,z,J,E,U⟩:=K;obtain⟨m,y⟩:=r _ rfl;exact⟨ys,(u.block _ m y).trans z,J,E,λ o=>(p _ m y o).trans (U o)⟩
  case arr t xs=>
   obtain⟨z,J,E,U⟩:=K;obtain⟨m,y⟩:=r _ rfl;exact⟨(u.block _ m y).trans z,J,E,λ o=>(p _ m y o).trans (U o)⟩
  case row e n xs=>
   obtain⟨z,J,E⟩:=K;refine⟨⟨⟨z.row.1,?_⟩,z.nw⟩,J,λ g B o=>(p g (r g B).1 (r g B).2 o).trans (E g B o)⟩;rcases z.row.2 with D |⟨g,R,T,hv,C,Y,hr⟩
   .grind
   .obtain⟨m,y⟩:=r g (by show(σ j).ownBlock=some g;rw[hv];rfl);exact .inr ⟨g,R,T,hv,C,(u.block g m y).trans Y,hr⟩
  grind
 .rcases s.live X with rfl | q
  .simp[dy]at I
  .rcases s.live v with rfl | N
   .simp[dy]at F
   .exact l.sep j k _ _ _ _ g Q q N I F
 .have G:st.L[d]?=some none:=by
   rcases s.L d with q |⟨q,_⟩
   .grind
   .unfold bj at q;grind
  refine⟨λ j x W=>(l.nr d G).fr j x (by rw[<-s.fr];grind),λ j f o X=>?_⟩;rcases s.live X with rfl | q
  .exact λ D=>D
  .exact(l.nr d G).obj j f o q
 .obtain⟨q,N,h3⟩:=hO c x W;refine⟨⟨V h3,q,N⟩,λ i f o hi S=>?_⟩;obtain⟨m,y⟩:=s.FK l hi S;grind
def Good.OY (l:Good P w0 H0 st a w ρ σ){i:Nat}{t:TypeId}{cs:List S1}{ys:G'}(b:i<st.L.length)(c:w.heap[ρ i]?=some (.cells ⟨ys⟩ t (0,0)))(p:bO ρ σ cs ys)(e:w0.nw (ρ i))(n:∀o,st.H (ρ i) o=none)
  (v:st.O (ρ i)=none) (m:∀j f o,j≠i->st.L[j]?=some (some (f,o))->dy ρ σ j o≠some (ρ i)) (q:jo st cs):Good P w0 H0 (Vc.aq st i (.box t cs)) a w ρ σ:=by
 refine Good.step l _ i _ (some (ρ i)) (bD b) (λ j r=> .inl ?_) (.inl ⟨rfl,rfl⟩) (lC.refl w _) (λ g h=>?_) (λ g h=>?_) (λ j f o g r h u=>?_) ?_ (λ g h=>?_) (λ d s k _=>?_) l.sl
 .grind
 .grind
 .grind
 .grind
 .exact⟨⟨ys⟩,c,p,e,n⟩
 .exact .inr h
 .exact q d k
def pC:∀{j:List aI} {g:List S1} {m:G'} {st b:St} {d:List BC},Good P w0 H0 st a w ρ σ->lD j g st=some (d,b)->bO ρ σ g m->
  dd st b/\tn d m/\dz P w0 w σ st b (dN d m)/\j.length=g.length
 |[],[],[],st,b,d,hg,h,hr=>by
  obtain⟨rfl,rfl⟩:=h;exact⟨dd.refl _,trivial,dz.nil _ _,rfl⟩
 |[],c::g,_,st,b,d,hg,h,hr=>by simp[lD]at h
 | l::j,[],_,st,b,d,hg,h,hr=>by cases l<;>simp[lD]at h
 | _,[],_::_,_,_,_,_,_,hr=>hr.elim
 | _,_::_,[],_,_,_,_,_,hr=>hr.elim
 | l::j,c::g,y::m,st,b,d,hg,h,hr=>by
  have q:(∀i e,l≠ .row i e)->dd st b/\tn d (y::m)/\dz P w0 w σ st b (dN d (y::m))/\(l::j).length=(c::g).length:=by
   intro H;have t:(match c.ym with
    | some x=>match lD j g st with
     | some (d,f)=>some (BC.v x::d,f)
     | none=>none
    | none=>none)=some (d,b):=by
    cases l<;>first | exact h | grind
   split at t
   .rename_i x z;split at t
    .rename_i s f p;obtain⟨rfl,rfl⟩:=t;obtain⟨o,B,u,G⟩:=pC hg p hr.2;unfold S1.ym at z;split at z
     .rename_i A;have C:=S1.qN z hr.1;have F:=S1.Dq hg.sl A hr.1;exact⟨o,⟨⟨C,C▸F⟩,B⟩,u,by grind⟩
     grind
    grind
   grind
  cases l with
  | row i e=>
   simp[lD]at h;split at h
   .rename_i n I D p;split at h
    .rename_i s f E;obtain⟨rfl,rfl⟩:=h;have r:=gU p;obtain⟨o,B,u,G⟩:=pC (hg.ab7 r) E hr.2;exact⟨r.trans o,B,(pz hg p hr.1).append hg u r o,by grind⟩
    grind
   grind
  | int k=>grind
  | bool=>grind
  | str=>grind
  | sl=>grind
  | mp=>grind
  | val=>grind
  | cells=>grind
def eT:∀{b:List aI} {R:Type} {p:bz b R} {a:List cP} {K d:G'->List cP->R->Prop},(∀j a q,K j a q->d j a q)->vT b p a K->vT b p a d
 |[],R,p,a,K,d,hk,h=>hk _ _ _ h
 | l::b,R,p,a,K,d,hk,h=>by
  cases l with
  | int k=>obtain⟨n,h⟩:=h;exact⟨n,eT (λ _ _ _=>hk _ _ _) h⟩
  | bool=>obtain⟨n,h⟩:=h;exact⟨n,eT (λ _ _ _=>hk _ _ _) h⟩
  | str=>obtain⟨n,h⟩:=h;exact⟨n,eT (λ _ _ _=>hk _ _ _) h⟩
  | sl=>obtain⟨A,n,c,h⟩:=h;exact⟨A,n,c,eT (λ _ _ _=>hk _ _ _) h⟩
  | mp=>obtain⟨n,h⟩:=h;exact⟨n,eT (λ _ _ _=>hk _ _ _) h⟩
  | val=>obtain⟨n,g,h⟩:=h;exact⟨n,g,eT (λ _ _ _=>hk _ _ _) h⟩
  | cells=>exact h.elim
  | row i e=>
   obtain⟨r,f,rfl,g,h⟩:=h;exact⟨r,f,rfl,g,eT (λ _ _ _=>hk _ _ _) h⟩
def KO {d:List aI}{R:Type}{p:bz d R}{nr:List cP}{K:G'->List cP->R->Prop}(h:vT d p nr λ a f q=>a=g/\K a f q):g.length=d.length:=by
 have o:∀{d:List aI} {R:Type} {p:bz d R} {nr:List cP} {C:Prop} {k:Nat} {K:G'->List cP->R->Prop},(∀a nr q,a.length=k+d.length->K a nr q->C)->∀(b:G'),b.length=k->(vT d p nr λ a nr q=>K (b++a) nr q)->C:=by
  intro d;induction d with
  | nil=>intro R p nr C k K m b t h;exact m _ _ _ (by grind) h
  | cons l d y=>
   intro R p nr C k K m b t h;have go:∀{s:bz _ R} {j:List _} (v:Value),(vT _ _ _ λ a nr q=>K (b++v::a) nr q)->C:=λ {s j} v w=>
    y (p:=s) (nr:=j) (k:=k+1) (K:=K) (λ a nr q u=>m _ _ q (by grind)) (b++[v]) (by grind) (eT (λ _ _ _ x=>by grind) w)
   cases l with
   | int k=>obtain⟨n,h⟩:=h;exact go _ h
   | bool=>obtain⟨n,h⟩:=h;exact go _ h
   | str=>obtain⟨n,h⟩:=h;exact go _ h
   | sl=>obtain⟨A,n,c,h⟩:=h;exact go _ h
   | mp=>obtain⟨A,h⟩:=h;exact go _ h
   | val=>obtain⟨n,_,h⟩:=h;exact go _ h
   | cells=>exact h.elim
   | row i e=>obtain⟨r,f,rfl,_,h⟩:=h;exact go _ h
 exact o (k:=0) (K:=λ a f q=>a=g/\K a f q) (λ a nr q u h=>by grind) [] rfl h
def RR:∀{f:List aI} {R:Type} {p:bz f R} {g:List cP} {K:G'->List cP->R->Prop},vT f p g K->vT f p g λ j b q=>((∀r∈b,r∈g)/\j.length=f.length)/\K j b q
 |[],R,p,g,K,h=>⟨⟨λ _ h=>h,rfl⟩,h⟩
 | l::f,R,p,g,K,h=>by
  have a:∀{s:bz f R} {d:List _} {t:List _->List _->R->Prop},(∀r∈d,r∈g)->vT _ s d t->∀(v:Value),vT _ s d λ j b q=>((∀r∈b,r∈g)/\(v::j).length=(l::f).length)/\t j b q:=by
   intro s d t y x v;have:=RR x;refine eT (λ j b q u=>⟨⟨λ r w=>y r (u.1.1 r w),by grind⟩,u.2⟩) this
  cases l with
  | int k=>obtain⟨n,h⟩:=h;exact⟨n,a (λ _ h=>h) h _⟩
  | bool=>obtain⟨n,h⟩:=h;exact⟨n,a (λ _ h=>h) h _⟩
  | str=>obtain⟨n,h⟩:=h;exact⟨n,a (λ _ h=>h) h _⟩
  | sl=>obtain⟨A,n,c,h⟩:=h;exact⟨A,n,c,a (λ _ h=>h) h _⟩
  | mp=>obtain⟨n,h⟩:=h;exact⟨n,a (λ _ h=>h) h _⟩
  | val=>obtain⟨n,m,h⟩:=h;exact⟨n,m,a (λ _ h=>h) h _⟩
  | cells=>exact h.elim
  | row i e=>
   obtain⟨r,o,rfl,m,h⟩:=h;exact⟨r,o,rfl,m,a (λ r w=>by grind) h _⟩
end
end
section
variable {b:Heap}{c:Value}
section
variable {P:Program}{Γ:fh}{w0:W0}{w w':World}{H0 H':Heap}{st:St}{a:Act}{ρ:Nat->Nat}{σ:Nat->Value}
def Good.called (j:Good P w0 H0 st a w ρ σ)(q:Below w.heap.size w w')(u:Heap.le st.H b)(m:∀c,c<w.heap.size->∀o,b c o=st.H c o)(S:ct b w')(G:w.drawn<=w'.drawn):
  Good P w0 H0 {st with H:=b} a w' ρ σ:=by
 refine⟨j.defers,j.size,j.fr,⟨q.os.trans j.below.os,q.tape.trans j.below.tape,q.output.trans j.below.output,aax j.below.size q.size,λ k J D=>(q.block k (abY J j.below.size)).trans (j.below.block k J D),aax j.below.drawn G⟩,Heap.le_trans j.le u,λ c y o=>?_,S,λ i f o h=>?_,j.sep,λ d I=>?_,j.sl,λ c x Q=>?_⟩
 rotate_right
 .obtain⟨⟨L,⟨s,K,N⟩,V⟩,O⟩:=j.opn c x Q;have l:=(aaA.1 K).1;exact⟨⟨L,⟨s,(q.block c l).trans K,N⟩,λ t M=>(m c l t).trans (V t M)⟩,O⟩
 .exact(m c (abY (W0.ef y).1 j.below.size) o).trans (j.ef c y o)
 .have C:=j.obj i f o h;have p:=λ g=>j.db (g:=g) h;cases o<;>simp[dj]at C⊢;case box t cs=>
   obtain⟨T,r,v,z,E⟩:=C;have l:=(p _ rfl).1;exact⟨T,(q.block _ l).trans r,v,z,λ o=>(m _ l o).trans (E o)⟩
  case arr t xs=>
   obtain⟨r,v,z,E⟩:=C;have l:=(p _ rfl).1;exact⟨(q.block _ l).trans r,v,z,λ o=>(m _ l o).trans (E o)⟩
  case row e n xs=>
   obtain⟨r,v,z⟩:=C;refine⟨⟨⟨r.row.1,?_⟩,r.nw⟩,v,λ g A o=>(m g (p g A).1 o).trans (z g A o)⟩;rcases r.row.2 with W |⟨g,F,s,U,u,B,R⟩
   .grind
   .exact .inr ⟨g,F,s,U,u,(q.block g (aaA.1 B).1).trans B,R⟩
  grind
 .exact⟨(j.nr d I).fr,(j.nr d I).obj⟩
def nH (ρ:Nat->Nat)(σ:Nat->Value):List SV->G'->Prop
 |[],[]=>True
 | x::xs,v::vs=>x.rel ρ σ v/\nH ρ σ xs vs
 | _,_=>False
def SV.BR {x:SV}{y:Value}(h:x.plain=some c)(a:x.rel ρ σ y):y=c:=by
 cases x with
 | one x=>exact S1.qN h a
 | agg e=>
  obtain⟨d,rfl,a⟩:=a;simp[SV.plain]at h;split at h
  .rename_i g b;simp at h;subst h;have:=fO b a;congr 1;grind
  grind
 | Fh f i=>
  obtain⟨d,rfl,a⟩:=a;simp[SV.plain]at h;split at h
  .rename_i g b;simp at h;subst h;have:=fO b a;congr 1;grind
  grind
 | kz e=>simp[SV.plain]at h
def fX:∀{c:List SV} {a us:G'},kI c=some a->nH ρ σ c us->us=a
 |[],a,us,h,hr=>by
  simp[kI]at h;subst h;cases us with
  | nil=>rfl
  | cons _ _=>exact hr.elim
 | x::c,a,us,h,hr=>by
  cases us with
  | nil=>exact hr.elim
  | cons u us=>
   simp[kI]at h;split at h
   .rename_i v d;split at h
    .rename_i e b;simp at h;subst h;rw[SV.BR d hr.1,fX b hr.2]
    grind
   grind
def ac5 (H:Heap)(w:World)(g:Nat):Heap:=λ b o=>if b=g then(match w.cell? ⟨b,o,none⟩with
 | some v=>if yl v=true then none else some v
 | none=>H b o)else H b o
def BS {g o:Nat}(h:w.cell? ⟨g,o,none⟩=some c)(a:c.oneCell'=true):ac5 b w g g o=some c:=by
 simp[ac5,h,qL a]
def xL (f:ct b w)(g:Nat):Heap.le b (ac5 b w g):=by
 intro a o v c;have h:=f a o v c;unfold ac5;split
 .unfold seen at h;split at h
  .grind
  .obtain⟨j,t,i,e,d⟩:=h;have:w.cell? ⟨a,o,none⟩=none:=by simp[World.cell?,e,d]
   grind
 grind
def BT (e:ct b w)(g:Nat):ct (ac5 b w g) w:=by
 intro a o v c;unfold ac5 at c;by_cases d:a=g
 .rw[if_pos d]at c;cases f:w.cell? _ with
  | none=>rw[f]at c;exact e a o v c
  | some z=>
   by_cases h:yl z=true
   .grind
   .unfold seen;grind
 .rw[if_neg d]at c;exact e a o v c
def mh (st:St)(ρ:Nat->Nat)(σ:Nat->Value)(H H':Heap):Prop:=∀g,(∀i f o,st.L[i]?=some (some (f,o))->dy ρ σ i o≠some g)->∀o,H' g o=H g o
def mh.refl (st:St)(ρ:Nat->Nat)(σ:Nat->Value)(H:Heap):mh st ρ σ H H:=λ _ _ _=>rfl
def mh.trans {st:St}{ρ:Nat->Nat}{σ:Nat->Value}{H b a:Heap}(h:mh st ρ σ H b)(k:mh st ρ σ b a):mh st ρ σ H a:=λ g c o=>(k g c o).trans (h g c o)
def mh.ac5 {st:St}{i:Nat}{f:Bool}{o:bL}{g:Nat}{H:Heap}(b:st.L[i]?=some (some (f,o)))(d:dy ρ σ i o=some g):mh st ρ σ H (ac5 H w g):=by
 intro c a k;have:c≠g:=λ e=>a i f o b (by grind);simp[Vc.ac5,this]
def OZ (w:World)(st:St)(ρ:Nat->Nat)(σ:Nat->Value)(a:S1->Heap->(Value->Heap->Prop)->Prop):Prop:=∀(x:S1) (H:Heap) (K:Value->Heap->Prop) (v:Value),a x H K->ct H w->x.rel ρ σ v->∃H',Heap.le H H'/\ct H' w/\K v H'/\mh st ρ σ H H'
def nI {d:S1->Heap->(Value->Heap->Prop)->Prop}(c:OZ w st ρ σ d):∀{b:List S1} {H:Heap} {K:G'->Heap->Prop} {a:G'},De d b H K->ct H w->bO ρ σ b a->∃H',Heap.le H H'/\ct H' w/\K a H'/\mh st ρ σ H H'
 |[],H,K,a,h,hs,hr=>by
  cases a with
  | nil=>exact⟨H,Heap.le_refl _,hs,h,mh.refl _ _ _ _⟩
  | cons _ _=>exact hr.elim
 | x::b,H,K,a,h,hs,hr=>by
  cases a with
  | nil=>exact hr.elim
  | cons v a=>
   obtain⟨o,l,j,m,k⟩:=c _ _ _ _ h hs hr.1;obtain⟨f,e,g,i,n⟩:=nI c m j hr.2;exact⟨f,Heap.le_trans l e,g,i,k.trans n⟩
def pD (q:Good P w0 H0 st a w ρ σ):∀n:Nat,OZ w st ρ σ (Fl st n)
 | 0=>by
  intro x H K v h m p;unfold Fl at h;split at h
  .rename_i u l;have:=S1.qN l p;subst this;exact⟨H,Heap.le_refl _,m,h,mh.refl _ _ _ _⟩
  grind
 | n+1=>by
  intro x H K v h m p;unfold Fl at h;split at h
  .rename_i i R;split at h
   .rename_i t U A;split at h
    .rename_i y;obtain⟨f,o⟩:=cC A;obtain⟨Z,N,F,V,W⟩:=q.obj _ _ _ o;obtain⟨X,I,z,L,M⟩:=nI (pD q n) h m F;have D:=p;subst D;refine⟨ac5 _ w _,Heap.le_trans I (xL z _),BT z _,L _ _ (xL z _) (.inr ⟨_,0,rfl,λ k u l=>?_⟩),M.trans (mh.ac5 o rfl)⟩;have c:w.cell? ⟨ρ i,k,none⟩=some u:=by
      rw[eD N,<-l];simp
     have b:=kK q.sl y F u (aaJ l);refine⟨?_,b⟩;rw[show 0+0+k=k by simp];exact BS c b
    grind
   grind
  .rename_i i;split at h
   .rename_i e n Y A;obtain⟨f,o⟩:=cC A;obtain⟨j,y,r⟩:=q.obj _ _ _ o;have D:v=σ i:=p;subst D;rcases j.row.2 with⟨d,E⟩ |⟨g,O,Q,d,G,T,B,J,S,C⟩
    .have s:=aal (by rw[j.row.1,E];simp);rw[d];subst E;exact⟨H,Heap.le_refl _,m,h _ 0 H (Heap.le_refl _) (.inl s) (aaB _),mh.refl _ _ _ _⟩
    .rw[d];refine⟨ac5 H w g,xL m _,BT m _,h _ _ _ (xL m _) (.inr ⟨g,0,rfl,λ k u l=>?_⟩) B,mh.ac5 o (by simp[dy];rw[d];rfl)⟩;have c:=qP j d k u l;have b:=y u (aaJ l);refine⟨?_,b⟩;rw[show 0+0+k=k by simp];exact BS c b
   grind
  .split at h
   .rename_i u l;have:=S1.qN l p;subst this;exact⟨H,Heap.le_refl _,m,h,mh.refl _ _ _ _⟩
   grind
def FL (f:Good P w0 H0 st a w ρ σ){x:S1}{K:Value->Heap->Prop}(h:OE st x b K)(e:ct b w)(d:x.rel ρ σ c):∃H',Heap.le b H'/\ct H' w/\K c H'/\mh st ρ σ b H':=pD f 4 _ _ _ _ h e d
def vZ (g:Good P w0 H0 st a w ρ σ){d:List S1}{K:G'->Heap->Prop}{c:G'}(h:OF st d b K)(f:ct b w)(e:bO ρ σ d c):∃H',Heap.le b H'/\ct H' w/\K c H'/\mh st ρ σ b H':=nI (pD g 4) h f e
def FM (g:Good P w0 H0 st a w ρ σ){x:SV}{K:Value->Heap->Prop}(h:Tb st x b K)(e:ct b w)(d:x.rel ρ σ c):∃H',Heap.le b H'/\ct H' w/\K c H'/\mh st ρ σ b H':=by
 cases x with
 | one x=>exact FL g h e d
 | agg k=>
  obtain⟨j,rfl,d⟩:=d;exact vZ g (K:=λ i H'=>K _ _) h e d
 | Fh f l=>
  obtain⟨j,rfl,d⟩:=d;exact vZ g (K:=λ i H'=>K _ _) h e d
 | kz k=>exact h.elim
def pE (d:Good P w0 H0 st a w ρ σ):∀{c:List SV} {H:Heap} {K:G'->Heap->Prop} {b:G'},KG st c H K->ct H w->nH ρ σ c b->∃H',Heap.le H H'/\ct H' w/\K b H'/\mh st ρ σ H H'
 |[],H,K,b,h,hs,hr=>by
  cases b with
  | nil=>exact⟨H,Heap.le_refl _,hs,h,mh.refl _ _ _ _⟩
  | cons _ _=>exact hr.elim
 | x::c,H,K,b,h,hs,hr=>by
  cases b with
  | nil=>exact hr.elim
  | cons v b=>
   obtain⟨o,l,j,m,k⟩:=FM d h hs hr.1;obtain⟨f,e,g,i,n⟩:=pE d m j hr.2;exact⟨f,Heap.le_trans l e,g,i,k.trans n⟩
end
end
section
variable {b:G'}{c:Option Tmp}{d:FuncId}{e:St->Prop}{f:Nat}{g:List aI}
section
variable {P:Program}{Γ:fh}{w0:W0}{w w':World}{H0 H':Heap}{st:St}{a:Act}{ρ:Nat->Nat}{σ:Nat->Value}
def du (P:Program)(w0:W0)(H0:Heap)(st:St)(a:Act)(w:World)(ρ:Nat->Nat)(d:Option Tmp)(f:FuncId)(h:G')(K:St->Prop)(X:Nat->Prop:=Dx):Prop:=
 fN P f/\Calls P f h.toArray w λ e w'=>∃v b c g,e= .returned v/\K b/\au d.toList st b/\Good P w0 H0 b (a.put d v) w' c g/\cF X st b ρ c w w'
def du.pF {i:St}{X:Nat->Prop}(n:au [] st i)(k:cF Dx st i ρ ρ w w)(h:du P w0 H0 i a w ρ c d b e X):du P w0 H0 st a w ρ c d b e X:=by
 refine⟨h.1,Calls.mono h.2 ?_⟩;rintro g w' ⟨v,m,j,l,q,o,s,p,r⟩;exact⟨v,m,j,l,q,o,(n.mono (by simp)).trans s,p,k.any.trans r⟩
def du.any {d:Option Tmp}{f:FuncId}{i:G'}{K:St->Prop}{X:Nat->Prop}(h:du P w0 H0 st a w ρ d f i K):du P w0 H0 st a w ρ d f i K X:=by
 refine⟨h.1,Calls.mono h.2 ?_⟩;rintro e w' ⟨v,g,b,c,l,j,n,k,m⟩;exact⟨v,g,b,c,l,j,n,k,m.any⟩
def BU {k:Nat}:∀{b:List S1} {a p:Nat},posOf k b a=some p->∃m,p=a+m/\b[m]?=some (.own k)
 |[],a,p,h=>by simp[posOf]at h
 | c::b,a,p,h=>by
  have next:posOf k b (a+1)=some p->∃m,p=a+m/\(c::b)[m]?=some (.own k):=λ h=>by
   obtain⟨m,e,d⟩:=BU h;exact⟨m+1,u' (by grind)⟩
  cases c<;>simp[posOf]at h<;>try exact next h
  case own k'=>
   split at h
   .simp_all
   grind
def Pb {d:List S1}{x:SV}{a:BA}{v:Value}(h:TA f d x=some a)(q:x.rel ρ σ v)(A:bO ρ σ d b):v=a.val (ρ f) b:=by
 have o:(match x.plain with
   | some v=>some (BA.v v)
   | none=>none)=some a->v=a.val (ρ f) b:=by
  intro h;split at h
  .rename_i u w;simp at h;subst h;have:kI [x]=some [u]:=by simp[kI,w]
   have:=fX (us:=[v]) this ⟨q,trivial⟩;simpa[BA.val]using this
  grind
 unfold TA at h;split at h
 .split at h
  .rename_i e;subst e;simp at h;subst h;exact q
  grind
 .rename_i k j;split at h
  .rename_i p s;simp at h;subst h;obtain⟨m,B,r⟩:=BU s;obtain rfl:p=m:=by omega
   obtain⟨y,t,l⟩:=Fx A r;obtain⟨g,n,c,z,rfl⟩:=q;have l:y=σ k:=l;rw[z]at l;subst l;simp[BA.val,t]
  grind
 grind
def KP {i:Nat}{a:List S1}{g:G'}(j:bO ρ σ a g):∀{c:List SV} {d:List BA} {f:G'},Vd i a c=some d->nH ρ σ c f->f=d.map (BA.val (ρ i) g)
 |[],d,[],h,_=>by simp[Vd]at h;grind
 | x::c,d,u::f,h,hr=>by
  simp[Vd]at h;split at h
  .rename_i b l;split at h
   .rename_i k e;simp at h;subst h;rw[abq,<-Pb l hr.1 j,<-KP j e hr.2]
   grind
  grind
 |[],_,_::_,_,hr=>hr.elim
 | _::_,_,[],_,hr=>hr.elim
def yL:∀{a:List aI} {b:G'},b.length=a.length->bO ρ σ (a.map λ _=>S1.any) b
 |[],[],_=>trivial
 | _::a,_::b,h=>⟨trivial,yL (by grind)⟩
 |[],_::_,h=>by grind
 | _::_,[],h=>by grind
def FN:¬dI f (g.map λ _=>S1.any):=by
 rintro⟨c,a,b⟩;obtain⟨_,_,rfl⟩:=aaO.1 a;exact b
def KQ {k:St}(hg:Good P w0 H0 k a w' ρ σ){t:TypeId}{R:Type}{s:bz g R}{K:List S1->St->R->Prop}{U:G'->List cP->R->Prop}{G:List cP}{O:aU}
  (hL:k.L[f]?=some (some (true,.box t (g.map λ _=>S1.any)))) (Y:k.O=O) (J:w'.heap[ρ f]?=some (.cells ⟨b⟩ t (0,0)))
  (hK:nt g s k K) (Q:vT g s G λ I T q=>I=b/\U I T q) (v:∀r∈G,jX P w0 w' k.H r) (M:bg G) (C:yK k ρ σ G):
  ∃(y:List S1) (l:St) (q:R) (m:List cP) (n:Nat->Value),K y l q/\U b m q/\Good P w0 H0 (Vc.aq l f (.box t y)) a w' ρ n/\au [] k l/\jo l y/\(∀d:Nat,l.L[d]?=some none->k.L[d]?=some none)/\Carry k σ n/\l.H=k.H/\FI k l/\
   (∀r∈m,jX P w0 w' l.H r)/\bg m/\yK (Vc.aq l f (.box t y)) ρ n m/\l.L[f]?=k.L[f]?:=by
 obtain⟨y,l,q,m,I,n,X,⟨rfl,k2⟩,F,k4,k5,W,k7,Z,k9,D,N,S,w⟩:=nG hg hK Q v M C;have A:=D f (by grind);have p:=A.trans hL;have z:=(aap.1 p).1;obtain⟨a0,o1,o2,o3,o4⟩:=F.obj _ _ _ p;have u:=by
  refine F.OY z J k4 o3 o4 (F.dG p rfl) (λ j c o x h E=>?_) W;exact F.sep j f _ _ _ _ _ x h p E rfl
 refine⟨y,l,q,m,n,X,k2,u,k5,W,k7,Z,k9,D,N,S,⟨λ r V j c o e x E=>?_,w.2⟩,A⟩;by_cases B:j=f
 .subst B;simp[Vc.aq]at x;rw[bD z]at x;obtain⟨_,rfl⟩:=x;exact w.1 r V j _ _ e p E
 .rw[al B]at x;exact w.1 r V j c o e x E
def FO (I:Good P w0 H0 st a w ρ σ){sh:cj}{X:List SV}(c3:nH ρ σ X b)(h:OH P g sh st c d X e):
  du P w0 H0 st a w ρ c d b e (λ j=>pj X=some j):=by
 unfold OH at h;split at h
 .grind
 .rename_i i d7;split at h
  .rename_i t e5 hW;split at h
   .grind
   .rename_i e0 b6;split at h
    .grind
    .rename_i a9 z a7;obtain⟨d8,hc,hK⟩:=h;have hL:=aT hW;obtain⟨ys,b1,b2,b3,b4⟩:=I.obj _ _ _ hL;have G:=gT I.obj b2;obtain⟨t1,t2,t3,t4⟩:=pC I a7 G;have a3:i<z.L.length:=by rw[t1.ll];grind
     have hk:=t1.Vp.set hL;have a6:bj (Vc.aq z i .dead) i:=by simp[bj,Vc.aq];grind
     have A:∀r∈dN a9 ys.toList,∀m,r.s.ownBlock=some m->∃(k:Nat) (l:TypeId) (n:Nat) (xs:List _),st.L[k]?=some (some (true,.row l n xs))/\bj (Vc.aq z i .dead) k/\(σ k).ownBlock=some m/\k≠i:=by
      intro r F m D;obtain⟨k,l,n,xs,M,T,J⟩:=(t3.each r F).2 m D;have N:k≠i:=by grind
      exact⟨k,l,n,xs,M,by simp[bj,Vc.aq];rw[aaK (abu N)];exact T,J,N⟩
     have E:∀u,Names (some (ρ i)) (dN a9 ys.toList) st.O u->pB ρ σ st (Vc.aq z i .dead) u:=by
      rintro u (l |⟨r,F,D⟩ | Q)
      .cases l;exact .inl ⟨i,_,hL,a6,rfl⟩
      .obtain⟨k,l,n,xs,M,T,J,_⟩:=A r F u D;exact .inl ⟨k,_,M,T,J⟩
      .exact .inr Q
     have c9:Iz P w st.H (ρ i) t ys.toList (dN a9 ys.toList) st.O:=by
      refine⟨b1,b4,λ r F=>?_,λ r F D=>?_,t3.apart,λ u x Q=>?_,λ u Q=>⟨?_,λ r F D=>?_⟩⟩
      .obtain⟨M,T,J⟩:=(t3.each r F).1;exact⟨M.row,T,J⟩
      .obtain⟨k,l,n,xs,M,T,J,N⟩:=A r F _ D;exact I.sep k i _ _ _ _ _ N M hL J rfl
      .exact(I.opn u x Q).1.2
      .rintro rfl;exact Q (I.dG hL rfl)
      .obtain⟨k,l,n,xs,M,T,J,N⟩:=A r F _ D;exact Q (I.dG M J)
     have d4:=KP G b6 c3;refine⟨hc.1,?_⟩;have R:=hc.2 w _ _ I.snap t2 c9;rw[<-d4]at R;refine Calls.mono R ?_;rintro e' w' ⟨v,H',V,c1,nr,rfl,c4,a0,a8,c2,c7,y,Y⟩;have B:=λ u W=>(Y u W).imp id (E u);have Z:=I.DA hk (a0.mono E) a8 (λ u W hn=>c2 u W λ S=>hn (E u S)) c7 (λ u x Q=>⟨(y.opn u x Q).1,(y.opn u x Q).2,B u (.inr (.inr (by grind)))⟩);have b7:c1.length=g.length:=by
      have:=KO c4;grind
     have a5:Good P w0 H0 {Vc.aq z i (.box t (g.map λ _=>S1.any))with H:=H',O:=V} a w' ρ σ:=by
      have:=Z.OY (i:=i) (t:=t) (cs:=g.map _) (ys:=c1) (by simpa[Vc.aq]using a3) y.box (yL b7) b3 y.hid ?_ (λ j d o hj h W=>?_) (λ c _=>FN)
      .have l:Vc.aq {Vc.aq z i .dead with H:=H',O:=V} i (.box t (g.map λ _=>S1.any))={Vc.aq z i (.box t (g.map λ _=>S1.any))with H:=H',O:=V}:=by simp[Vc.aq]
       grind
      .show V _=none;rcases Q:V _ with _ | x
       .rfl
       .exact absurd rfl (y.opn2 _ (by grind)).1
      .exact(hk.FK I h W).2 (E _ (.inl rfl))
     have b0:∀r∈nr,jX P _ _ _ r:=λ r F=>by
      obtain⟨M,T,J⟩:=y.rows r F;refine⟨⟨M,λ m D=>?_⟩,T,J⟩;rcases B m (.inr (.inl ⟨r,F,D⟩))with U | U
      .exact .inl (aax I.below.size U)
      .exact U.nw I
     have c8:({Vc.aq z i (.box t (g.map λ _=>S1.any))with H:=H',O:=V}:St).L[i]?=some (some (true,.box t (g.map λ _=>S1.any))):=by
      simp[Vc.aq];grind
     have b8:yK {Vc.aq z i (.box t (g.map λ _=>S1.any))with H:=H',O:=V} ρ σ nr:=by
      refine⟨λ r F j d o m hj W S=>?_,λ r F m S=>?_⟩
      .by_cases C:j=i
       .subst C;simp[Vc.aq]at hj;rw[bD a3]at hj;obtain⟨_,rfl⟩:=hj;simp[dy]at W;subst W;exact y.ne r F S
       .have d5:(Vc.aq z i .dead).L[j]?=some (some (d,o)):=by
         rw[al C]at hj⊢;grind
        obtain⟨a1,a2⟩:=hk.FK I d5 W;rcases B m (.inr (.inl ⟨r,F,S⟩))with U | U
        .omega
        grind
      .show V m=none;rcases Q:V m with _ | x
       .rfl
       .exact absurd S ((y.opn2 m (by grind)).2 r F)
     obtain⟨cs,b9,q,f1,f0,k1,k2,k3,k5,k6,k7,k8,k9,d2,d0,d1,d6,e8⟩:=KQ a5 c8 rfl y.box (hK _ a8 _) c4 b0 y.apart b8;obtain⟨r,e6,p,e9,d9,c5,j1,⟨_,j2,j3⟩,j4,j5,j6,j7,j8,j9,e7,d3⟩:=kN k3 k1 k2 d0 d1 d6;obtain⟨b5,i1,i2,i3,i4⟩:=lF j4 (j1 j3) j5 j7 j2;have c6:au [] st {Vc.aq z i (.box t (g.map λ _=>S1.any))with H:=H',O:=V}:=by
      refine⟨by show z.fr.length=_;rw[t1.fr],by simp[Vc.aq,t1.ll],λ j _=>by show z.fr[j]?=_;rw[t1.fr],λ j o hj=>?_,a8⟩;have C:j≠i:=by grind
      rw[al C];exact t1.ro hj
     have c0:au _ b9 (Vc.aq _ i (.box t cs)):=au.aq λ o' S=>by grind
     have a4:∀(j:Nat) (d:Bool) (o:bL),st.L[j]?=some (some (d,o))->nE o=true->¬pj X=some j->j≠i/\(Vc.aq z i .dead).L[j]?=some (some (d,o))/\b5.L[j]?=some (some (d,o)):=by
      intro j d o U h2 hx;have C:j≠i:=by grind
      have e1:=t1.box U (λ l n xs S=>by subst S;simp[nE]at h2);have e2:(Vc.aq z i (.box t (g.map λ _=>S1.any))).L[j]?=some (some (d,o)):=by rw[al C];grind
      have e3:=(d2 j (by grind)).trans e2;have e4:(Vc.aq b9 i (.box t cs)).L[j]?=some (some (d,o)):=by rw[al C];grind
      exact⟨C,by rw[al C];grind,by rw[i4,d3 j (by grind)];grind⟩
     refine⟨v,b5,ρ,c5,rfl,i1,((((c6.trans k5).trans c0).trans j6).mono (by simp)).trans i2,i3,λ j d o U h2 hx=>⟨d,(a4 j d o U h2 hx).2.2⟩,λ _ _ _ _ _ _=>rfl,λ j d o U h2 hx=>?_⟩;obtain⟨M,T,J⟩:=a4 j d o U h2 hx;obtain⟨a1,a2⟩:=hk.FK I T (iE (σ:=σ) h2);exact a0.block _ a1 λ S=>a2 (E _ S)
  grind
def IP (C:Good P w0 H0 st a w ρ σ){X:cj}(h:Ve P X st c d b e):du P w0 H0 st a w ρ c d b e:=by
 obtain⟨R,z,Z⟩:=h;refine⟨z.1,Calls.mono (z.2 w C.snap λ j x y=>(C.opn j x y).1.2) ?_⟩;rintro e' w' ⟨v,H',N,rfl,G,p,u,A,D,B,n⟩;have M:=mE.refl st;have l:∀j,Names none [] st.O j->pB ρ σ st st j:=by
  rintro j (g |⟨r,hr,_⟩ | y)
  .grind
  .grind
  .exact .inr y
 have m:∀k,N k≠none->w.heap.size<=k\/pB ρ σ _ st k:=λ k z=>(n k z).imp id λ h=> .inr h;have s:=C.DA M (p.mono l) u (λ k z hn=>A k z λ F=>hn (l k F)) D (λ k x y=>⟨(B k x y).1,(B k x y).2,m k (by grind)⟩);obtain⟨r,a3,q,a4,us,I,S,⟨_,k2,Y⟩,k4,k5,k6,V,k8,k9,a0,J⟩:=kN (nr:=[]) s (Z _ u _) G (by simp) List.Pairwise.nil (N' (by simp));obtain⟨E,T,j2,U,W⟩:=lF k4 (S Y) k5 V k2;have t:au [] st {st with H:=H',O:=N}:=⟨rfl,rfl,λ _ _=>rfl,λ _ _ h=>h,u⟩;refine⟨v,E,ρ,I,rfl,T,((t.trans k6).mono (by simp)).trans j2,U,λ i d o Q L _=>⟨d,?_⟩,λ _ _ _ _ _ _=>rfl,λ i d o Q L _=>?_⟩
 .rw[W,J i (by grind)];grind
 .obtain⟨a1,a2⟩:=M.FK C Q (iE (σ:=σ) L);exact p.block _ a1 λ F=>a2 (l _ F)
end
end
section
variable {b:Option Tmp}{c:St->Prop}{d:G'}{e:cj}{f:FuncId}{g:Heap}
section
variable {P:Program}{Γ:fh}{w0:W0}{w w':World}{H0 H':Heap}{st:St}{a:Act}{ρ:Nat->Nat}{σ:Nat->Value}
def FP (F:Good P w0 H0 st a w ρ σ){H' p:Heap}{u:bo e.parts (Heap->Prop)}{v:Value}{I:List cP}
  (m:KF w w' g H') (y:Heap.le st.H g) (J:Fits e u v H' I) (n:∀r∈I,Dd P w w' H' r) (S:bg I)
  (A:p=H'/\(∀k,k<w.heap.size->∀o,H' k o=st.H k o)\/p=st.H)
  (hK:AQ e.parts u {st with H:=p} λ r l q=>q H'->rK e b r l c):
  ∃l E D,c l/\au b.toList st l/\Good P w0 H0 l (a.put b v) w' E D/\cF Dx st l ρ E w w':=by
 have s:Heap.le st.H p:=by
  rcases A with⟨rfl,_⟩ | rfl
  .exact Heap.le_trans y m.le
  .exact Heap.le_refl _
 have t:Heap.le p H':=by
  rcases A with⟨rfl,_⟩ | rfl
  .exact Heap.le_refl _
  .exact Heap.le_trans y m.le
 have B:=by
  refine F.called m.below s ?_ ?_ m.drawn
  .grind
  .exact λ k o v hv=>m.snap k o v (t k o v hv)
 have Q:∀r∈I,jX P _ _ p r:=λ r M=>by
  obtain⟨V,q2,q3⟩:=n r M;refine⟨⟨iZ V,λ j N=> .inl (aax F.below.size (V.lt j N).1)⟩,q2,λ j N o=>?_⟩;cases L:p j o with
  | none=>rfl
  | some z=>have:=t j o z L;grind
 have G:yK {st with H:=p} ρ σ I:=by
  refine⟨λ r M i f o j hi hb L=>?_,λ r M j L=>?_⟩
  .have T:=(F.db hi hb).1;have A:=((n r M).1.lt j L).1;omega
  .have A:=((n r M).1.lt j L).1;cases hO:st.O j with
   | none=>rfl
   | some x=>
    obtain⟨⟨_,⟨a1,W,_⟩,_⟩,_⟩:=F.opn j x hO;grind
 obtain⟨r,l,q,a2,us,D,X,⟨_,W,k3⟩,k4,k5,k6,k7,k8,k9,a0,U⟩:=kN B hK J Q S G;obtain⟨R,Y,j2,Z,j4⟩:=lF k4 (X k3) k5 k7 W;have C:au [] st {st with H:=p}:=⟨rfl,rfl,λ _ _=>rfl,λ _ _ h=>h,s⟩;refine⟨R,ρ,D,Y,((C.trans k6).mono (by simp)).trans j2,Z,λ i f o T A _=>⟨f,?_⟩,λ _ _ _ _ _ _=>rfl,λ i f o T A _=>?_⟩
 .rw[j4,U i (by grind)];grind
 .exact m.below.block _ (F.db T (iE (σ:=σ) A)).1
def rP (m:Good P w0 H0 st a w ρ σ)(h:Df P e st b f d c):du P w0 H0 st a w ρ b f d c:=by
 obtain⟨n,o,q⟩:=h;refine⟨o.1,Calls.mono (o.2 w m.snap) ?_⟩;rintro g w' ⟨v,H',x,rfl,k,i,j,l⟩;obtain⟨r,p,s,t,y,u,z⟩:=FP m i (Heap.le_refl _) k j l (.inl ⟨rfl,i.ef⟩) (q _ i.le);grind
def Good.KR (c:Good P w0 H0 st a w ρ σ){i:Nat}{e:TypeId}{n:Nat}{xs:G'}(hW:gK st i=some (.row e n xs))(J:bL)(B:OB w w' (σ i).ownBlock){H':Heap}(M:Heap.le st.H H')
  (m:∀b,b<w.heap.size->(σ i).ownBlock≠some b->∀o,H' b o=st.H b o) (hs:ct H' w') (a1:dj P w0 w' H' ρ σ i J) (y:J= .dead\/∃U,J= .row e n U):Good P w0 H0 {Vc.aq st i J with H:=H'} a w' ρ σ:=by
 have N:=aT hW;have W:=(c.obj _ _ _ N).1;have Q:=λ k v=>(W.lt k v).1;have z:∀g,dy ρ σ i J=some g->dy ρ σ i (.row e n xs)=some g:=by
  intro g h;rcases y with rfl |⟨U,rfl⟩
  .simp[dy]at h
  .exact h
 have s:∀j,(Vc.aq st i J).L[j]?=if i=j then some (some (true,J))else st.L[j]?:=by
  intro j;by_cases p:i=j
  .simp[Vc.aq];grind
  .simp[Vc.aq];grind
 have F:∀j f o g,i≠j->st.L[j]?=some (some (f,o))->dy _ _ j o=some g->(σ i).ownBlock≠some g:=λ j f o g q p u r=>c.sep i j _ _ _ _ g q N p r u;refine⟨c.defers,c.size,c.fr,⟨B.os.trans c.below.os,B.tape.trans c.below.tape,B.output.trans c.below.output,aax c.below.size B.size,λ k v F=>?_,aax c.below.drawn B.drawn⟩,Heap.le_trans c.le M,λ b I o=>?_,hs,λ j f o h=>?_,λ j k f f' o o2 g C p v u E=>?_,λ d X=>?_,c.sl,λ b x hO=>?_⟩
 rotate_right
 .obtain⟨⟨k1,⟨G,k2,k3⟩,k4⟩,k5⟩:=c.opn b x hO;have l:=(aaA.1 k2).1;refine⟨⟨k1,⟨G,(B.block b l (λ r=>k5 i _ _ N r)).trans k2,k3⟩,λ t ht=>(m b l (λ r=>k5 i _ _ N r) t).trans (k4 t ht)⟩,λ j f o p=>?_⟩;grind
 .refine(B.block k (abY v c.below.size) λ r=>?_).trans (c.below.block k v F);rcases Q k r with D | D
  .omega
  grind
 .exact(m b (abY (W0.ef I).1 c.below.size) (λ r=>I (Q b r)) o).trans (c.ef b I o)
 .rw[s]at h;by_cases q:i=j
  .grind
  .rw[if_neg q]at h;have Y:=c.obj j f o h;have A:=λ g=>c.db (g:=g) h;have O:=λ g=>F j f o g q h;cases o<;>simp[dj]at Y⊢;case box t cs=>
    obtain⟨U,D,R,T,Z⟩:=Y;have l:=(A _ rfl).1;exact⟨U,(B.block _ l (O _ rfl)).trans D,R,T,λ o=>(m _ l (O _ rfl) o).trans (Z o)⟩
   case arr t xs=>
    obtain⟨D,R,T,Z⟩:=Y;have l:=(A _ rfl).1;exact⟨(B.block _ l (O _ rfl)).trans D,R,T,λ o=>(m _ l (O _ rfl) o).trans (Z o)⟩
   case row e n xs=>
    obtain⟨D,R,T⟩:=Y;refine⟨⟨⟨D.row.1,?_⟩,D.nw⟩,R,λ g K o=>(m g (A g K).1 (O g K) o).trans (T g K o)⟩;rcases D.row.2 with r |⟨g,a0,G,hv,M,V,hr⟩
    .grind
    .exact .inr ⟨g,a0,G,hv,M,(B.block g (aaA.1 V).1 (O g (by show(σ j).ownBlock=some g;rw[hv];rfl))).trans V,hr⟩
   grind
 .rw[s]at p v;by_cases q:i=j
  .subst q;rw[if_neg C]at v;simp at p;rw[<-p.2]at u;exact c.sep i k _ _ _ _ g C N v (z g u) E
  .rw[if_neg q]at p;by_cases S:i=k
   .subst S;simp at v;rw[<-v.2]at E;exact c.sep j i _ _ _ _ g C p N u (z g E)
   .rw[if_neg S]at v;exact c.sep j k _ _ _ _ g C p v u E
 .rw[s]at X;split at X
  .grind
  .refine⟨(c.nr d X).fr,λ j f o p=>?_⟩;rw[s]at p;split at p
   .simp at p;rw[<-p.2];rcases y with rfl |⟨U,rfl⟩
    .exact λ r=>r
    .exact λ r=>r
   .exact(c.nr d X).obj j f o p
def yM:∀{b:List SV} {c k i:Nat},yp b c=some (k,i)->∃m,k=c+m/\b[m]?=some (.one (.own i))
 | x::xs,c,k,i,h=>by
  unfold yp at h;split at h
  .simp at h
  .rename_i a;simp at a h;obtain⟨rfl,rfl⟩:=a;exact⟨0,u' (by simp[h.2])⟩
  .rename_i a;simp at a;obtain⟨rfl,rfl⟩:=a;obtain⟨m,e,d⟩:=yM h;exact⟨m+1,u' (by simpa using d)⟩
def FQ:∀{a:List SV} {b:G'} {m:Nat} {x:SV} {v:Value},nH ρ σ a b->x.rel ρ σ v->nH ρ σ (a.set m x) (b.set m v)
 |[],[],_,_,_,h,_=>h
 | _::_,_::_,0,_,_,h,hx=>⟨hx,h.2⟩
 | _::_,_::_,m+1,_,_,h,hx=>⟨h.1,FQ h.2 hx⟩
def FR:∀{a:List SV} {b:G'} {m:Nat} {x:SV},nH ρ σ a b->a[m]?=some x->∃v,b[m]?=some v/\x.rel ρ σ v
 | _::_,v::_,0,_,h,e=>by simp at e;subst e;exact⟨v,rfl,h.1⟩
 | _::_,_::_,m+1,_,h,e=>by
  obtain⟨v,d,c⟩:=FR (m:=m) h.2 (by simpa using e);grind
def KS (C:Good P w0 H0 st a w ρ σ){i:Nat}{k:TypeId}{n:Nat}{Z:G'}(hW:gK st i=some (.row k n d)){m:Bool}{H1 H' D:Heap}{R:bo e.parts (Heap->Prop)}{v:Value}{nr:List cP}
  (B:bV w w' H1 H' (σ i).ownBlock) (Q:Heap.le st.H H1) (a3:Fits e R v H' nr) (t:m=true->fH P w' 0 H' ⟨σ i,k,n,Z⟩)
  (I:∀r∈nr,fH P w' 0 H' r/\∀g,r.s.ownBlock=some g->w.heap.size<=g\/(m=false/\(σ i).ownBlock=some g)) (a7:bg nr) (p:(H1=st.H/\D=H')\/D=st.H)
  (hK:AQ e.parts R {Vc.aq st i (if m then .row k n Z else .dead)with H:=D} λ r y q=>q H'->rK e b r y c):
  ∃y a1 X,c y/\au b.toList st y/\Good P w0 H0 y (a.put b v) w' a1 X/\cF Dx st y ρ a1 w w':=by
 have V:=aT hW;have N:=C.obj _ _ _ V;have J:Heap.le st.H D:=by
  rcases p with⟨_,rfl⟩ | rfl
  .exact Heap.le_trans Q B.le
  .exact Heap.le_refl _
 have M:Heap.le D H':=by
  rcases p with⟨_,rfl⟩ | rfl
  .exact Heap.le_refl _
  .exact Heap.le_trans Q B.le
 have W:∀l,l<w.heap.size->(σ i).ownBlock≠some l->∀o,D l o=st.H l o:=by
  rcases p with⟨rfl,rfl⟩ | rfl
  .exact B.ef
  simp
 have E:∀{g o:Nat},H' g o=none->D g o=none:=by
  intro g o h;cases U:D g o with
  | none=>rfl
  | some z=>rw[M g o z U]at h;grind
 have S:Good P w0 H0 {Vc.aq st i (if m then .row k n Z else .dead)with H:=D} a w' ρ σ:=by
  refine C.KR hW _ B.below J W (λ l o u hu=>B.snap l o u (M l o u hu)) ?_ ?_
  .cases m with
   | true=>exact⟨⟨(t rfl).1,N.1.nw⟩,(t rfl).2.1,λ g C o=>E ((t rfl).2.2 g C o)⟩
   | false=>trivial
  grind
 have a4:∀r∈nr,jX P _ _ D r:=λ r hr=>by
  obtain⟨⟨q1,q2,q3⟩,q4⟩:=I r hr;exact⟨⟨q1,λ g Y=>by
   rcases q4 g Y with h |⟨_,h⟩
   .exact .inl (aax C.below.size h)
   .exact N.1.nw g h⟩,q2,λ g Y o=>E (q3 g Y o)⟩
 have a2:∀(o':bL) (j:Nat),(Vc.aq st i o').L[j]?=if i=j then some (some (true,o'))else st.L[j]?:=by
  intro o' j;by_cases T:i=j
  .simp[Vc.aq];grind
  .simp[Vc.aq];grind
 have a0:yK {Vc.aq st i (if m then .row k n Z else .dead)with H:=D} ρ σ nr:=by
  refine⟨λ r hr j f o g T hb U=>?_,λ r hr g U=>?_⟩
  rotate_left
  .obtain⟨_,F⟩:=I r hr;rcases F g U with p |⟨_,p⟩
   .show st.O g=none;cases hO:st.O g with
    | none=>rfl
    | some x=>
     obtain⟨⟨_,⟨a9,k2,_⟩,_⟩,_⟩:=C.opn g x hO;grind
   .exact C.dG V p
  rw[a2]at T;obtain⟨_,F⟩:=I r hr;by_cases A:i=j
  .subst A;simp at T;rw[<-T.2]at hb;cases m with
   | true=>
    have G:=(C.db V (g:=g) hb).1;grind
   | false=>simp[dy]at hb
  .rw[if_neg A]at T;rcases F g U with p |⟨_,p⟩
   .have G:=(C.db T hb).1;omega
   .exact C.sep i j _ _ _ _ g A V T p hb
 obtain⟨r,y,q,b0,vs,X,k1,⟨_,k2,k3⟩,k4,k5,k6,k7,k8,k9,b1,a8⟩:=kN S hK a3 a4 a7 a0;obtain⟨a6,j1,j2,j3,j4⟩:=lF k4 (k1 k3) k5 k7 k2;have a5:au [] st {Vc.aq st i (if m then .row k n Z else .dead)with H:=D}:=by
  have:=au.uD (o:=if m then .row k n Z else .dead) hW;exact⟨this.fl,this.ll,this.fr,this.ro,J⟩
 refine⟨a6,ρ,X,j1,((a5.trans k6).mono (by simp)).trans j2,j3,λ j f o G p _=>⟨f,?_⟩,λ _ _ _ _ _ _=>rfl,λ j f o G p _=>?_⟩
 .have A:i≠j:=by
   intro e0;subst e0;rw[V]at G;simp at G;rw[<-G.2]at p;simp[nE]at p
  rw[j4,a8 j (by grind)];grind
 .have A:i≠j:=by
   intro e0;subst e0;rw[V]at G;simp at G;rw[<-G.2]at p;simp[nE]at p
  refine B.below.block _ (C.db G (iE (σ:=σ) p)).1 λ U=>?_;exact C.sep i j _ _ _ _ _ A V G U (iE (σ:=σ) p)
def wa (z:Good P w0 H0 st a w ρ σ){ln:Bool}{D:List SV}{N:Bool}(A:nH ρ σ D d)(h:KH P ln e st b f D N c):du P w0 H0 st a w ρ b f d c:=by
 unfold KH at h;split at h
 .grind
 .rename_i k i J;split at h
  .rename_i l n xs R;obtain⟨m,hm,O⟩:=yM J;obtain rfl:k=m:=by omega
   obtain⟨u,U,V⟩:=FR A O;have hu:u=σ i:=V;subst hu;have hL:=aT R;have S:=(aap.1 hL).1;have q:=z.obj _ _ _ hL;have G:(d.set k (.slice none 0 0)).set k (σ i)=d:=by
    obtain⟨hk,e1⟩:=aap.1 U;rw[<-e1];simp
   have s:nH _ _ (D.set k (.one (.v (.slice none 0 0)))) _:=FQ A rfl;split at h
   .split at h
    .obtain⟨M,hl,Y⟩:=h;have C:Good P _ _ (Vc.aq st i _) a w _ _:=z.KR R .dead ⟨rfl,rfl,rfl,aaB _,λ _ _ _=>rfl,aaB _⟩ (Heap.le_refl _) (λ _ _ _ _=>rfl) z.snap trivial (.inl rfl);obtain⟨H1,a2,hs,Q,F⟩:=pE C hl z.snap s;refine⟨Q.1,?_⟩;have p:=Q.2 w 0 _ hs (abi _) ⟨q.1.row,q.2.1,λ g L o=>by
      rw[F g (λ j f o H W=>?_)]
      .exact q.2.2 g L o
      .by_cases B:i=j
       .subst B;simp[Vc.aq]at H;rw[bD S]at H;simp at H;rw[<-H.2]at W;simp[dy]at W
       .simp[Vc.aq]at H;rw[aaK B]at H;exact z.sep j i _ _ _ _ g (abu B) H hL W L⟩
     rw[G]at p;refine Calls.mono p ?_;rintro e' w' ⟨v,H',nr,ys,rfl,x,y,r,t,E⟩;obtain⟨a0,T,a1,k1,k2,k3,k4⟩:=KS z R y a2 x r t E (.inr rfl) (Y _ _);grind
    grind
   .rename_i I hv;obtain⟨M,Q,Y⟩:=h;have X:=fX hv s;have Z:I.set k (σ i)=d:=by grind
    refine⟨Q.1,?_⟩;have p:=Q.2 w 0 _ z.snap (abi _) ⟨q.1.row,q.2.1,q.2.2⟩;rw[Z]at p;refine Calls.mono p ?_;rintro e' w' ⟨v,H',nr,ys,rfl,x,y,r,t,E⟩;obtain⟨a0,T,a1,k1,k2,k3,k4⟩:=KS z R y (Heap.le_refl _) x r t E (.inl ⟨rfl,rfl⟩) (Y _ y.le _);grind
  grind
def du.Vq {X Y:Nat->Prop}(h:du P w0 H0 st a w ρ b f d c X)(q:∀i,X i->Y i):du P w0 H0 st a w ρ b f d c Y:=by
 refine⟨h.1,Calls.mono h.2 ?_⟩;rintro e w' ⟨v,k,g,j,n,l,p,m,o⟩;exact⟨v,k,g,j,n,l,p,m,o.mono q⟩
def ZA (c:fI)(st:St)(d:Option Tmp)(f:FuncId)(b:St->Option (List SV))(j:Nat):Prop:=∃a e,b st=some a/\c.bx d f=some e/\pj a=some j
def tG (m:Good P w0 H0 st a w ρ σ){G:fI}{t:TypeId}{n:St->Option (List SV)}
  (g:∀k,Good P w0 H0 k a w ρ σ->∀p,n k=some p->nH ρ σ p d) (h:Dg P Γ G t st b f n c):du P w0 H0 st a w ρ b f d c (ZA G st b f n):=by
 unfold Dg at h;split at h
 .grind
 rename_i p q;split at h
 .rename_i L C;obtain⟨k,l,x,o,u⟩:=bM m h;split at l
  .grind
  .rename_i s i;split at l
   .rename_i B;exact(du.pF x u (FO o (g _ o _ i) l)).Vq λ j R=>⟨p,L,q,C,B▸R⟩
   grind
 refine du.any ?_;split at h
 .obtain⟨k,l,x,o,u⟩:=bM m h;split at l
  .grind
  .rename_i s i;split at l
   .rename_i r A;have:=fX A (g _ o _ i);subst this;exact du.pF x u (IP o l)
   grind
 .split at h
  .rename_i r A;have:=fX A (g _ m _ q);subst this;exact rP m h
  .split at h
   .split at h
    .exact wa m (g _ m _ q) h
    .obtain⟨k,l,x,o,u⟩:=bM m h;split at l
     .grind
     .rename_i s i;exact du.pF x u (wa o (g _ o _ i) l)
   split at h
   .obtain⟨H,N,M⟩:=h;obtain⟨V,F,O,I,_⟩:=pE m N m.snap (g _ m _ q);refine⟨I.1,Calls.mono (I.2 w O) ?_⟩;rintro e w' ⟨v,H',U,rfl,z,E,y,D⟩;obtain⟨k,J,Q,S,W,T,X⟩:=FP m E F z y D (.inr rfl) (M _);grind
   .obtain⟨k,l,x,o,u⟩:=bM m h;split at l
    .grind
    .rename_i s i;split at l
     .rename_i r A;have:=fX A (g _ o _ i);subst this;exact du.pF x u (rP o l)
     grind
end
end
section
variable {b l:Value}{c i:TypeId}{d:Option Tmp}{e:String}{f:Array Edge}{g:Option (Nat×Bool)}{h:St->Prop}{j:Bool}{k:Operand}{m:List MapEntry}{n:List S1}
section
variable {P:Program}{Γ:fh}{w0:W0}{w w':World}{H0 H':Heap}{st:St}{a:Act}{ρ:Nat->Nat}{σ:Nat->Value}{an:fI}
def Vr (a b:ByteArray):(a==b)=decide (a=b):=by
 rw[aaH];obtain⟨a⟩:=a;obtain⟨b⟩:=b;show(a==b)=true↔_;simp
def gV (a:List MapEntry):List (Value×Value):=a.map λ e=>(e.key,e.val)
def Mk:TypeDesc->Value->Prop
 | .int _,.int _ _=>True
 | .string,.string _=>True
 | _,_=>False
def FT {a:List (Value×Value)}{p:Value×Value}(h:p∈fL a b l):p∈a\/p=(b,l):=by
 induction a with
 | nil=>simp[fL]at h;grind
 | cons q a c=>
  simp[fL]at h;grind
def findNow_spec {D:TypeDesc}{k:Value}(g:Mk D k):∀(d:List MapEntry) (i:Nat),(∀e∈d,Mk D e.key/\∀q a n b,k= .int q a->e.key= .int n b->q=n)->
  ∃r,Instr.findNow D k d i=some r/\((r=none/\∀e∈d,cK k e.key=false)\/∃j e,r=some (i+j,e.val)/\d[j]?=some e/\cK k e.key=true/\∀l∈d.take j,cK k l.key=false)
 |[],i,_=>⟨none,rfl,.inl ⟨rfl,λ e h=>by grind⟩⟩
 | e::d,i,h=>by
  obtain⟨m,f⟩:=h e (by simp);have w:Instr.sameNow D k e.key=some (cK k e.key):=by
   revert g m f;cases D<;>cases k<;>simp only[Mk]<;>(try exact λ g=>g.elim)<;>cases e.key<;>simp only[Mk]<;>intro _ m f<;>first | exact m.elim | skip
   .simp[Instr.sameNow,cK];grind
   .simp[Instr.sameNow,cK,Vr]
  unfold Instr.findNow;rw[w];cases p:cK k e.key with
  | true=>exact⟨_,rfl,.inr ⟨0,e,by rfl,rfl,p,by simp⟩⟩
  | false=>
   obtain⟨r,u,c⟩:=findNow_spec g d _ λ l t=>h _ (by grind);refine⟨r,u,?_⟩;rcases c with⟨o,v⟩ |⟨j,l,o,v,s,y⟩
   .grind
   .refine .inr ⟨j+1,l,U' ⟨s,λ x z=>?_⟩⟩;grind
def yN (h:∀e∈m,cK b e.key=false):cH (gV m) b=none/\th (gV m) b=false/\∀v,fL (gV m) b v=gV m++[(b,v)]:=by
 induction m with
 | nil=>exact⟨rfl,rfl,λ v=>rfl⟩
 | cons e m a=>
  obtain⟨f,d,c⟩:=a λ x g=>h x (by grind);refine⟨?_,?_,λ v=>?_⟩
  .simp[cH,gV];grind
  .simp[th,gV];grind
  .simp[gV,fL]at c⊢;grind
def yO {j:Nat}{e:MapEntry}(c:m[j]?=some e)(a:cK b e.key=true)(d:∀x∈m.take j,cK b x.key=false):
  cH (gV m) b=some e.val/\th (gV m) b=true/\∀v,fL (gV m) b v=(gV m).set j (b,v):=by
 induction m generalizing j with
 | nil=>grind
 | cons x m f=>
  cases j with
  | zero=>
   simp at c;subst c;refine⟨?_,?_,λ v=>?_⟩
   .simp[cH,gV,a]
   .simp[th,gV,a]
   .simp[gV,fL,a]
  | succ j=>
   have i:=d x (by simp);obtain⟨g,l,h⟩:=f (j:=j) (by grind) λ y n=>d y (by grind);refine⟨?_,?_,λ v=>?_⟩
   .simp[cH,gV,i]at g⊢;grind
   .simp[th,gV];grind
   .simp[gV,fL]at h⊢;grind
def yP (f:cE P Γ){a:tj}(e:Γ c=some a)(h:KL a.ty b=true):
  (∃q x,P.underlying c=some (.int q)/\b= .int q x)\/∃s,P.underlying c=some .string/\b= .string s:=by
 have d:=(f _ _ e).und;revert d h;cases a.ty<;>cases b<;>simp only[KL]<;>intro h d<;>first | exact(adC h).elim | skip
 .grind
 grind
def run_checkKey (h:(∃q x,P.underlying c=some (.int q)/\b= .int q x)\/∃s,P.underlying c=some .string/\b= .string s)(d:Bool)(w:World):
  (Instr.checkKey d 10000 c b).run P w= .ok () w:=by
 rw[Instr.checkKey];rcases h with⟨q,x,a,rfl⟩ |⟨s,a,rfl⟩<;>simp[aL a]
def run_findKey {H:TypeId}(Q:P.underlying c=some (.map i H))(h:(∃q x,P.underlying i=some (.int q)/\b= .int q x)\/∃s,P.underlying i=some .string/\b= .string s)
  (I:∀p∈gV m,OC P c p.1) (w:World):
  ∃r,(Instr.findKey i b m).run P w= .ok r w/\((r=none/\∀e∈m,cK b e.key=false)\/∃j e,r=some (j,e.val)/\m[j]?=some e/\cK b e.key=true/\∀v∈m.take j,cK b v.key=false):=by
 have y:∃D,P.underlying i=some D/\Mk D b/\∀e∈m,Mk D e.key/\∀q a l d,b= .int q a->e.key= .int l d->q=l:=by
  have f:∀e∈m,OC P c e.key:=λ e k=>I _ (aaO.2 ⟨e,k,rfl⟩);rcases h with⟨q,x,u,rfl⟩ |⟨s,u,rfl⟩
  .refine⟨_,u,trivial,λ e k=>?_⟩;obtain⟨F,v,z,g⟩:=f e k;rcases g with⟨l,C,g,o⟩ |⟨s,g,_⟩
   .rw[o];refine⟨trivial,λ E M N K L G=>?_⟩;grind
   grind
  .refine⟨_,u,trivial,λ e k=>?_⟩;obtain⟨F,v,z,g⟩:=f e k;rcases g with⟨l,C,g,_⟩ |⟨O,g,o⟩
   .grind
   .rw[o];exact⟨trivial,λ E M N K L G=>by grind⟩
 obtain⟨D,A,B,f⟩:=y;obtain⟨r,J,n⟩:=findNow_spec B _ 0 f;refine⟨r,?_,?_⟩
 .simp[Instr.findKey,aL A,J]
 grind
def FU (st:St)(d:Option Tmp)(x:SV)(ρ:Nat->Nat)(w:World){X:Nat->Prop}:cF X st (aK st d x) ρ ρ w w:=by
 refine⟨λ i f o h _ _=>⟨f,?_⟩,λ _ _ _ _ _ _=>rfl,λ _ _ _ _ _ _=>rfl⟩;cases d<;>exact h
def Pc {i:tj}(h:yA P c i){w:World}(o:(zeroValue c).run P w= .ok b w):xJ i.agg i.zero=some b:=by
 obtain⟨m,a,g,_,_,f,d⟩:=h.info;have e:a=b:=by
  have:(zeroValue c).run P w= .ok a w:=by simp[zeroValue,typeInfo,g,f]
  grind
 subst e;have j:=h.zform _ _ g f;cases l:i.agg with
 | true=>
  obtain⟨n,rfl⟩:=j.1 l;have:=d;subst this;rfl
 | false=>
  have k:a.cells=#[a]:=by cases a<;>first | rfl | grind
  rw[k]at d;have:i.zero=[a]:=(aak Array.toList d).symm;rw[this];rfl
def Ml {r:SV}{e:G'}(h:jJ j n=some r)(a:xJ j e=some b)(d:bO ρ σ n e):r.rel ρ σ b:=by
 cases j with
 | true=>
  simp[jJ]at h;subst h;simp[xJ]at a;subst a;exact⟨_,rfl,d⟩
 | false=>
  match n,h with
  |[c],h=>
   simp[jJ]at h;subst h;match e,a,d with
   |[x],a,d=>
    simp[xJ]at a;subst a;exact d.1
   |[],a,d=>exact d.elim
   | _::_::_,a,d=>exact d.2.elim
def Mm {r:SV}(h:jJ j n=some r)(b:∀d,¬dI d n):∀d,¬r.refs d:=by
 intro d a;cases j with
 | true=>simp[jJ]at h;subst h;exact b d a
 | false=>
  match n,h with
  |[c],h=>
   simp[jJ]at h;subst h;exact b d ⟨c,N' a⟩
def RS {d:G'}{a:Bool}(c:xJ j d=some b)(e:bO ρ σ n d):(SV.kz [(j,n),(false,[.b a])]).rel ρ σ (.tuple #[b,.bool a]):=by
 refine⟨_,rfl,?_⟩;cases j with
 | true=>
  simp[xJ]at c;subst c;exact⟨⟨_,rfl,e⟩,⟨rfl,trivial⟩,trivial⟩
 | false=>
  match d,c with
  |[x],c=>
   simp[xJ]at c;subst c;exact⟨e,⟨rfl,trivial⟩,trivial⟩
def AX (hT:cE P Γ)(v:Good P w0 H0 st a w ρ σ){W:TypeId}{r:Option Operand}(s:iC P Γ an st d W (.makeMap c r) h):
  oU P w0 H0 st a w ρ ⟨d,.makeMap c r,W,e,f,g⟩ h:=by
 simp[iC]at s;split at s
 .grind
 .rename_i m;split at s
  .grind
  .rename_i i G;split at s
   .rename_i kt et Q;have V:=(hT _ _ G).und;rw[Q]at V;split at s
    .rename_i A;have a1:∀x,st.O w.heap.size≠some x:=λ x I=>by
      obtain⟨⟨_,⟨U,S,_⟩,_⟩,_⟩:=v.opn _ _ I;grind
     have T:st.O w.heap.size=none:=by
      cases I:st.O _ with
      | none=>rfl
      | some x=>grind
     have M:∀k,st.H _ k=none:=λ k=>by
      cases A:st.H _ k with
      | none=>rfl
      | some z=>exact absurd (v.xj A) (adP _)
     obtain⟨F,R⟩:∃F:aU,F=λ b=>if b=w.heap.size then some (.mp c [])else st.O b:=⟨_,rfl⟩;have hK:=s _ F ⟨T,T' λ b' a0=>by grind⟩;have y:lC w (w.alloc (.map #[] 0)) none:=lC.alloc w _ _;refine⟨_,.map (some w.heap.size),w.alloc (.map #[] 0),_,ρ,σ,?_,.inl rfl,hK,?_,?_,?_⟩
     .cases r with
      | none=>rfl
      | some x=>
       simp[KK]at A;split at A
       .rename_i q n I;have hv:a.eval x= .int q n:=aE v I;simp[execOp,Instr.makeMap,hv,aL V,asInt,asIntOf]
       grind
     .have J:au [m] st {st with O:=F}:=⟨rfl,rfl,λ _ _=>rfl,λ _ _ s=>s,Heap.le_refl _⟩;exact J.trans (au.aK _ (some m) _)
     .refine Good.aK (v.opened y (λ l Z=>by grind) (Heap.le_refl _) (λ b L o=>rfl) ?_ (λ i j o l G E c=>rfl) (λ b x D=>?_)) _ rfl (λ _ _ A=>A)
      .intro b o u B;have C:=v.xj B;exact(v.snap _ _ _ B).keep (y.block b C (by simp))
      .rw[R]at D;by_cases L:b=w.heap.size
       .subst L;simp at D;subst D;refine⟨⟨.inl v.below.size,⟨.map _ 0,by show(w.heap.push _)[w.heap.size]?=_;simp,#[],0,rfl,rfl,(λ p hp=>by grind),(λ p hp=>by grind),List.nodup_nil⟩,λ c _=>M c⟩,λ i j o G E=>?_⟩;have:=(v.db G E).1;omega
       .simp[if_neg L]at D;obtain⟨⟨X,⟨U,S,k3⟩,k4⟩,k5⟩:=v.opn b x D;exact⟨⟨X,⟨U,(y.block b (aaA.1 S).1 (by simp)).trans S,k3⟩,k4⟩,k5⟩
     .refine⟨λ i j o N _ _=>⟨j,N⟩,λ _ _ _ _ _ _=>rfl,λ i j o N Y _=>?_⟩;exact y.block _ (v.db N (iE (ρ:=ρ) (σ:=σ) (i:=i) Y)).1 (by simp)
    grind
   grind
def DC (V:cE P Γ)(H:Good P w0 H0 st a w ρ σ){n:Operand}(o:iC P Γ an st d i (.lookup c k n j) h):
  oU P w0 H0 st a w ρ ⟨d,.lookup c k n j,i,e,f,g⟩ h:=by
 simp only[iC]at o;split at o
 .grind
 .split at o
  .grind
  .rename_i q hi;split at o
   .rename_i kt et a4;have R:=(V _ _ hi).und;rw[a4]at R;split at o
    .grind
    .rename_i ki Z;split at o
     .grind
     .rename_i ei U;split at o
      .rename_i A hm;have I:a.eval k= .map A:=aE H hm;split at o
       .rename_i X hk;have Q:a.eval n=X:=aE H hk;split at o
        .rename_i a5;obtain⟨es,a7,o⟩:=o;have J:=yP V Z a5;obtain⟨vs,cs,hr,hn,C,o⟩:=gw (ρ:=ρ) (σ:=σ) o;split at o
         .split at o
          .rename_i rr T;obtain⟨z,hz,a8⟩:=(V _ _ U).yB w;obtain⟨y,N,G,a0⟩:∃y:Array _,((A=none/\y=#[])\/∃b u,A=some b/\w.heap[b]?=some (.map y u))/\gV y.toList=es/\∀p∈es,OC P c p.1:=by
            rcases a7 with⟨rfl,rfl⟩ |⟨b,rfl,hO⟩
            .exact⟨#[],.inl ⟨rfl,rfl⟩,rfl,λ p hp=>by grind⟩
            .obtain⟨⟨_,⟨ob,k2,y,u,rfl,k3,k4,_⟩,_⟩,_⟩:=H.opn _ _ hO;exact⟨y,.inr ⟨b,u,rfl,k2⟩,k3,k4⟩
           subst G;obtain⟨rf,D,a6⟩:=run_findKey R J a0 w;have L:∃v:Value,∃b:Bool,xJ ei.agg vs=some v/\b=th (gV y.toList) X/\((rf=none/\v=z/\b=false)\/∃l,rf=some (l,v)/\b=true):=by
            rcases a6 with⟨rfl,Y⟩ |⟨l,s,rfl,hj,he,hb⟩
            .obtain⟨q1,q2,_⟩:=yN Y;rw[tp,q1]at C;refine⟨z,false,?_,q2.symm,.inl ⟨rfl,rfl,rfl⟩⟩;rw[C];exact Pc (V _ _ U) hz
            .obtain⟨q1,q2,_⟩:=yO hj he hb;rw[tp]at C;grind
           obtain⟨v,b,F,a1,O⟩:=L;have B:(Instr.lookup c (.map A) X j).run P w= .ok (if j then .tuple #[v,.bool b]else v) w:=by
            have E:=run_checkKey (P:=P) J;rcases N with⟨rfl,rfl⟩ |⟨bk,u,rfl,a3⟩
            .rcases O with⟨rfl,rfl,rfl⟩ |⟨l,rfl,rfl⟩
             .simp[Instr.lookup,aL R,E,D,hz]
             grind
            .have S:(getObj bk).run P w= .ok (.map y u) w:=by simp[getObj,Sem.run,a3]
             rcases O with⟨rfl,rfl,rfl⟩ |⟨l,rfl,rfl⟩
             .simp[Instr.lookup,aL R,E,D,hz,S]
             .simp[Instr.lookup,aL R,E,D,S]
           have M:=Ml T F hr;have a2:=Mm T hn;subst a1;cases j with
           | true=>
            refine⟨_,_,w,_,ρ,σ,?_,.inl rfl,o,au.aK _ _ _,Good.aK H _ (v:= .tuple #[v,.bool (th (gV y.toList) X)]) ?_ ?_,FU _ _ _ _ w⟩
            .simp[execOp,I,Q,B]
            .exact RS F hr
            .rintro d' _ ⟨x,W,hh⟩;rcases aaw.1 W with rfl | W
             .grind
             .simp at W;subst W;obtain⟨r,hc,hh⟩:=hh;simp at hc;subst hc;exact hh
           | false=>
            refine⟨_,_,w,_,ρ,σ,?_,.inl rfl,o,au.aK _ _ _,Good.aK H _ M (λ d' _=>a2 _),FU _ _ _ _ w⟩;simp[execOp,I,Q,B]
          grind
         grind
        grind
       grind
      grind
   grind
def RT {a:Array MapEntry}{j:Nat}{e:MapEntry}(c:a.toList[j]?=some e):gV (a.modify j λ e=>{e with key:=b,val:=l}).toList=(gV a.toList).set j (b,l):=by
 apply abU;simp[gV];grind
def DD (h:(∃q x,b= .int q x)\/∃s,b= .string s)(d:cK b l=true)(f:∀q a e c,b= .int q a->l= .int e c->q=e)(w:World):
  (Instr.keyThatStays l b).run P w= .ok b w:=by
 rcases h with⟨q,x,rfl⟩ |⟨s,rfl⟩
 .cases l<;>simp[cK]at d;have:=f _ _ _ _ rfl rfl;subst this;subst d;simp[Instr.keyThatStays,Instr.sameBits]
 .cases l<;>simp[cK]at d;subst d;simp[Instr.keyThatStays,Instr.sameBits,Vr]
def xp (hT:cE P Γ)(F:Good P w0 H0 st a w ρ σ){ty:TypeId}{s x:Operand}(v:iC P Γ an st d ty (.mapUpdate c k s x) h):
  oU P w0 H0 st a w ρ ⟨d,.mapUpdate c k s x,ty,e,f,g⟩ h:=by
 simp[iC]at v;split at v
 .grind
 .split at v
  .grind
  .rename_i i hi;split at v
   .rename_i kt et a0;have L:=(hT _ _ hi).und;rw[a0]at L;have L:P.underlying c=some _:=L;split at v
    .grind
    .rename_i ki a4;split at v
     .rename_i A hm;have b0:a.eval k= .map A:=aE F hm;split at v
      .rename_i E hk;have a6:a.eval s=E:=aE F hk;split at v
       .rename_i b3;split at v
        .rename_i xv hx;split at v
         .rename_i R b5;have a9:=SV.BR b5 (aE F hx);obtain⟨es,⟨b,rfl,hO⟩,v⟩:=v;have J:=yP hT a4 b3;obtain⟨⟨k1,⟨Q,k2,C,D,rfl,k3,k4,k7,k8⟩,k6⟩,k5⟩:=F.opn _ _ hO;have k3:gV _=es:=k3;subst k3;have b6:=(aaA.1 k2).1;obtain⟨rf,Z,a8⟩:=run_findKey L J k4 w;have U:=run_checkKey (P:=P) J false w;have Y:(getObj b).run P w= .ok (.map C D) w:=by simp[getObj,Sem.run,k2]
          have G:∀Q,(setObj b Q).run P w= .ok () {w with heap:=w.heap.setIfInBounds b Q}:=λ Q=>by simp[setObj,Sem.run,k2]
          have W:∃B y,(Instr.mapUpdate c (.map (some b)) E R).run P w= .ok () {w with heap:=w.heap.setIfInBounds b (.map B y)}/\gV B.toList=fL (gV C.toList) E R/\(∀q∈B.toList,q.born<y)/\(B.toList.map (·.born)).Nodup:=by
           rcases a8 with⟨rfl,a2⟩ |⟨j,q,rfl,hj,he,N⟩
           .obtain⟨_,_,q3⟩:=yN a2;refine⟨C.push ⟨E,R,D⟩,D+1,?_,?_⟩
            .simp[Instr.mapUpdate,aL L,Y,U,Z,G]
            .refine⟨by rw[q3];simp[gV],λ q he=>?_,?_⟩
             .grind
             grind
           .obtain⟨_,_,q3⟩:=yO hj he N;have b1:C[j]?=some q:=by grind
            refine⟨C.modify j λ q=>{q with key:=E,val:=R},D,?_,?_⟩
            .have a5:(Instr.keyThatStays (((C[j]?).map (·.key)).getD E) E).run P w= .ok E w:=by
              rw[b1];refine DD ?_ he ?_ w
              .grind
              .obtain⟨k',e',u1,u2⟩:=k4 _ (aaO.2 ⟨q,aaJ hj,rfl⟩);grind
             simp[Instr.mapUpdate,aL L,Y,U,Z,a5,G]
            .have b9:(C.modify j λ q=>{q with key:=E,val:=R}).toList.map (·.born)=C.toList.map (·.born):=by
              apply abU;grind
             refine⟨by rw[q3];exact RT hj,λ q he=>?_,by grind⟩;have:q.born∈C.toList.map (·.born):=by grind
             grind
          obtain⟨B,y,H,V,b4,a7⟩:=W;obtain⟨w',a3⟩:∃w':World,w'={w with heap:=w.heap.setIfInBounds b (.map B y)}:=⟨_,rfl⟩;rw[<-a3]at H;have M:lC w w' (some b):=by
           refine⟨⟨by grind,by grind,by grind,by grind,λ n hn S=>?_⟩,by grind⟩;grind
          obtain⟨O2,a1⟩:∃O2:aU,O2=λ n=>if n=b then some (.mp c (fL (gV C.toList) E R))else st.O n:=⟨_,rfl⟩;have hK:=v O2 ⟨b,rfl,by grind,λ b' b8=>by grind⟩;refine⟨_,undef,w',_,ρ,σ,?_,.inr ⟨rfl,rfl⟩,hK,?_,?_,?_⟩
          .simp[execOp,b0,a6,a9,H]
          .exact⟨rfl,rfl,λ _ _=>rfl,λ _ _ v=>v,Heap.le_refl _⟩
          .refine F.opened M (λ r b7=>by grind) (Heap.le_refl _) (λ b N o=>rfl) ?_ (λ i l o r hi b2 c=>rfl) (λ n z T=>?_)
           .intro n o u I;have X:=F.xj I;have S:n≠b:=λ q=>by
             subst q;rw[k6 o trivial]at I;grind
            exact(F.snap _ _ _ I).keep (M.block n X (λ q=>S (by grind)))
           .rw[a1]at T;by_cases N:n=b
            .subst N;simp at T;subst T;refine⟨⟨k1,⟨_,by grind,B,y,rfl,V,(λ p hp=>?_),b4,a7⟩,k6⟩,k5⟩;rcases FT hp with hp | rfl
             .grind
             .exact⟨kt,et,L,J⟩
            .simp[if_neg N]at T;obtain⟨⟨j1,⟨Q,j2,j3⟩,j4⟩,j5⟩:=F.opn n z T;exact⟨⟨j1,⟨Q,(M.block n (aaA.1 j2).1 (λ q=>N (by grind))).trans j2,j3⟩,j4⟩,j5⟩
          .refine⟨λ i l o h1 _ _=>⟨l,h1⟩,λ _ _ _ _ _ _=>rfl,λ i l o h1 h2 _=>?_⟩;have b2:=iE (ρ:=ρ) (σ:=σ) (i:=i) h2;grind
         grind
        grind
       grind
      grind
     grind
   grind
def FV {ty:TypeId}{r m a:Nat}{b:Array Nat}{c:Array MapEntry}{w:World}(A:w.heap[r]?=some (.mapIter (some m) a b a))(D:w.heap[m]?=some (.map c a))(g:∀e∈c.toList,e.born<a):
  (Iu c b/\(Instr.next (.pointer (some ⟨r,0,none⟩)) false ty).run P w= .ok (.tuple #[.bool false]) w)\/
  ∃e,CY e c b/\∃d:World,d.os=w.os/\d.tape=w.tape/\d.output=w.output/\w.drawn<=d.drawn/\d.heap=w.heap.setIfInBounds r (.mapIter (some m) a (b.push e.born) a)/\
   (Instr.next (.pointer (some ⟨r,0,none⟩)) false ty).run P w= .ok (.tuple #[.bool true,e.key,e.val]) d:=by
 have f:(!b.isEmpty&& !c.isEmpty&&c.all (λ x=>decide (x.born>=a)))=false:=by
  cases G:c.isEmpty with
  | true=>simp
  | false=>
   have u:c.all (λ x=>decide (x.born>=a))=false:=by
    rw[aew];intro h;rw[Array.all_eq_true_iff_forall_mem]at h;have k:0<c.size:=by
     grind
    have p:=h _ (Array.getElem_mem k);grind
   grind
 simp only[Instr.next,getObj,Sem.run_bind,Sem.run,A,D,Result.andThen,f,adA,acF];unfold Iu CY pe;have i:∀x∈(Array.filter (λ e=> !b.contains e.born) c).toList,x.born<a:=λ x C=>g x (by grind);generalize Array.filter _ _=L at i⊢;have E:L.filter (λ x=>decide (x.born<a))=L:=Array.filter_eq_self.2 (λ x C=>by grind);have z:L.filter (λ x=>decide (x.born>=a))=#[]:=by
  simp_all
 simp only[E,z,Array.append_empty];by_cases k:L.size=0
 .have:=Array.eq_empty_of_size_eq_zero k;subst this;simp[Question.forced]
 .right;have o:∃(j:Nat) (d:World),j<L.size/\d.heap=w.heap/\d.os=w.os/\d.tape=w.tape/\d.output=w.output/\w.drawn<=d.drawn/\(choose (Question.mapNext L.size)).run P w= .ok j d:=by
   by_cases q:L.size<=1
   .exact⟨0,w,by omega,rfl,rfl,rfl,rfl,aaB _,by simp[Question.forced,q]⟩
   .exact⟨_,w.drew,Nat.mod_lt _ (by omega),rfl,rfl,rfl,rfl,ads _,by
     simp[Sem.run,Question.forced,q];rfl⟩
  obtain⟨j,d,H,F,p,v,B,y,s⟩:=o;refine⟨L[j],by simp,{d with heap:=d.heap.setIfInBounds r (.mapIter (some m) a (b.push L[j].born) a)},p,v,B,y,T' ?_⟩;have n:d.heap[r]?=some (.mapIter (some m) a b a):=by grind
  have t:∀l:Obj,(setObj r l).run P d= .ok () {d with heap:=d.heap.setIfInBounds r l}:=λ l=>by simp[setObj,Sem.run,n]
  simp_all
def FW (hT:cE P Γ)(y:Good P w0 H0 st a w ρ σ){ty:TypeId}(r:iC P Γ an st d ty (.range c k) h):
  oU P w0 H0 st a w ρ ⟨d,.range c k,ty,e,f,g⟩ h:=by
 simp[iC]at r;split at r
 .grind
 .rename_i q;split at r
  .grind
  .rename_i i M;split at r
   .rename_i kt et V;have hu:=(hT _ _ M).und;rw[V]at hu;split at r
    .rename_i A hm;have R:a.eval k= .map A:=aE y hm;obtain⟨es,⟨b,rfl,hO⟩,r⟩:=r;obtain⟨⟨k1,⟨T,N,X,v,rfl,k3,k4,k7,k8⟩,k6⟩,k5⟩:=y.opn _ _ hO;have D:=(aaA.1 N).1;have Y:st.O w.heap.size=none:=by
      cases C:st.O _ with
      | none=>rfl
      | some x=>
       obtain⟨⟨_,⟨T,N,_⟩,_⟩,_⟩:=y.opn _ _ C;grind
     have S:∀p,st.H _ p=none:=λ p=>by
      cases U:st.H _ p with
      | none=>rfl
      | some z=>exact absurd (y.xj U) (adP _)
     obtain⟨L,W⟩:∃L:aU,L=λ n=>if n=w.heap.size then some (.it b v #[] none)else if n=b then some (.Tt c X v)else st.O n:=⟨_,rfl⟩;have hK:=r _ v _ L ⟨k3,b,rfl,Y,U' λ b' J Z=>by grind⟩;obtain⟨G,F⟩:∃G:Obj,G= .mapIter (some b) v #[] v:=⟨_,rfl⟩;have B:lC w (w.alloc G) none:=lC.alloc w _ _;refine⟨_,.pointer (some ⟨w.heap.size,0,none⟩),w.alloc G,_,ρ,σ,?_,.inl rfl,hK,?_,?_,?_⟩
     .rw[F];simp[execOp,R,Instr.range,aL hu,getObj,Sem.run,N]
     .have Q:au [q] st {st with O:=L}:=⟨rfl,rfl,λ _ _=>rfl,λ _ _ r=>r,Heap.le_refl _⟩;exact Q.trans (au.aK _ (some q) _)
     .refine Good.aK (y.opened B (λ l a0=>by grind) (Heap.le_refl _) (λ b hb o=>rfl) ?_ (λ i j o l M I c=>rfl) (λ n x C=>?_)) _ rfl (λ _ _ U=>U)
      .intro n o u E;exact(y.snap _ _ _ E).keep (B.block n (y.xj E) (by simp))
      .rw[W]at C;simp at C;split at C
       .rename_i s;subst s;simp at C;subst C;refine⟨⟨.inl y.below.size,⟨G,by show(w.heap.push _)[w.heap.size]?=_;simp,F,λ s he=>by grind⟩,λ c _=>S c⟩,λ i j o M I=>?_⟩;have:=(y.db M I).1;omega
       .split at C
        .rename_i s;subst s;simp at C;subst C;exact⟨⟨k1,⟨_,(B.block n D (by simp)).trans N,rfl,by rw[show CX _=es from k3];grind,k7,k8⟩,k6⟩,k5⟩
        .obtain⟨⟨j1,⟨T,j2,j3⟩,j4⟩,j5⟩:=y.opn n x C;exact⟨⟨j1,⟨T,(B.block n (aaA.1 j2).1 (by simp)).trans j2,j3⟩,j4⟩,j5⟩
     .refine⟨λ i j o J _ _=>⟨j,J⟩,λ _ _ _ _ _ _=>rfl,λ i j o J Z _=>?_⟩;exact B.block _ (y.db J (iE (ρ:=ρ) (σ:=σ) (i:=i) Z)).1 (by simp)
    grind
   grind
def IQ (hT:cE P Γ)(B:Good P w0 H0 st a w ρ σ){ty:TypeId}(s:iC P Γ an st d ty (.next k j) h):
  oU P w0 H0 st a w ρ ⟨d,.next k j,ty,e,f,g⟩ h:=by
 simp only[iC]at s;split at s
 .grind
 .rename_i q;split at s
  .grind
  .split at s
   .rename_i r G;have L:a.eval k= .pointer _:=aE B G;obtain⟨m,F,t,a3,J,a2,hO,hM,W,Z⟩:=s;obtain⟨⟨k1,⟨V,k2,rfl,k3⟩,k6⟩,k5⟩:=B.opn _ _ hO;obtain⟨⟨_,⟨V,Q,rfl,j3,U,j5⟩,_⟩,_⟩:=B.opn _ _ hM;rcases FV (P:=P) (ty:=ty) k2 Q U with⟨h0,A⟩ |⟨y,he,w1,N,S,h3,h4,h5,A⟩
    .refine⟨_,.tuple _,w,_,ρ,σ,by simp[execOp,L,A],.inl rfl,W h0,au.aK _ _ _,Good.aK B _ (v:= .tuple #[.bool _]) ⟨_,rfl,⟨rfl,trivial⟩,trivial⟩ ?_,FU _ _ _ _ w⟩;rintro d' _ ⟨k,G,D⟩;simp at G;subst G;obtain⟨c,M,D⟩:=D;simp at M;subst M;exact D
    .obtain⟨R,Y⟩:∃R:aU,R=λ n=>if n=r then some (.it m F (J.push y.born) (some y))else st.O n:=⟨_,rfl⟩;have hK:=Z y R he ⟨by grind,λ b' a4=>by grind⟩;have E:lC w w1 (some r):=by
      refine⟨⟨N,S,h3,by grind,λ n hn I=>?_⟩,h4⟩;grind
     refine⟨_,.tuple #[.bool true,y.key,y.val],w1,_,ρ,σ,by simp[execOp,L,A],.inl rfl,hK,?_,?_,?_⟩
     .have T:au [q] st {st with O:=R}:=⟨rfl,rfl,λ _ _=>rfl,λ _ _ s=>s,Heap.le_refl _⟩;exact T.trans (au.aK _ (some q) _)
     .refine Good.aK (B.opened E (λ p a0=>by grind) (Heap.le_refl _) (λ b hb o=>rfl) ?_ (λ i l o p hi X t=>rfl) (λ n z H=>?_)) _ (v:= .tuple _) ⟨_,rfl,⟨rfl,trivial⟩,⟨rfl,trivial⟩,⟨rfl,trivial⟩,trivial⟩ ?_
      .intro n o u C;have I:n≠r:=λ y=>by
        subst y;rw[k6 o trivial]at C;grind
       exact(B.snap _ _ _ C).keep (E.block n (B.xj C) (λ y=>I (by grind)))
      .rw[Y]at H;simp at H;split at H
       .rename_i e1;subst e1;simp at H;subst H;refine⟨⟨k1,⟨_,by grind,rfl,λ e' a1=>?_⟩,k6⟩,k5⟩;grind
       .rename_i hb;obtain⟨⟨j1,⟨V,Q,j3⟩,U⟩,j5⟩:=B.opn n z H;exact⟨⟨j1,⟨V,(E.block n (aaA.1 Q).1 (λ y=>hb (by grind))).trans Q,j3⟩,U⟩,j5⟩
      .rintro d' _ ⟨k,G,D⟩;obtain⟨c,M,D⟩:=D;simp at G;rcases G with rfl | rfl | rfl<;>(simp at M;subst M;exact D)
     .refine⟨λ i l o N _ _=>⟨l,N⟩,λ _ _ _ _ _ _=>rfl,λ i l o N S _=>?_⟩;have X:=iE (ρ:=ρ) (σ:=σ) (i:=i) S;grind
   grind
def FX (hT:cE P Γ)(z:Good P w0 H0 st a w ρ σ)(i:iC P Γ an st d c (.entry k) h):
  oU P w0 H0 st a w ρ ⟨d,.entry k,c,e,f,g⟩ h:=by
 simp[iC]at i;split at i
 .grind
 .split at i
  .rename_i r I;have D:a.eval k= .pointer _:=aE z I;split at i
   .split at i
    .grind
    .split at i
     .grind
     .obtain⟨m,E,t,u,G,b,Q,L,J,i⟩:=i;obtain⟨⟨Y,⟨O,V,rfl,N⟩,k6⟩,k5⟩:=z.opn _ _ Q;obtain⟨⟨_,⟨O,X,rfl,j3,j4,Z⟩,_⟩,_⟩:=z.opn _ _ L;obtain⟨q,A,T,hn,M,i⟩:=gw (ρ:=ρ) (σ:=σ) i;obtain⟨us,ds,B,U,W,i⟩:=gw (ρ:=ρ) (σ:=σ) i;have J:b∈u.toList:=J;have S:u.find? (λ k=>k.born==b.born)=some b:=by
       have R:∀l:List MapEntry,(l.map (·.born)).Nodup->b∈l->l.find? (λ k=>k.born==b.born)=some b:=by
        intro l;induction l with
        | nil=>simp
        | cons y l ih=>
         grind
       grind
      have o:=N b rfl;have s:(Instr.entry (.pointer (some ⟨r,0,none⟩))).run P w= .ok (.tuple #[b.key,b.val]) w:=by
       simp[Instr.entry,getObj,Sem.run,V,X,o,S]
      have n:∀{j:Bool} {A:List _} {q:List _} {v:Value} {r:List _} {C:List _},xJ j q=some v->bO ρ σ A q->oT ρ σ r C->oT ρ σ ((j,A)::r) (v::C):=by
       intro j A q v r C p F H;cases j with
       | true=>
        simp[xJ]at p;subst p;exact⟨⟨_,rfl,F⟩,H⟩
       | false=>
        match q,p with
        |[k],p=>
         simp[xJ]at p;subst p;exact⟨F,H⟩
      refine⟨_,.tuple #[b.key,b.val],w,_,ρ,σ,by simp[execOp,D,s],.inl rfl,i,au.aK _ _ _,Good.aK z _ (v:= .tuple _) ⟨_,rfl,n M T (n W B trivial)⟩ ?_,FU _ _ _ _ w⟩;rintro d' _ ⟨k,I,hh⟩;grind
   grind
  grind
end
end
end Go.Vc
