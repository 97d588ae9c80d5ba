/- A part of the proof. -/
import Derived.Test.YtnkineaffgkicaaGreatDoorH4
import Derived.Maps.AppendAt
set_option maxHeartbeats 0
set_option maxRecDepth 100000
set_option linter.unusedVariables false
set_option linter.defProp false
set_option linter.unusedSimpArgs false
namespace Go.Vc
open Go Go.RowKit
section
section
variable {P:Program}{Γ:fh}{w0:W0}{w:World}{H0:Heap}{st:St}{a:Act}{ρ:Nat->Nat}{σ:Nat->Value}
variable (hT:cE P Γ)(hg:Good P w0 H0 st a w ρ σ)
include hT hg
theorem FD {c:Option Tmp}{t k:TypeId}{j:String}{b:Array Edge}{l:Option (Nat×Bool)}{u:fI}{K:St->Prop}(h:iC P Γ u st c k (.alloc t) K):
  oU P w0 H0 st a w ρ ⟨c,.alloc t,k,j,b,l⟩ K:=by
 simp only[iC]at h;split at h
 .grind
 .split at h
  .grind
  .rename_i i s;have d:=hT _ _ s;split at h
   .rename_i p;obtain⟨z,o,g⟩:=d.yB w;obtain⟨f,m,v,n,q⟩:=vX hg h p (ys:=⟨i.zero⟩) (sk _) (λ x _ r=>qO r) d.zone;refine⟨_,_,_,f,_,_,?_,.inl rfl,m,v,n,q.any⟩;have e:=IL (P:=P) (w:=w) t z;rw[g]at e;simp[execOp,Instr.alloc,o,e]
   grind
omit hT hg in
theorem nF {w:World}{e:TypeId}{n sz:Nat}{cs:Array Value}(a:cs.size=n*sz)(b:n<=maxLen):
  (w.alloc (.cells cs e)).ownsRow w.heap.size e sz (.slice (some ⟨w.heap.size,0,none⟩) n n) n cs.toList:=by
 refine T' (.inr ⟨w.heap.size,n,cs,rfl,aaB _,heap_alloc_new w _,aaB _,b,a,?_⟩);rw[<-a];exact aag (by simp)
omit hT in
theorem Dy {d:Nat}{t:TypeId}{cs:List S1}{K:St->Prop}{ys:Array Value}(h:yr st d t cs K)(l:da st d=true)(I:bO ρ σ cs ys.toList)
  (F:ys.size=P.cellsOf t) (E:∀y∈ys.toList,y.oneCell'=true):
  ∃b f s,K b/\au [d] st b/\Good P w0 H0 b (a.put (some d) (.pointer (some ⟨w.heap.size,0,none⟩))) (w.alloc (.cells ys t)) f s/\cF Dx st b ρ f w (w.alloc (.cells ys t)):=by
 unfold yr at h;split at h
 .rename_i N u;split at h
  .have M:=fO u I;subst M;have p:=kM l;have j:=nF (w:=w) (e:=t) (n:=1) (sz:=P.cellsOf t) (cs:=ys) (by omega) (by decide);have q:=hg.newRow l t 1 _ _ (lC.alloc w _ _) j E;have k:gK (Vc.aq st d (.row t 1 ys.toList)) d=some (.row t 1 ys.toList):=by
    simp[gK,Vc.aq];grind
   obtain⟨A,c,x,z,D,C,m⟩:=q.Ff k;have L:Vc.aq {Vc.aq st d (.row t 1 ys.toList)with H:=x} d (.Ff A 1 c)=Vc.aq {st with H:=x} d (.Ff A 1 c):=by
    simp[Vc.aq]
   rw[L]at m;have g:vW σ d _ d= .slice A 1 c:=m.obj d _ _ (bD p);rw[bm]at g;cases g;refine⟨_,ρ,vW σ d (.slice (some ⟨w.heap.size,0,none⟩) 1 1),h _ 1 _ z D C,?_,?_,cF.of (ch:=none) hg (λ i=>?_) (λ _ _=>rfl) (lC.alloc w _ _) (by simp)⟩
   rotate_left
   .exact Good.aK m _ (r:= .one _) (v:= .pointer _) ⟨_,_,rfl,rfl⟩ (λ O _ G=>G)
   .by_cases J:i=d
    .subst J;exact .inr (.inl (bw l))
    .simp[Vc.aK,Vc.aq];grind
   .have B:au [] st (Vc.aq {st with H:=x} d (.Ff (some ⟨w.heap.size,0,none⟩) 1 1)):=by
     have:=au.iD (o:=bL.Ff (some ⟨w.heap.size,0,none⟩) 1 1) l;exact⟨this.fl,this.ll,this.fr,this.ro,z⟩
    exact(B.mono (by simp)).trans (au.aK _ (some d) _)
  grind
 grind
theorem Mh {d:Option Tmp}{t q:TypeId}{x:Operand}{n:String}{c:Array Edge}{u:Option (Nat×Bool)}{A:fI}{K:St->Prop}(h:iC P Γ A st d q (.box t x) K):
  oU P w0 H0 st a w ρ ⟨d,.box t x,q,n,c,u⟩ K:=by
 simp only[iC]at h;split at h
 .grind
 .split at h
  .grind
  .rename_i i z;split at h
   .grind
   .rename_i E e;split at h
    .grind
    .rename_i C g;split at h
     .rename_i B;obtain⟨p,D,j⟩:=B;have f:=uB hg.sl g (aE hg e);split at h
      .obtain⟨b,s,y,k,o,l,m⟩:=Dy hg h p (ys:=(a.eval x).cells) f (by rw[(hT _ _ z).cellsOf];have:=cX f;grind) (kK hg.sl j f);refine⟨_,_,_,b,_,_,?_,.inl rfl,k,o,l,m.any⟩;rfl
      .obtain⟨b,k,o,l,m⟩:=vX hg h p (ys:=(a.eval x).cells) f (λ F r v=>dK e r (so g v)) (kK hg.sl j f);refine⟨_,_,_,b,_,_,?_,.inl rfl,k,o,l,m.any⟩;rfl
     grind
omit hT in
theorem RQ {d:Nat}{e:TypeId}{n:Nat}{j:G'}{K:St->Prop}(h:da st d=true)
  (o:K (Vc.aK (Vc.aq st d (.row e n j)) (some d) (.one (.own d)))) {v:Value} {g:World} (m:lC w g none)
  (f:g.ownsRow w.heap.size e (P.cellsOf e) v n j) (p:∀x∈j,x.oneCell'=true):
  ∃b c k,K b/\au [d] st b/\Good P w0 H0 b (a.put (some d) v) g c k/\cF Dx st b ρ c w g:=by
 refine⟨_,ρ,vW σ d v,o,((au.iD h).mono (by simp)).trans (au.aK _ (some d) _),?_,cF.of (ch:=none) hg (λ i=>?_) (λ _ _=>rfl) m (by simp)⟩
 rotate_left
 .by_cases r:i=d
  .subst r;exact .inr (.inl (bw h))
  .simp[Vc.aK,Vc.aq];grind
 refine Good.aK (hg.newRow h e n _ v m f p) _ ?_ ?_
 .simp[SV.rel,S1.rel,bm]
 .intro s l q;exact(mD l (kM h)).1 q.symm
theorem uE {q:Option Tmp}{t R:TypeId}{n:Nat}{c:Array (Nat×Operand)}{J:String}{o:Array Edge}{W:Option (Nat×Bool)}{an:fI}{K:St->Prop}
  (h:iC P Γ an st q R (.buildSlice t n c) K):oU P w0 H0 st a w ρ ⟨q,.buildSlice t n c,R,J,o,W⟩ K:=by
 simp only[iC]at h;split at h
 .grind
 .split at h
  .grind
  .rename_i i hi;have D:=(hT _ _ hi).und;split at h
   .rename_i e F;rw[F]at D;split at h
    .grind
    .rename_i j hj;have g:=hT _ _ hj;split at h
     .grind
     .obtain⟨V,h,v,m,r⟩:=bM hg h;split at h
      .grind
      .rename_i cs G;split at h
       .grind
       .rename_i vs L;split at h
        .rename_i hc;obtain⟨hf,I,S,B,a0⟩:=hc;have Q:(dE j.zero n).length=n*j.size:=by rw[gz,g.zlen]
         have A:∀f p,(if f<n then some (f*j.size,j.size)else none)=some p->(λ f=>some (f*j.size,j.size)) f=some p:=by
          simp
         obtain⟨N,z1,O,z3,z4⟩:=uC hT m A _ _ _ _ G (sk _) (λ d _ hh=>qO hh);have s:=fO L O;have l:=nF (w:=w) (e:=e) (n:=n) (sz:=P.cellsOf e) (cs:=N) (by rw[g.cellsOf];grind) (by
          have:n<=n*j.size:=ace _ B;simp[maxLen];omega)
         rw[s]at l;obtain⟨C,y,H,X,q2,Y,q4⟩:=RQ m hf h (lC.alloc w _ _) l (by
          intro x T;rw[<-s]at T;exact kK m.sl I O x T)
         refine⟨_,_,_,C,y,H,?_,.inl rfl,X,(v.mono (by simp)).trans q2,Y,(r.trans q4).any⟩;have M:¬n*j.size>2^24:=by omega
         obtain⟨z,Z,E⟩:=g.yB w;have b:Instr.fill (λ i=>some (i*j.size,j.size)) ((Array.range (n*j.size)).map λ k=>(if n*j.size=0 then(#[]:Array Value)else⟨j.zero⟩)[k%(if n*j.size=0 then(#[]:Array Value)else⟨j.zero⟩).size]!) (c.map λ x=>(x.1,a.eval x.2)).toList=some N:=by
          have U:=sr _ n _ g.zlen;have:((Array.range (n*j.size)).map λ k=>(if n*j.size=0 then(#[])else⟨j.zero⟩)[k%(if n*j.size=0 then(#[])else⟨j.zero⟩).size]!)=⟨dE j.zero n⟩:=by
           grind
          simp_all
         by_cases u:n*j.size=0
         .simp[u]at b;simp[execOp,Instr.buildSlice,aL D,g.eh w,u,b,newRow]
         .simp only[u,acF]at b;simp only[execOp,Instr.buildSlice,Sem.run_bind,aL D,g.eh w,Result.andThen_ok,M,acF,u,Z,E,Sem.run_pure,b];rfl
        grind
   grind
theorem xk {k:Option Tmp}{t D:TypeId}{l c:Operand}{A:String}{g:Array Edge}{J:Option (Nat×Bool)}{an:fI}{K:St->Prop}
  (h:iC P Γ an st k D (.makeSlice t l c) K):oU P w0 H0 st a w ρ ⟨k,.makeSlice t l c,D,A,g,J⟩ K:=by
 simp only[iC]at h;split at h
 .grind
 .split at h
  .grind
  .rename_i i Z;have C:=(hT _ _ Z).und;split at h
   .rename_i e s;rw[s]at C;split at h
    .grind
    .rename_i j hj;have d:=hT _ _ hj;split at h
     .rename_i kl nl U;split at h
      .rename_i kc b hc;split at h
       .rename_i q;obtain⟨R,Q,S⟩:=q;obtain⟨L,F,X,I⟩:=h;have e1:a.eval l= .int _ _:=aE hg U;have O:a.eval c= .int _ _:=aE hg hc;have u:b=nl:=L;subst u;have o:(0)<=b:=F;have Y:b*(j.bytes)<=140737488355328:=X;have E:b<=b*(j.bytes:Int):=by
         have G:(1:Int)<=(j.bytes):=by omega
         calc b=b*1:=by simp
          _<=b*(j.bytes:Int):=Int.mul_le_mul_of_nonneg_left G o
        obtain⟨m,z,i1,B,i3,V,H⟩:=d.info;have W:=run_make (P:=P) w t e _ z C i1 V kl kc _ _ o (abt _) (by grind) (by omega);have v:(madeCells z.cells (b.toNat*m.size)).toList=dE j.zero b.toNat:=by
         rw[H,B];exact sr _ _ _ d.zlen
        have f:=nF (w:=w) (e:=e) (n:=b.toNat) (sz:=P.cellsOf e) (cs:=madeCells z.cells (b.toNat*m.size)) (by rw[d.cellsOf,size_madeCells,B]) (by simp[maxLen];omega);rw[v]at f;obtain⟨r,p,y,M,q2,N,T⟩:=RQ hg R (I _ rfl) (lC.alloc w _ _) f (λ x hx=>d.zone x (FC hx));refine⟨_,_,_,r,p,y,?_,.inl rfl,M,q2,N,T.any⟩;simp[execOp,e1,O,W,Sem.run_pure]
       grind
      grind
     grind
   grind
omit hT hg in
theorem al {st:St}{d i:Nat}{o:bL}(h:i≠d):(Vc.aq st d o).L[i]?=st.L[i]?:=by
 simp[Vc.aq];grind
omit hT in
theorem uF {K:St->Prop}{o:Nat}{r d:bL}{g:Nat}{w':World}(z:gK st o=some r)(q:dy ρ σ o r=some g)(D:dy ρ σ o d=some g)
  (C:K (Vc.aq st o d)) (A:lC w w' (some g)) (m:dj P w0 w' st.H ρ σ o d) (n:∀t,t≠o->st.eN t->¬d.refs t):
  ∃c,K c/\au [] st c/\Good P w0 H0 c a w' ρ σ/\cF (λ i=>i=o/\nE r=true) st c ρ ρ w w':=by
 have p:=aT z;have v:=(aap.1 p).1;refine⟨_,C,au.uD z,?_,?_⟩
 rotate_left
 .have x:∀(i:Nat) (f:Bool) (s:bL),st.L[i]?=some (some (f,s))->nE s=true->¬(i=o/\nE r=true)->i≠o:=by
   grind
  refine⟨λ i f s k l B=>⟨f,?_⟩,λ _ _ _ _ _ _=>rfl,λ i f s k l B=>?_⟩
  .simp[Vc.aq];grind
  .have j:=iE (ρ:=ρ) (σ:=σ) (i:=i) l;refine A.block _ (hg.db k j).1 (λ e=>?_);exact hg.sep i o f _ _ _ g (x i f _ k l B) k p (by grind) q
 refine Good.step hg _ o _ _ (bD v) (λ i u=> .inl (aaK (abu u))) (.inl ⟨rfl,rfl⟩) A (λ y b=>?_) (λ y b=>by simp at b;subst b;exact hg.dG p q) (λ i f F y u h j e=>?_) m (λ y E=> .inr (by grind)) (λ t k _ l=>n _ k l) hg.sl
 .simp at b;subst b;exact(hg.db p q).2
 .simp at e;subst e;rw[aaK (abu u)]at h;exact hg.sep i o f _ _ _ g u h p j q
theorem FE {a1:Option Tmp}{t ty:TypeId}{x y:Operand}{a0:String}{q:Array Edge}{gd:Option (Nat×Bool)}{an:fI}{K:St->Prop}
  (h:iC P Γ an st a1 ty (.store t x y) K):oU P w0 H0 st a w ρ ⟨a1,.store t x y,ty,a0,q,gd⟩ K:=by
 simp[iC]at h;split at h
 .grind
 .split at h
  .grind
  .rename_i sa b3;split at h
   .grind
   .rename_i sv X;have ha:=aE hg b3;have hv:=aE hg X;unfold KI at h;split at h
    .grind
    .rename_i i hi;have a7:=hT _ _ hi;split at h
     .grind
     .rename_i ys a2;have V:=uB hg.sl a2 hv;have a8:∀d,st.eN d->¬dI d _:=λ d hd D=>dK X hd (so a2 D);split at h
      .rename_i s;obtain⟨Y,b0⟩:=s;have h1:=kK hg.sl b0 V;have hl:=cX V;have b5:(a.eval y).cells.toList.length=i.size:=by grind
       have C:∀g off (f:Array Value) tt,a.eval x= .pointer (some ⟨g,off,none⟩)->w.heap[g]?=some (.cells f tt (0,0))->off+i.size<=f.size->
         ∃w',(execOp a.eval ⟨none,.store t x y,ty,a0,q,gd⟩).run P w= .ok .skip w'/\
          w'.heap[g]?=some (.cells ⟨f.toList.take off++(a.eval y).cells.toList++f.toList.drop (off+i.size)⟩ tt (0,0))/\lC w w' (some g):=by
        intro g off f tt I A b1;obtain⟨w',F,H,B,_⟩:=yG (P:=P) (g:=g) (off:=off) _ 0 w _ A (by grind) h1;refine⟨w',?_,?_,B⟩
        .have a6:(a.eval y).cells.size=i.size:=by grind
         simp[execOp,Instr.storeAt,Instr.sureAddr,I,storeVar,a7.eh w,a6,F]
        grind
       split at h
       .rename_i o off;have I:a.eval x= .pointer _:=ha;split at h
        .rename_i t0 cs v;split at h
         .have E:=aT v;obtain⟨f,A,N,p,b⟩:=hg.obj _ _ _ E;have b9:=cX N;obtain⟨w',Q,W,M⟩:=C _ _ _ _ I A (by grind);obtain⟨l,F,H,B,S⟩:=uF (w':=w') (g:=ρ o) hg v rfl (by rfl) h M (by
           refine⟨_,W,?_,p,b⟩;rw[Y];exact jm (jm (kC _ N) V) (kD _ N)) (by
           intro d' _ hn D;obtain⟨c,s,T⟩:=D;rcases aam.1 s with s | s
           .rcases aam.1 s with s | s
            .exact hn.obj _ _ _ E ⟨c,acb s,T⟩
            .exact a8 _ hn ⟨c,s,T⟩
           .exact hn.obj _ _ _ E ⟨c,aca s,T⟩)
          exact⟨_,_,w',l,ρ,σ,Q,.inr ⟨rfl,rfl⟩,F,H,B,S.mono λ i hi=>by simp_all[yu]⟩
         grind
        .rename_i t0 L v;split at h
         .split at h
          .rename_i U r;obtain⟨k,h⟩:=h;have u:L.length=i.size:=k;have E:=aT v;obtain⟨A,a5,p,b⟩:=hg.obj _ _ _ E;have G:=fO r V;obtain⟨w',Q,W,M⟩:=C _ 0 _ _ I A (by grind);obtain⟨l,F,H,B,S⟩:=uF (w':=w') (g:=ρ o) hg v rfl (by rfl) h M (by
            refine⟨?_,?_,p,b⟩
            .grind
            grind) (λ _ _ _ D=>D)
           exact⟨_,_,w',l,ρ,σ,Q,.inr ⟨rfl,rfl⟩,F,H,B,S.mono λ i hi=>by simp_all[yu]⟩
          grind
         grind
        grind
       .rename_i o j;have I:a.eval x= .pointer _:=ha;split at h
        .rename_i t0 L v;split at h
         .rename_i U r;obtain⟨k,h⟩:=h;have u:j+i.size<=L.length:=k;have E:=aT v;obtain⟨A,a5,p,b⟩:=hg.obj _ _ _ E;have G:=fO r V;obtain⟨w',Q,W,M⟩:=C _ j _ _ I A (by grind);have R:U.length=i.size:=by grind
          obtain⟨l,F,H,B,S⟩:=uF (w':=w') (g:=ρ o) hg v rfl (by rfl) h M (by
           refine⟨?_,?_,p,b⟩
           .rw[W,G];simp[av,R]
           .intro z hz;simp[av]at hz;grind) (λ _ _ _ D=>D)
          exact⟨_,_,w',l,ρ,σ,Q,.inr ⟨rfl,rfl⟩,F,H,B,S.mono λ i hi=>by simp_all[yu]⟩
         grind
        grind
       .rename_i o j;obtain⟨g,m,c,hs,I⟩:=ha;split at h
        .rename_i e n L v;split at h
         .rename_i U r;obtain⟨k,h⟩:=h;have u:j+i.size<=L.length:=k;have E:=aT v;obtain⟨a3,a5,b⟩:=hg.obj _ _ _ E;have G:=fO r V;have R:U.length=i.size:=by grind
          have Z:(σ o).ownBlock=some g:=by rw[hs];rfl
          obtain⟨⟨b6,O⟩,a9⟩:=a3;rcases O with⟨h0,_⟩ |⟨g',c0,f,a4,p,A,b4,b2,b8,J⟩
          .grind
          .rw[hs]at a4;obtain⟨rfl,rfl,rfl⟩:=a4;have b1:m*P.cellsOf e<=f.size:=by grind
           obtain⟨w',Q,W,M⟩:=C g j _ e I A (by omega);obtain⟨l,F,H,B,S⟩:=uF (w':=w') (g:=g) hg v Z (by exact Z) h M (by
            have b7:(av L j U).length=L.length:=by simp[av,aaE];omega
            refine⟨⟨(T' (.inr ⟨g,c,_,hs,p,W,b4,b2,?_,?_⟩)),a9⟩,?_,b⟩
            .grind
            .rw[G];simp only[av];rw[<-J,aco,aco];simp[R];rw[aei,aei,aej];have e1:min (m*P.cellsOf e) j=j:=by omega
             have e2:min j (m*P.cellsOf e)=j:=by omega
             have e3:min j f.size=j:=by omega
             rw[e1,e2,e3,aag (by omega:U.length<=m*P.cellsOf e-j)]
            .intro z hz;simp[av]at hz;grind) (λ _ _ _ D=>D)
           exact⟨_,_,w',l,ρ,σ,Q,.inr ⟨rfl,rfl⟩,F,H,B,S.mono λ i hi=>by simp_all[nE]⟩
         grind
        grind
       grind
      grind
omit hT hg in
theorem fW {b:Nat}{t o e:TypeId}{i:TypeInfo}{d:Nat}(h:P.underlying t=some (.slice e))(j:P.info? e=some i)
  {v:Value} {n:Nat} {l:G'} (a:w.ownsRow b e d v n l) (c:Nat):(Builtin.append_ #[t,t] o #[v,.slice none 0 c]).run P w= .ok v w:=by
 rcases a.2 with⟨rfl,rfl⟩ |⟨g,m,k,rfl,_,_,f,_⟩
 .simp[Builtin.append_,aL h,sizeOf,typeInfo,j,Builtin.lenOf,Builtin.firstCells]
 .simp[Builtin.append_,aL h,sizeOf,typeInfo,j,Builtin.lenOf,Builtin.firstCells,f,storeCells]
omit hg in
theorem px {f:Nat}{t ty e:TypeId}{j:tj}(D:P.underlying t=some (.slice e))(U:Γ e=some j)(N:0<j.size)(s:0<j.bytes)
  {v:Value} {n:Nat} {E:G'} (h:w.ownsRow f e (P.cellsOf e) v n E) {A:D'} {m c:Nat} {a:G'}
  (W:a.length=m*j.size) (y:∀k u,a[k]?=some u->∃b o,A=some ⟨b,o,none⟩/\w.cell? ⟨b,o+k,none⟩=some u) (L:A=none->m=0) (r:∀x,A=some x->x.spot=none) (J:∀u∈a,u.oneCell'=true)
  (g:(n+m)*j.bytes<=140737488355328) (i:f<=w.heap.size):
  ∃l p,(Builtin.append_ #[t,t] ty #[v,.slice A m c]).run P w= .ok l p/\p.ownsRow f e (P.cellsOf e) l (n+m) (E++a)/\lC w p v.ownBlock/\(l.ownBlock=v.ownBlock\/l.ownBlock=some w.heap.size):=by
 have d:=hT _ _ U;obtain⟨K,z,F,H,Q,R,I⟩:=d.info;have q:n+m<=maxLen:=by
  have:n+m<=(n+m)*j.bytes:=ace _ s;simp[maxLen];omega
 cases A with
 | none=>
  have S:=L rfl;subst S;exact⟨v,w,fW D F h c,by grind,lC.refl w _,.inl rfl⟩
 | some O=>
  obtain⟨b,o,V⟩:=O;have:=r _ rfl;subst this;have B:z.cells.size=P.cellsOf e:=by rw[I,d.cellsOf];simpa using d.zlen
  obtain⟨l,p,C,T,G,_,M⟩:=run_append_own_at (P:=P) w _ t _ e _ z _ _ D F R (by rw[d.cellsOf,H]) Q B (by rw[d.cellsOf];grind) v n _ h ⟨b,o,none⟩ m c _ (by rw[d.cellsOf];grind)
   (λ k u X=>by
    rw[add_plain];grind) J q g i
  exact⟨l,p,C,T,⟨G,qK C⟩,M⟩
omit hg in
theorem xm {i:Nat}{t ty e:TypeId}{j:tj}(K:P.underlying t=some (.slice e))(hj:Γ e=some j)(a7:0<j.size)(a3:0<j.bytes)
  {v:Value} {n:Nat} {M:G'} (d:w.ownsRow i e (P.cellsOf e) v n M) {A:D'} {m c:Nat} {a:G'}
  (hl:a.length=m*j.size) (a1:∀k u,a[k]?=some u->∃b o,A=some ⟨b,o,none⟩/\w.cell? ⟨b,o+k,none⟩=some u) (hA:A=none->m=0) (a0:∀x,A=some x->m≠0->x.spot=none) (h1:∀u∈a,u.oneCell'=true)
  (Y:(n+m)*j.bytes<=140737488355328) (F:i<=w.heap.size):
  ∃X W,(Builtin.append_ #[t,t] ty #[v,.slice A m c]).run P w= .ok X W/\W.ownsRow i e (P.cellsOf e) X (n+m) (M++a)/\lC w W v.ownBlock/\
   (X.ownBlock=v.ownBlock\/(X.ownBlock=some w.heap.size/\lC w W none)):=by
 have I:=hT _ _ hj;obtain⟨h,z,N,i2,i3,i4,i5⟩:=I.info;have C:n+m<=maxLen:=by
  have:n+m<=(n+m)*j.bytes:=ace _ a3;simp[maxLen];omega
 have V:=by simp[maxLen]at C;omega
 have H:P.cellsOf e=h.size:=by rw[I.cellsOf,i2]
 have a6:z.cells.size=h.size:=by rw[i5,i2];simpa using I.zlen
 by_cases hm:m=0
 .subst hm;have R:a=[]:=aal (by grind);subst R;refine⟨v,w,?_,by grind,lC.refl w _,.inl rfl⟩;cases A with
  | none=>exact fW K N d c
  | some ad=>
   rcases d.2 with⟨E,h0⟩ |⟨g,s,Q,E,_,_,T,_⟩
   .rw[E];simp[Builtin.append_,aL K,sizeOf,typeInfo,N,Builtin.lenOf,Builtin.firstCells,loadCells,loadCellsFrom]
   .rw[E];simp[Builtin.append_,aL K,sizeOf,typeInfo,N,Builtin.lenOf,Builtin.firstCells,loadCells,loadCellsFrom,T,storeCells]
 cases A with
 | none=>grind
 | some ad=>
  obtain⟨b,o,sp⟩:=ad;have:=a0 _ rfl hm;subst this;have p:a.length=m*h.size:=by grind
  have J:∀k u,a[k]?=some u->w.cell? ((⟨b,o,none⟩:Addr).add k)=some u:=λ k u hu=>by
   rw[add_plain];grind
  have r:(n+m)*h.bytes<=140737488355328:=by grind
  rw[H]at d⊢;have B:(M++a).length=(n+m)*h.size:=by rw[aae,d.1,p,acS]
  have q:∀(l:Nat),l<n+m->
    (w.drew.alloc (.cells (M.toArray++a.toArray++Builtin.zeroCells z.cells (grownCap w (n+m) l e-(n+m))) e)).ownsRow i e h.size
     (.slice (some ⟨w.heap.size,0,none⟩) (n+m) (grownCap w (n+m) l e)) (n+m) (M++a):=by
   intro l ho;have Z:=grownCap_ge w (n+m) l e;have D:=grownCap_le_maxLen w _ l e C;refine⟨B,.inr ⟨w.heap.size,_,_,rfl,F,heap_alloc_new _ _,Z,D,?_,?_⟩⟩
   .simp[size_zeroCells,a6,d.1,p,<-acS];grind
   grind
  have y:∀(x:Obj) (U:Option _),lC w (w.drew.alloc x) U:=λ x U=>⟨⟨rfl,rfl,rfl,by simp,λ k hk _=>Below.heap_alloc _ x k hk⟩,ads _⟩;rcases d.2 with⟨rfl,rfl⟩ |⟨g,s,Q,rfl,a2,hg,T,D,a5,a4⟩
  .have hx:M=[]:=aal (by grind);subst hx;have L:=run_append_nil (P:=P) w t ty e _ z K N i4 _ m c _ p J (by omega) (by omega) (by grind);have O:=q 0 (by omega);simp at O⊢;exact⟨_,_,L,O,y _ _,.inr ⟨rfl,y _ _⟩⟩
  .by_cases f:n+m<=s
   .have S:n*h.size+a.length<=Q.size:=by rw[p,a5,<-acS];exact aaC _ f
    have L:=run_append_room (P:=P) w t ty e _ K N g n _ _ hg _ m c _ p J h1 f S;refine⟨_,_,L,⟨B,.inr ⟨g,s,_,rfl,a2,setRow_heap w g _ _ e _ hg,f,D,?_,?_⟩⟩,⟨⟨rfl,rfl,rfl,by simp,λ k _ hk=>setRow_other w g k _ (λ e=>hk (by simp[Value.ownBlock,e]))⟩,qK L⟩,.inl rfl⟩
    .grind
    grind
   .have G:=d.cells (g:=g) rfl;have L:=run_append_grow (P:=P) w t ty e _ z K N i4 _ n s _ d.1 G _ m c _ p J (by omega) (by omega) (growslice_fits (by omega) r);exact⟨_,_,L,q _ (by omega),y _ _,.inr ⟨rfl,y _ _⟩⟩
theorem kj {e:TypeId}{j:tj}(O:Γ e=some j)(G:0<j.size){x:SV}{u:Value}(z:x.rel ρ σ u){K:Nat->G'->Prop}(h:uy st e j.size x K):
  ∃A m c a,u= .slice A m c/\a.length=m*j.size/\(∀k u,a[k]?=some u->∃b o,A=some ⟨b,o,none⟩/\w.cell? ⟨b,o+k,none⟩=some u)/\(A=none->m=0)/\(∀x,A=some x->m≠0->x.spot=none)/\(∀u∈a,u.oneCell'=true)/\K m a:=by
 have t:=hT _ _ O;unfold uy at h;split at h
 .rename_i k;split at h
  .rename_i S m l F;split at h
   .rename_i P;subst P;obtain⟨f,J⟩:=cC F;obtain⟨d,n,_⟩:=hg.obj _ _ _ J;have B:u=σ k:=z;rcases d.row.2 with⟨y,p⟩ |⟨g,q,H,y,C,Q,M,D,N,r⟩
    .subst p;have E:=aal (by simpa using d.row.1);grind
    .refine⟨some _,m,q,l,by grind,by rw[d.row.1,t.cellsOf],λ k u i=>⟨g,0,rfl,by rw[aaT];exact qP d y k u i⟩,P' ⟨n,h⟩⟩
   grind
  grind
 .rename_i A m c;obtain⟨l,v,L,h⟩:=h;have s:l.length=m*j.size:=L;have B:=SV.bC z;rcases v with rfl |⟨b,o,rfl,v⟩
  .have T:m=0:=by
    have I:m*j.size=0:=by grind
    rcases Nat.mul_eq_zero.1 I with p | p
    .grind
    grind
   grind
  .exact⟨_,m,c,l,B,s,λ k u i=>⟨b,o,rfl,(hg.snap _ _ _ (by grind)).cell (v k u i).2⟩,by simp,by simp,λ u i=>by
    obtain⟨k,R⟩:=List.getElem?_of_mem i;grind,h⟩
 grind
omit hT in
theorem Good.opened {q:World}{G:Option Nat}{l:Heap}{I:aU}(z:lC w q G)(y:∀g,G=some g->st.O g≠none)(D:Heap.le st.H l)(s:∀b,¬w0.nw b->∀o,l b o=st.H b o)
  (j:ct l q) (p:∀i f o g,st.L[i]?=some (some (f,o))->dy ρ σ i o=some g->∀t,l g t=st.H g t)
  (u:∀b x,I b=some x->OP P w0 q l b x/\∀i f o,st.L[i]?=some (some (f,o))->dy ρ σ i o≠some b):Good P w0 H0 {st with H:=l,O:=I} a q ρ σ:=by
 have B:∀{i f o g},st.L[i]?=some (some (f,o))->dy _ _ i o=some g->q.heap[g]?=w.heap[g]?:=λ {i f o g} h c=>by
  refine z.block g (hg.db h c).1 (λ e=>?_);exact y g e.symm (hg.dG h c)
 refine⟨hg.defers,hg.size,hg.fr,?_,Heap.le_trans hg.le D,λ b c o=>(s b c o).trans (hg.ef b c o),j,λ i f o h=>?_,hg.sep,λ d F=>⟨(hg.nr d F).fr,(hg.nr d F).obj⟩,hg.sl,u⟩
 .refine hg.below.grown z.togrownBy z.drawn (λ k N=>?_);cases K:st.O k with
  | none=>grind
  | some x=>
   exact(hg.opn k x K).1.1
 .have A:=hg.obj i f o h;have J:=λ g=>B (g:=g) h;have C:=λ g=>p i f o g h;cases o<;>simp[dj]at A⊢;case box t cs=>
   obtain⟨M,m,v,r,E⟩:=A;exact⟨M,(J _ rfl).trans m,v,r,λ o=>(C _ rfl o).trans (E o)⟩
  case arr t xs=>
   obtain⟨m,v,r,E⟩:=A;exact⟨(J _ rfl).trans m,v,r,λ o=>(C _ rfl o).trans (E o)⟩
  case row e n xs=>
   obtain⟨m,v,r⟩:=A;refine⟨m.kept z.togrownBy ?_,v,λ g c o=>(C g c o).trans (r g c o)⟩;cases c:(σ i).ownBlock with
   | none=>simp
   | some g=>exact .inr (λ e=>y g e.symm (hg.dG h c))
  grind
theorem Dz {d9:Bool}{b3:Option Tmp}{t ty:TypeId}{s x:Operand}{sv xv:SV}(hs:ev st s=some sv)(U:ev st x=some xv){K:St->Prop}
  (h:yq d9 Γ st b3 t sv xv K):∃v I M Z a9,(Builtin.append_ #[t,t] ty #[a.eval s,a.eval x]).run P w= .ok v I/\K M/\au b3.toList st M/\Good P w0 H0 M (a.put b3 v) I Z a9/\cF Dx st M ρ Z w I:=by
 unfold yq at h;split at h
 .grind
 .rename_i d;split at h
  .grind
  .rename_i i W;have E:=(hT _ _ W).und;split at h
   .rename_i e d2;rw[d2]at E;split at h
    .grind
    .rename_i j hj;have b6:=hT _ _ hj;split at h
     .rename_i hc;obtain⟨hf,T,b1⟩:=hc;have hn:=bw hf;have e7:=kM hf;split at h
      .split at h
       .
         rename_i A n c;obtain⟨N,c6,b9,d3,h⟩:=h;have es:a.eval s= .slice A n c:=aE hg hs;obtain⟨A2,m,c2,l,eu,hl,y,hA,a0,h1,hb,hK⟩:=kj hT hg hj T (aE hg U) h;have a3:(n+m)*j.bytes<=140737488355328:=hb;have c4:N.length=n*P.cellsOf e:=by rw[b6.cellsOf];exact d3
         have q:kJ w w0 e (P.cellsOf e) (.slice A n c) n N/\(∀x∈N,x.oneCell'=true):=by
          rcases c6 with⟨rfl,rfl,rfl⟩ |⟨b,rfl,G⟩
          .have:N=[]:=aal (by grind);subst this;exact⟨⟨(N' (.inl ⟨rfl,rfl⟩)),λ g b8=>by simp[Value.ownBlock]at b8⟩,by simp⟩
          .obtain⟨⟨k1,⟨_,k2,B,rfl,k3,k4,k5⟩,k6⟩,_⟩:=hg.opn b _ G;have S:∀(t:Nat) (v:Value),N[t]?=some v->B[t]?=some v/\v.oneCell'=true:=by
            intro t v p;rcases b9 with rfl |⟨b',o',e1,e2⟩
            .grind
            .have:=e2 t v p;have hc:=(hg.snap _ _ _ this.1).cell this.2;simp[World.cell?]at hc;grind
           refine⟨⟨⟨c4,.inr ⟨b,c,B,rfl,abi _,k2,k3,k4,k5,?_⟩⟩,λ g b8=>by simp[Value.ownBlock]at b8;grind⟩,λ x U=>?_⟩
           .apply abU;grind
           .obtain⟨t,ht,rfl⟩:=aaM U;exact(S t _ (aai _)).2
         obtain⟨q,e4⟩:=q;obtain⟨r,I,r1,r2,r3,Q⟩:=xm (P:=P) (w:=w) (ty:=ty) hT E hj T b1 q.row (c:=c2) hl y hA a0 h1 a3 (abi _);have a4:∀g,(Value.slice A n c).ownBlock=some g->∃o,A=some ⟨g,o,none⟩/\o=0/\st.O g=some (.row e n c):=by
          intro g J;rcases c6 with⟨rfl,_,_⟩ |⟨b,rfl,G⟩
          .simp[Value.ownBlock]at J
          .simp[Value.ownBlock]at J;grind
         obtain⟨ch,a8,b7,C⟩:∃ch,lC w I ch/\(∀g,ch=some g->(Value.slice A n c).ownBlock=some g/\r.ownBlock=some g)/\∀g,r.ownBlock=some g->((Value.slice A n c).ownBlock=some g\/g=w.heap.size):=by
          rcases Q with Q |⟨Q,r5⟩
          .grind
          .exact⟨none,r5,λ g J=>by grind,λ g J=> .inr (by grind)⟩
         obtain⟨A',c',c1,d5,c8,c3⟩:∃A' c',r= .slice A' (n+m) c'/\n+m<=c'/\(A'=none\/∃g,A'=some ⟨g,0,none⟩/\r.ownBlock=some g)/\(A'=none->n+m=0/\c'=0):=by
          rcases r2.2 with⟨p,h0⟩ |⟨g,a7,B,p,_,_,b5,_⟩
          .grind
          .exact⟨_,a7,p,b5,.inr ⟨g,rfl,by rw[p];rfl⟩,λ h=>by grind⟩
         have f1:∀k,st.H _ k=none:=λ k=>by
          cases V:st.H _ k with
          | none=>rfl
          | some z=>exact absurd (hg.xj V) (adP _)
         have e9:st.O w.heap.size=none:=by
          cases V:st.O _ with
          | none=>rfl
          | some x=>
           obtain⟨⟨_,⟨B,k2,_⟩,_⟩,_⟩:=hg.opn _ _ V;grind
         have e0:∀g,r.ownBlock=some g->w0.nw g:=λ g J=>by
          rcases C g J with h | rfl
          .exact q.nw g h
          .exact .inl hg.below.size
         have d7:=r2.1;have f0:∀g k u,r.ownBlock=some g->st.H g k=some u->(N++l)[k]?=some u:=by
          intro g k u p E;rcases C g p with D | rfl
          .obtain⟨o,rfl,rfl,G⟩:=a4 g D;obtain⟨⟨_,_,k6⟩,_⟩:=hg.opn g _ G;have hk:k<N.length:=by
            rcases abR k (n*P.cellsOf e)with h | h
            .omega
            .rw[k6 k h]at E;grind
           rcases b9 with rfl |⟨b',o',e1,e2⟩
           .grind
           grind
          grind
         obtain⟨H2,d6⟩:∃H2:Heap,H2=λ b k=>if r.ownBlock=some b then(N++l)[k]? else st.H b k:=⟨_,rfl⟩;obtain⟨O2,c0⟩:∃O2:aU,O2=λ b=>if r.ownBlock=some b then some (.row e (n+m) c')else st.O b:=⟨_,rfl⟩;have X:Heap.le st.H H2:=by
          intro b k u E;grind
         refine⟨r,I,aK {st with H:=H2,O:=O2} _ (.one (.v (.slice A' (n+m) _))),ρ,σ,by grind,hK _ _ _ _ X ?_ d5 ?_ ?_,?_,?_,?_⟩
         .show Cells _ _ 0 (N++l);rcases c8 with rfl |⟨g,rfl,p⟩
          .left;simp_all
          .refine .inr ⟨g,0,rfl,λ t v a5=>⟨?_,?_⟩⟩
           .grind
           grind
         .rcases c8 with rfl |⟨g,rfl,p⟩
          .exact .inl ⟨rfl,c3 rfl⟩
          .exact .inr ⟨g,rfl,by simp[c0,p];rfl⟩
         .intro b f2 b2;grind
         .have e3:au [d] st {st with H:=H2,O:=O2}:=⟨rfl,rfl,λ _ _=>rfl,λ _ _ h=>h,X⟩;exact e3.trans (au.aK _ (some d) _)
         .refine Good.aK (hg.opened a8 (λ g J=>?_) X (λ b hb o=>?_) ?_ (λ i f o g W F t=>?_) (λ b x G=>?_)) _ ?_ ?_
          .grind
          .grind
          .intro b o u E;rw[d6]at E;by_cases p:r.ownBlock=some b
           .simp[p]at E;have:=r2.cells p o u E;rw[add_plain,aaT]at this;refine seen.of this ?_;grind
           .simp[if_neg p]at E;have c7:=hg.xj E;exact(hg.snap _ _ _ E).keep (a8.block b c7 (λ e=>p (b7 b e.symm).2))
          .have p:r.ownBlock≠some g:=?_
           .grind
           intro p;rcases C g p with D | rfl
           .obtain⟨_,_,_,G⟩:=a4 g D;rw[hg.dG W F]at G;grind
           .have:=(hg.db W F).1;omega
          .rw[c0]at G;by_cases p:r.ownBlock=some b
           .simp[p,aeC]at G;subst G;refine⟨⟨e0 b p,?_,λ t ht=>?_⟩,λ i f o W F=>?_⟩
            .rcases r2.2 with⟨a5,h0⟩ |⟨g,a7,B,a5,_,q1,q2,q3,q4,_⟩
             .rw[a5]at p;simp[Value.ownBlock]at p
             .rw[a5]at p c1;simp[Value.ownBlock]at p;subst p;obtain⟨_,_,rfl⟩:=c1;exact⟨_,q1,B,rfl,q2,q3,q4⟩
            .have ht:(n+m)*P.cellsOf e<=t:=ht;grind
            .rcases C b p with D | rfl
             .obtain⟨_,_,_,G⟩:=a4 b D;rw[hg.dG W F]at G;grind
             .have:=(hg.db W F).1;omega
           .simp[if_neg p]at G;obtain⟨⟨k1,⟨B,k2,k3⟩,k4⟩,k5⟩:=hg.opn b x G;refine⟨⟨k1,⟨B,(a8.block b (aaA.1 k2).1 (λ e=>p (b7 b e.symm).2)).trans k2,k3⟩,λ t ht=>?_⟩,k5⟩;grind
          .simp[SV.rel,S1.rel];grind
          .intro d' _ V;exact V
         .refine⟨λ i f o h1 _ _=>⟨f,h1⟩,λ _ _ _ _ _ _=>rfl,λ i f o h1 h2 _=>?_⟩;have F:=iE (ρ:=ρ) (σ:=σ) (i:=i) h2;refine a8.block _ (hg.db h1 F).1 (λ e=>?_);obtain⟨_,_,_,G⟩:=a4 _ (b7 _ e.symm).1;rw[hg.dG h1 F]at G;grind
       grind
      .split at h
       .
         have es:a.eval s= .slice _ 0 0:=aE hg hs;obtain⟨A,m,c,l,eu,hl,y,hA,a0,h1,hb,hK⟩:=kj hT hg hj T (aE hg U) h;have a3:m*j.bytes<=140737488355328:=hb;by_cases hm:m=0
         .subst hm;have Y:l=[]:=aal (by grind);subst Y;obtain⟨d1,z,i1,_⟩:=b6.info;have c5:=World.ownsRow_nil w w.heap.size e (P.cellsOf e);obtain⟨M,Z,a9,q1,q2,q3,q4⟩:=RQ hg hf hK (lC.refl w _) c5 (by simp);refine⟨_,w,M,Z,a9,?_,q1,q2,q3,q4⟩;rw[es,eu];simp[Builtin.append_,aL E,sizeOf,typeInfo,i1,Builtin.lenOf,Builtin.firstCells];cases A<;>simp[loadCells,loadCellsFrom]
         .obtain⟨r,I,r1,r2,r3,Q⟩:=px (P:=P) (w:=w) (ty:=ty) hT E hj T b1 (World.ownsRow_nil w _ e _) (c:=c) hl y hA (λ x U=>a0 x U hm) h1 (by grind) (aaB _);obtain⟨M,Z,a9,q1,q2,q3,q4⟩:=RQ hg hf hK (by simpa[Value.ownBlock]using r3) (by simpa using r2) h1;grind
       .
         rename_i k;split at h
         .rename_i e' n N hW;split at h
          .rename_i he;subst he;have es:a.eval s=σ k:=aE hg hs;obtain⟨A,m,c,l,eu,hl,y,hA,a0,h1,hb,hK⟩:=kj hT hg hj T (aE hg U) h;have a3:(n+m)*j.bytes<=140737488355328:=hb;have hL:=aT hW;obtain⟨q,e4,d4⟩:=hg.obj _ _ _ hL;have d8:k≠d:=λ e=>by grind
           have e5:=(aap.1 hL).1;have C:∃r I,(Builtin.append_ #[t,t] ty #[σ k,.slice A m c]).run P w= .ok r I/\kJ I w0 e' (P.cellsOf e') r (n+m) (N++l)/\lC w I (σ k).ownBlock/\(r.ownBlock=(σ k).ownBlock\/r.ownBlock=some w.heap.size):=by
            by_cases hm:m=0
            .subst hm;have Y:l=[]:=aal (by grind);subst Y;obtain⟨d1,z,i1,_⟩:=b6.info;refine⟨σ k,w,?_,by grind,lC.refl w _,.inl rfl⟩;cases A with
             | none=>exact fW E i1 q.row c
             | some ad=>
              rcases q.row.2 with⟨D,h0⟩ |⟨g,a7,B,D,_,_,b5,_⟩
              .rw[D];simp[Builtin.append_,aL E,sizeOf,typeInfo,i1,Builtin.lenOf,Builtin.firstCells,loadCells,loadCellsFrom]
              .rw[D];simp[Builtin.append_,aL E,sizeOf,typeInfo,i1,Builtin.lenOf,Builtin.firstCells,loadCells,loadCellsFrom,b5,storeCells]
            .obtain⟨r,I,r1,r2,r3,Q⟩:=px (P:=P) (w:=w) (ty:=ty) hT E hj T b1 q.row (c:=c) hl y hA (λ x U=>a0 x U hm) h1 a3 (abi _);exact⟨r,I,r1,⟨r2,λ g p=>by
              rcases Q with Q | Q
              .exact q.nw g (by grind)
              .rw[Q]at p;simp at p;subst p;exact .inl hg.below.size⟩,r3,Q⟩
           obtain⟨r,I,r1,r2,r3,Q⟩:=C;have c9:∃A m c,r= .slice A m c:=by
            rcases r2.row.2 with⟨p,_⟩ |⟨g,a7,B,p,_⟩
            .grind
            grind
           have d0:=hg.nr d hn;have S:∀i,i≠d->i≠k->((st.L.set k (some (true,.dead))).set d (some (true,.row e' (jI n m) (cat N l))))[i]?=st.L[i]?:=by
            grind
           have b4:((st.L.set k (some (true,bL.dead))).set d (some (true,.row e' (jI n m) (cat N l))))[k]?=some (some (true,.dead)):=by
            grind
           have b0:Good P w0 H0 {st with L:=(st.L.set k (some (true,.dead))).set d (some (true,.row e' (jI n m) (cat N l)))} a I ρ (vW σ d r):=by
            refine Good.step hg _ d _ _ (bD (by grind)) (λ i W=>?_) (.inr ⟨d0,λ _ _=>rfl,λ i W=>eP _ _ W⟩) r3 (λ g R=>(hg.db hL R).2) (λ g R=>hg.dG hL R) (λ i f o g W h b2 R=>?_) ?_ ?_ (λ _ _ _ _ V=>V) ?_
            .grind
            .by_cases a2:i=k
             .subst a2;rw[b4]at h;obtain⟨_,rfl⟩:=h;simp[dy]at b2
             .rw[S i W a2]at h;exact hg.sep i k f _ o _ g a2 h hL b2 R
            .simp[dj,bm];refine⟨r2,λ x U=>?_,λ g a1 o=>?_⟩
             .rcases aam.1 U with U | U
              .grind
              grind
             .rcases Q with Q | Q
              .grind
              .rw[Q]at a1;simp at a1;subst a1;cases V:st.H _ o with
               | none=>rfl
               | some z=>exact absurd (hg.xj V) (adP _)
            .intro g a1;simp[dy,bm]at a1;grind
            .intro i;by_cases a6:i=d
             .subst a6;rw[bm];grind
             .rw[eP _ _ a6];exact hg.sl i
           refine⟨r,I,_,ρ,vW σ d r,by grind,hK,?_,?_,cF.of (ch:=(σ k).ownBlock) hg (λ i=>?_) (λ _ _=>rfl) r3 (λ g R=>⟨k,_,_,_,_,hL,R⟩)⟩
           rotate_right
           .by_cases a6:i=d
            .grind
            .by_cases a2:i=k
             .grind
             .exact .inl (S i a6 a2)
           .have k1:au [d] _ (Vc.aq _ k .dead):=(au.uD hW).mono (by simp);have k2:au [d] (Vc.aq st k .dead) (Vc.aq (Vc.aq st k .dead) d (.row e' (jI n m) (cat N l))):=by
             refine(au.aq λ o' V=>?_).mono (by simp);rw[al (abu d8)]at V;grind
            exact(k1.trans k2).trans (au.aK _ (some d) _)
           .refine Good.aK b0 _ ?_ ?_
            .simp[SV.rel,S1.rel,bm]
            .intro d' e6 V;have e8:d=d':=V;grind
          grind
         grind
       grind
     grind
   grind
end
end
end Go.Vc
