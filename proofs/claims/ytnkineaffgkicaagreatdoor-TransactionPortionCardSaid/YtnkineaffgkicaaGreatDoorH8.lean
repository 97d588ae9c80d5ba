/- A part of the proof. -/
import Derived.Test.YtnkineaffgkicaaGreatDoorH6
import Derived.Laws.IdiomCopy
import Derived.Test.YtnkineaffgkicaaGreatDoorH7
set_option maxHeartbeats 0
set_option maxRecDepth 100000
set_option linter.unusedVariables false
set_option linter.defProp false
set_option linter.unusedSimpArgs false
namespace Go.Vc
open Go Go.RowKit
section
section
variable {P:Program}{Γ:fh}{w0:W0}{w:World}{H0:Heap}{st:St}{a:Act}{ρ:Nat->Nat}{σ:Nat->Value}
variable (hT:cE P Γ)(hg:Good P w0 H0 st a w ρ σ)
theorem jr {n:Nat}(w:World)(p t y c:TypeId)(b o d g:Nat)(a:Addr)(e h k:Nat)(f:G')
  (x:P.underlying p=some (.slice c)) (C:(P.info? c).map (·.size)=some n) (q:k=Nat.min e d) (A:f.length=k*n)
  (l:∀j v,f[j]?=some v->w.cell? (a.add j)=some v) (D:∀j,j<f.length->(w.cell? ⟨b,o+j,none⟩).isSome=true) (B:∀j,j<f.length->w.frozen? ⟨b,o+j,none⟩=false) (s:∀v∈f,v.oneCell'=true):
  (Builtin.copy_ #[p,t] y #[.slice (some ⟨b,o,none⟩) d g,.slice (some a) e h]).run P w= .ok (goInt k) (w.setCells b o f):=by
 have u:=run_loadCells_list (P:=P) w a _ l;have m:=run_storeCells_cells (P:=P) b o _ 0 w (by grind) (by grind) s;cases r:P.info? c with
 | none=>grind
 | some i=>
  have z:i.size=n:=by grind
  simp[Builtin.copy_,run_underlying x,Builtin.lenOf,Builtin.firstCells,sizeOf,typeInfo,r,z,<-q,<-A,u,m]
theorem AY {h:Nat}(w:World)(g l n b:TypeId)(d a:D')(c e f:Nat)(m:P.underlying g=some (.slice b))(o:(P.info? b).map (·.size)=some h):
  (Builtin.copy_ #[g,l] n #[.slice d c e,.slice a 0 f]).run P w= .ok (goInt 0) w:=by
 cases j:P.info? b with
 | none=>grind
 | some i=>
  have k:∀(x:Addr),(loadCells x 0).run P w= .ok _ w:=λ x=>by rfl
  cases d<;>cases a<;>simp[Builtin.copy_,run_underlying m,Builtin.lenOf,Builtin.firstCells,sizeOf,typeInfo,j,storeCells,k]
include hT hg in
theorem IS {U:Option Tmp}{t M W e:TypeId}{i j:tj}{x y:Operand}{xv yv:SV}{S:String}{u:Array Edge}{gd:Option (Nat×Bool)}{K:St->Prop}
  (hi:Γ t=some i) (a1:i.ty= .slice e) (hj:Γ e=some j) (hx:ev st x=some xv) (hy:ev st y=some yv) (h:IC st U e j xv yv K):
  oU P w0 H0 st a w ρ ⟨U,.call {callee:= .builtin .copy,args:=#[x,y],argTypes:=#[t,M]},W,S,u,gd⟩ K:=by
 have hu:=(hT _ _ hi).und;rw[a1]at hu;have V:=hT _ _ hj;have hv:=aE hg hx;unfold IC at h;split at h
 .grind
 rename_i d;split at h
 .rename_i k;split at h
  .rename_i e' n R hW;split at h
   .rename_i he;obtain⟨rfl,a0⟩:=he;obtain⟨A2,m,c2,f,eu,hl,D,hA,b9,h1,h⟩:=kj hT hg hj a0 (aE hg hy) h;obtain⟨G,hK⟩:=h;have G:m<=n:=G;have hL:=aT hW;obtain⟨l,c0,F⟩:=hg.obj _ _ _ hL;have b5:R.length=n*j.size:=by rw[l.row.1,V.cellsOf]
    have b8:f.length<=n*j.size:=by rw[hl];exact aaC _ G
    have ex:a.eval x=σ k:=hv;have ey:=eu;have r:(P.info? e').map (·.size)=some j.size:=by obtain⟨b4,z,i1,i2,_⟩:=V.info;grind
    have N:∀{w':World} {p:St},(Builtin.copy_ #[t,M] W #[σ k,.slice A2 m c2]).run P w= .ok (goInt m) w'->K (Vc.aK p (some d) (.one (.v (.int .i64 (qI m)))))->au [] st p->Good P w0 H0 p a w' ρ σ->
      cF (λ i=>yu st (.call {callee:= .builtin .copy,args:=#[x,y],argTypes:=#[t,M]})=some i) st p ρ ρ w w'->
      oU P w0 H0 st a w ρ ⟨some d,.call {callee:= .builtin .copy,args:=#[x,y],argTypes:=#[t,M]},W,S,u,gd⟩ K:=by
     intro w' p hr q1 q2 q3 q4;refine⟨.value _,.int _ _,w',_,ρ,σ,?_,.inl rfl,q1,(q2.mono (by simp)).trans (au.aK _ _ _),Good.aK q3 _ rfl (λ _ _ Q=>Q),q4.trans (FU _ _ _ _ _)⟩;simp[execOp,resolve,invoke,builtin,ex,ey,hr];rfl
    by_cases a5:m=0
    .subst a5;have T:f=[]:=aal (by grind);subst T;have a2:Vc.aq st k (.row e' n (av R 0 []))=st:=by
      have:st.L.set k (some (true,.row e' n R))=st.L:=by
       obtain⟨b6,h1⟩:=aap.1 hL;rw[<-h1];simp
      simp[av,Vc.aq,this]
     rw[a2]at hK;obtain⟨A,c,X⟩:∃A c,σ k= .slice A n c:=by
      rcases l.row.2 with⟨H,h0⟩ |⟨g,I,B,H,_⟩
      .grind
      grind
     exact N (by rw[X];exact AY w t _ _ _ A _ n c _ hu r) hK (au.refl _) hg (cF.refl _ _ w)
    rcases l.row.2 with⟨h0,T⟩ |⟨g,I,B,X,a8,hb,a7,a6,b7,E⟩
    .omega
    have O:(σ k).ownBlock=some g:=by rw[X];rfl
    have b1:n*j.size<=B.size:=by grind
    obtain⟨Y,rfl⟩:∃Y,A2=some Y:=by
     cases A2 with
     | none=>grind
     | some Y=>simp
    have b2:=jr (P:=P) w t M W _ g 0 n I Y m c2 m _ hu r (by grind) hl (λ q v hq=>by
      obtain⟨b,o,e1,hc⟩:=D q v hq;cases e1;rw[add_plain];grind)
     (λ q hq=>by simp[World.cell?,hb,show q<B.size by omega]) (λ q hq=>by simp[World.frozen?,hb]) h1
    obtain⟨C,J,a4⟩:=bQ f 0 w _ hb (by omega);have a9:lC w (w.setCells g 0 f) (some g):=⟨⟨J.os,J.tape,J.output,by rw[J.size];simp,λ k' b3 Z=>J.block k' (λ e=>Z (by grind))⟩,J.drawn⟩;obtain⟨p,q1,q2,q3,q4⟩:=uF (w':=w.setCells g 0 f) (g:=g) (K:=λ s=>K (Vc.aK s (some d) (.one (.v (.int .i64 (qI m)))))) hg hW O (by exact O) hK a9 (by
     have a3:(av R 0 f).length=R.length:=by simp[av,aaE];omega
     have b0:C.toList.length=B.size:=by grind
     refine⟨⟨⟨by rw[a3,l.row.1],.inr ⟨g,I,C,X,a8,J.here,a7,a6,T' ?_⟩⟩,l.nw⟩,?_,F⟩
     .rw[a4];simp[av,aaT];rw[<-E,aco,aag (by grind),aej]
     .intro v H;simp[av]at H;grind) (λ _ _ _ Q=>Q)
    exact N (by grind) q1 q2 q3 (q4.mono λ i Q=>by simp[nE]at Q)
   grind
  grind
 grind
end
end
section
variable {b:Oper}{c:St->Prop}{d:Nat}{e:List Oper}{f:Exit->Act->World->Prop}{g:TypeId}{h:Operand}{i:SV}
section
variable {P:Program}{Γ:fh}{w0:W0}{w w':World}{H0 H':Heap}{st:St}{a:Act}{ρ:Nat->Nat}{σ:Nat->Value}{an:fI}
def wb {b c:List SV}{a d:G'}:nH ρ σ b a->nH ρ σ c d->nH ρ σ (b++c) (a++d):=by
 induction b generalizing a with
 | nil=>
  intro h k;cases a with
  | nil=>grind
  | cons _ _=>exact h.elim
 | cons x b e=>
  intro h k;cases a with
  | nil=>exact h.elim
  | cons u a=>exact⟨h.1,e h.2 k⟩
def yQ (e:Good P w0 H0 st a w ρ σ):∀{d:List Operand} {b:List SV},Iv st d=some b->nH ρ σ b (d.map a.eval)
 |[],b,h=>by simp[Iv]at h;subst h;trivial
 | x::d,b,h=>by
  simp[Iv]at h;split at h
  .rename_i r g;split at h
   .rename_i f c;simp at h;subst h;exact⟨aE e g,yQ e c⟩
   grind
  grind
def BV (d:Good P w0 H0 st a w ρ σ):∀{b:List S1} {e:G'},bO ρ σ b e->nH ρ σ (b.map λ c=> .one (mx st c)) e
 |[],[],_=>trivial
 | _::_,_::_,h=>⟨yy d.obj h.1,BV d h.2⟩
 |[],_::_,h=>h.elim
 | _::_,[],h=>h.elim
def KT:∀(a:G'),nH ρ σ (a.map λ c=>SV.one (.v c)) a
 |[]=>trivial
 | _::a=>⟨rfl,KT a⟩
def wc (P:Program)(w0:W0)(H0:Heap)(d:List Nat)(st:St)(K:St->Prop)(next:Act->World->Prop):Prop:=
 ∀a' w' a c b,K a->au d st a->Good P w0 H0 a a' w' c b->next a' w'
def BW (P:Program)(an:fI)(w0:W0)(H0:Heap)(o:Oper)(st:St)(w:World)(ρ:Nat->Nat)(K:St->Prop)(next:Act->World->Prop):Prop:=
 ∀a' w' a b c,K a->au o.dst.toList st a->Good P w0 H0 a a' w' b c->cF (λ i=>yu st o.op=some i\/Fs an st o=some i) st a ρ b w w'->next a' w'
def oU.wp {o:Oper}{K:St->Prop}(h:oU P w0 H0 st a w ρ o K){next:Act->World->Prop}{Q:Exit->Act->World->Prop}(g:BW P an w0 H0 o st w ρ K next):o.wp P a w next Q:=by
 obtain⟨m,v,w',l,k,j,d,i,f,c,e,b⟩:=h;rcases i with rfl |⟨rfl,rfl⟩
 .simp[Oper.wp,d];exact g _ _ _ _ _ f c e (b.mono λ _=> .inl)
 .simp[Oper.wp,d];exact g _ _ _ _ _ f c e (b.mono λ _=> .inl)
def DE {f:FuncId}(h:fN P f)(a:Array Value)(w:World):(callFunc f a).run P w= .ok (.enter f a) w:=by
 obtain⟨d,e,g,i⟩:=h;have b:d.body≠none:=by
  grind
 have c:¬d.name= "runtime.NumGoroutine":=by
  grind
 simp[callFunc,e,b,c]
def KU {d:FuncId}{us:G'}{X:Nat->Prop}(g:du P w0 H0 st a w ρ b.dst d us c X)(q:∀i,X i->Fs an st b=some i)
  (h:(execOp a.eval b).run P w=(callFunc d us.toArray).run P w) {next:Act->World->Prop} (t:BW P an w0 H0 b st w ρ c next):b.wp P a w next f:=by
 simp[Oper.wp,h,DE g.1];refine Calls.mono g.2 ?_;rintro e w' ⟨v,m,l,r,rfl,n,j,p,k⟩;exact t _ _ _ _ _ n j p (k.mono λ i s=> .inr (q i s))
def fj (st:St)(d:Option Tmp)(x:SV)(ρ:Nat->Nat)(w:World){X:Nat->Prop}:cF X st (aK st d x) ρ ρ w w:=by
 refine⟨λ i f o h _ _=>⟨f,?_⟩,λ _ _ _ _ _ _=>rfl,λ _ _ _ _ _ _=>rfl⟩;cases d<;>exact h
def Mn {c:Option Operand}(a:RH an b=some (d,g,h,c)):b.dst=some d/\b.op= .slice g h none c none:=by
 unfold RH at a;grind
def IU (hT:cE P Γ)(D:Good P w0 H0 st a w ρ σ){A:Option Operand}(a6:RH an b=some (d,g,h,A))(hx:ev st h=some i)(p:TE Γ st d g i A c)
  {next:Act->World->Prop} (hn:BW P an w0 H0 b st w ρ c next):b.wp P a w next f:=by
 obtain⟨W,N⟩:=Mn a6;unfold TE at p;split at p
 .grind
 .rename_i q O;split at p
  .rename_i e T;split at p
   .grind
   .rename_i j hj;split at p
    .rename_i k;split at p
     .rename_i R n S X;split at p
      .rename_i s C;split at p
       .rename_i hc;obtain⟨rfl,hf⟩:=hc;obtain⟨h0,J,hK⟩:=p;have G:yj Γ st b.op λ r=>r= .one (.sub k 0 s.toNat j.size):=by
         rw[N];have a8:kg st k=some (.row R n S):=by
          have:=aT X;unfold kg;grind
         simp only[yj,hx,tm,O,T,hj,a8,C];exact⟨abt _,h0,J,rfl⟩
        obtain⟨v,r,F,r2,r3,r4⟩:=nC hT D G;subst r4;replace F:=F w (kh.refl D);have M:ja st R (.sub k 0 s.toNat j.size)=some (s.toNat,yf S n s.toNat,Vc.aq st k .dead):=by
         simp[ja,X]
        have U:=pz D M (y:=v) r2;have z:=gU M;have a3:=D.ab7 z;have Y:=aT X;have a2:k≠d:=by
         have:=bw hf;grind
        have I:da (Vc.aq st k .dead) d=true:=by
         have:=bw hf;unfold da;rw[al (abu a2),this]
        obtain⟨a9,V⟩:=U.each _ (aaD.2 rfl);have E:∀m,v.ownBlock=some m->(σ k).ownBlock=some m/\∀(q:Nat) (l:Bool) (b:bL),(Vc.aq st k .dead).L[q]?=some (some (l,b))->dy ρ σ q b≠some m:=by
         intro m B;obtain⟨k',e2,n2,b1,q1,q2,q3⟩:=V m B;have a0:k'=k:=by
          refine Classical.byContradiction λ Z=>?_;unfold bj at q2;rw[al Z]at q2;grind
         subst a0;refine⟨q3,λ q l b A C=>?_⟩;by_cases u:q=k'
         .subst u;simp[Vc.aq]at A;rw[bD (aap.1 Y).1]at A;simp at A;rw[<-A.2]at C;simp[dy]at C
         .rw[al u]at A;exact D.sep q _ _ _ _ _ m u A Y C q3
        have a4:=a3.IM (r:=⟨v,R,s.toNat,yf S n s.toNat⟩) I (by rw[z.H];grind) (λ q l b m A C B=>(E m B).2 q l b A C) (λ m B=>by exact D.dG Y (E m B).1);have b0:=kM I;have a1:=Good.aK a4 (some d) (r:= .one (.own d)) (v:=v) (by show v=vW _ d v d;rw[bm]) (λ d' b2 hr=>by
         have hr:d=d':=hr;have e:(Vc.aq (Vc.aq st k .dead) d (.row R s.toNat (yf S n s.toNat))).L[d]?=some (some (true,.row R s.toNat (yf S n s.toNat))):=by
          show((Vc.aq _ k _).L.set d _)[d]?=_;grind
         grind)
        simp[Oper.wp,F,Oper.upon];rw[W];refine hn _ _ _ _ _ hK ?_ a1 ?_
        .rw[W];exact(((au.uD X).trans (au.iD I)).mono (by simp)).trans (au.aK _ _ _)
        .refine⟨λ q l b J h2 _=>⟨l,?_⟩,λ _ _ _ _ _ _=>rfl,λ _ _ _ _ _ _=>rfl⟩;have u:q≠k:=by rintro rfl;rw[Y]at J;simp at J;rw[<-J.2]at h2;simp[nE]at h2
         have a7:q≠d:=by rintro rfl;rw[bw hf]at J;grind
         show(Vc.aq _ d _).L[q]?=_;rw[al a7,al u];grind
       grind
      grind
     grind
    .split at p
     .rename_i s C;obtain⟨h0,hK⟩:=p;subst h0;have G:yj Γ st b.op λ r=>r= .one (.v (.slice none 0 0)):=by
       rw[N];have a5:bound _ _ (qI 0)=some 0:=C;simp only[yj,hx,tm,O,T,hj,a5];refine⟨abt _,abt _,abt _,λ A' hA=>?_⟩;subst hA;rfl
      obtain⟨v,r,F,r2,r3,r4⟩:=nC hT D G;subst r4;replace F:=F w (kh.refl D);simp[Oper.wp,F,Oper.upon];rw[W];refine hn _ _ _ _ _ hK ?_ (Good.aK D _ r2 λ _ _ s=>s) (fj _ _ _ _ _);rw[W];exact au.aK _ _ _
     grind
    grind
  grind
def Mo {c:BinOp}{u:TypeId}{y:Operand}(a:RI an b=some (c,g,h,y,u)):b.op= .binOp c g h y u:=by
 unfold RI at a;grind
def IV (s:Good P w0 H0 st a w ρ σ){p:BinOp}{u:TypeId}{y:Operand}{D:SV}(C:RI an b=some (p,g,h,y,u))(M:ev st h=some i)(J:ev st y=some D)(d:TF st b.dst p i D c)
  {next:Act->World->Prop} (N:BW P an w0 H0 b st w ρ c next):b.wp P a w next f:=by
 have A:=Mo C;obtain⟨j,G,F,q,e,E⟩:=b;subst A;unfold TF at d;split at d
 .rename_i k m;split at d
  .rename_i S n;split at d
   .rename_i B;subst B;have O:a.eval h= .int k m:=aE s M;have H:a.eval y= .int k n:=aE s J;have l:∀z:Int,(binOp p g (.int k m) (.int k n)).run P w= .ok (.int k (k.wrap z)) w->c (aK st j (.one (.v (.int k (k.wrap z)))))->(⟨j,.binOp p g h y u,F,q,e,E⟩:Oper).wp P a w next f:=by
     intro z I B;have R:(execOp a.eval ⟨j,.binOp p g h y u,F,q,e,E⟩).run P w= .ok (.value (.int k (k.wrap z))) w:=by
      simp[execOp,O,H,rL,I]
     simp[Oper.wp,R];exact N _ _ _ _ _ B (au.aK _ _ _) (Good.aK s _ (r:= .one _) rfl (λ _ _ L=>L)) (fj _ _ _ _ _)
    split at d
    .exact l _ (by simp[binOp,ne_eq];rfl) d
    .exact l _ (by simp[binOp,ne_eq];rfl) d
    .exact l _ (by simp[binOp,ne_eq];rfl) d
    grind
   grind
  grind
 grind
def nJ (C:cE P Γ)(p:Good P w0 H0 st a w ρ σ){o:Oper}{K:St->Prop}(h:yt P Γ an st o K){next:Act->World->Prop}
  (z:BW P an w0 H0 o st w ρ K next):o.wp P a w next f:=by
 unfold yt at h;split at h
 .rename_i d t x L Y;split at h
  .rename_i x' G;exact IU C p Y G h z
  grind
 rename_i a3;split at h
 .rename_i op t x y u a1;split at h
  .grind
  .rename_i U G;split at h
   .grind
   .rename_i yv O;exact IV p a1 G O h z
 rename_i a4;generalize a7:LY _=rd at h;cases rd;case true=>
  obtain⟨v,r,W,h2,h3,h4⟩:=nC C p h;replace W:=W w (kh.refl p);simp[Oper.wp,W];exact z _ _ _ _ _ h4 (au.aK _ _ r) (Good.aK p _ h2 λ d hd=>h3 d (p.nr d hd)) (fj _ _ _ _ _)
 case false=>
  obtain⟨S,op,ty,a0,J,gd⟩:=o;cases op<;>try (exact h.elim)
  case alloc t=>exact(FD C p h).wp z
  case box t x=>exact(Mh C p h).wp z
  case buildSlice t n parts=>exact(uE C p h).wp z
  case makeSlice t l c=>exact(xk C p h).wp z
  case store t x y=>exact(FE C p h).wp z
  case makeMap t r=>exact(AX C p h).wp z
  case lookup t m k ok=>exact(DC C p h).wp z
  case mapUpdate t m k x=>exact(xp C p h).wp z
  case range t m=>exact(FW C p h).wp z
  case next x b=>exact(IQ C p h).wp z
  case entry x=>exact(FX C p h).wp z
  case call c=>
   obtain⟨callee,args,argTypes⟩:=c;cases callee with
   | invoke r m=>exact h.elim
   | builtin b=>
    cases b<;>try (exact h.elim)
    case append=>
     simp only[iC]at h;split at h
     .rename_i s x q;split at h
      .rename_i t t' B;split at h
       .rename_i Z;subst Z;split at h
        .grind
        .rename_i sv hs;split at h
         .grind
         .rename_i U G;obtain⟨v,w',R,a5,a6,r1,r2,r3,r4,r5⟩:=Dz C p (ty:=ty) hs G h;have M:=acO q;have N:=acO B;subst M;subst N;have he:(execOp a.eval ⟨S,.call {callee:= .builtin .append,args:=#[s,x],argTypes:=#[t,t]},ty,a0,J,gd⟩).run P w= .ok (.value v) w':=by
           simp[execOp,resolve,invoke,builtin,r1]
          simp[Oper.wp,he];exact z _ _ _ _ _ r2 r3 r4 r5.any
       grind
      grind
     grind
    case copy=>
     simp[iC]at h;split at h
     .rename_i x y q;split at h
      .rename_i t t' B;split at h
       .rename_i i L;split at h
        .rename_i e I;split at h
         .rename_i j hj;split at h
          .rename_i U G;split at h
           .rename_i yv O;have M:=acO q;have N:=acO B;subst M;subst N;exact(IS C p L I hj G O h).wp z
           grind
          grind
         grind
        grind
       grind
      grind
     grind
    case clear=>
     simp[iC]at h;split at h
     .rename_i x q;split at h
      .rename_i t B;split at h
       .rename_i i L;split at h
        .rename_i e I;split at h
         .rename_i j hj;split at h
          .rename_i U G;have M:=acO q;have N:=acO B;subst M;subst N;exact(FF C p L I hj G h).wp z
          grind
         grind
        grind
       grind
      grind
     grind
   | value g=>
    simp[iC]at h;split at h
    .rename_i f' F X;obtain⟨ys,O,hr⟩:=aE p X;refine KU (us:=args.toList.map a.eval++ys.toList) (tG p ?_ h) ?_ ?_ z
     rotate_left
     .rintro i ⟨H,ls,A,V,L⟩;simp[Fs,yw];grind
     rotate_right
     .intro R E H A;split at A
      .rename_i T D;simp at A;subst A;exact wb (yQ E D) (BV E hr)
      grind
     .have:(args.map a.eval++ys)=(args.toList.map a.eval++ys.toList).toArray:=by
       simp
      simp[execOp,resolve,invoke,O,Deferred.ofValue];grind
    .rename_i f' first F X
     have hv:a.eval g= .func _ _ _:=aE p X;split at h
     .rename_i a2;have M:first=#[]:=acO a2
      refine KU (us:=args.toList.map a.eval++F.toList) (tG p ?_ h) ?_ ?_ z
      rotate_left
      .rintro i ⟨H,ls,A,V,L⟩;simp[Fs,yw];grind
      rotate_right
      .intro R E H A;split at A
       .rename_i T D;simp at A;subst A;exact wb (yQ E D) (KT _)
       grind
      .have:(args.map a.eval++F)=(args.toList.map a.eval++F.toList).toArray:=by
        simp
       simp[execOp,resolve,invoke,hv,Deferred.ofValue];grind
     grind
    grind
def we (v:Value):Option Bool:=match v with
 | .bool b=>some b
 | _=>none
def iF (f:Good P w0 H0 st a w ρ σ){b:Nat}(c:tq e d=some b)(n:st.fr[b]?=some i){v:Value}(k:∀y,i.rel ρ σ y->y=v):
  yielded e.toArray a.tmps d=we v:=by
 have p:=k _ (f.fr b i n);have g:b<a.tmps.size:=by rw[f.size];grind
 have m:a.tmps[b]?=some v:=by
  simp_all
 unfold tq at c;split at c
 .rename_i o h;simp[yielded,h,c,m];cases v<;>rfl
 grind
def tH (i:Good P w0 H0 st a w ρ σ)(h:Di e d st c):
  ∃g,c g/\au ((tq e d).toList) st g/\Good P w0 H0 g a w ρ σ/\cF Dx st g ρ ρ w w:=by
 unfold Di at h;split at h
 .exact⟨st,h,(au.refl _).mono (by simp),i,cF.refl _ _ _⟩
 .rename_i f t;have k:∀x:SV,st.fr[f]?=some x->∀b:Bool,(∀y,x.rel ρ σ y->y= .bool b)->(b=true->c (aK st (some f) (.one .tt)))/\(b=false->c (aK st (some f) (.one .ff)))->
    ∃g,c g/\au ((some f).toList) st g/\Good P w0 H0 g a w ρ σ/\cF Dx st g ρ ρ w w:=by
   intro x n b u q;have s:=u _ (i.fr f x n);have m:f<a.tmps.size:=by rw[i.size];grind
   cases b
   .refine⟨_,q.2 rfl,au.aK _ _ _,?_,fj _ _ _ _ _⟩;have:=Good.aK i (some f) (r:= .one .ff) (v:= .bool _) rfl (λ _ _ p=>p)
    rwa[pt s m]at this
   .refine⟨_,q.1 rfl,au.aK _ _ _,?_,fj _ _ _ _ _⟩;have:=Good.aK i (some f) (r:= .one .tt) (v:= .bool _) rfl (λ _ _ p=>p)
    rwa[pt s m]at this
  rw[t];split at h
  .rename_i x n;exact k _ n x (λ y o=>o) h
  .rename_i x n;exact k _ n x (λ y o=>o) h
  .exact⟨st,h,(au.refl _).mono (by simp),i,cF.refl _ _ _⟩
def pG (x:cE P Γ)(p:Good P w0 H0 st a w ρ σ)(B:e[d]?=some b)(h:BM P Γ an e st b c){next:Act->World->Prop}{Q:Exit->Act->World->Prop}
  (s:BW P an w0 H0 b st w ρ c next):wpOp P e.toArray Q d next a w:=by
 have u:e.toArray[d]?=some b:=by grind
 have n:=λ z=>
  s _ _ _ _ _ z (au.aK _ _ _) (Good.aK p _ (r:= .one .un) rfl (λ _ _ A=>A)) (fj _ _ _ _ _)
 unfold BM at h;unfold wpOp;simp[u];split at h
 .rename_i g;simp[Region.wanted,g];exact .inl (nJ x p h s)
 .rename_i j m g;split at h
  .grind
  .rename_i f t;split at h
   .rename_i q;have k:=iF p t q (v:= .bool _) (λ y k=>k);cases m
    .simp[Region.wanted,g,k,we];grind
    .simp[Region.wanted,g,k];exact .inl (nJ x p h s)
   .rename_i q;have k:=iF p t q (v:= .bool _) (λ y k=>k);cases m
    .simp[Region.wanted,g,k];exact .inl (nJ x p h s)
    .simp[Region.wanted,g,k,we];grind
   .rename_i q;have k:=iF p t q (v:=undef) (λ y k=>k);simp[Region.wanted,g,k];exact n h
   grind
def RU:∀{i:Nat} {o:Oper},e[i]?=some o->∀d,o.dst=some d->d∈cU e:=by
 induction e with
 | nil=>simp
 | cons x e b=>
  intro i o h d a;cases i with
  | zero=>
   simp at h;subst h;simp[cU,a]
  | succ i=>
   simp[cU];grind
def nK (h:e[d]?=some b):∀x∈b.dst.toList,x∈cU e:=by
 intro x c;cases f:b.dst with
 | none=>grind
 | some a=>rw[f]at c;simp at c;subst c;exact RU h _ f
def uG:∀x∈(tq e d).toList,x∈cU e:=by
 intro x a;unfold tq at a;split at a
 .rename_i o b;exact nK b x a
 grind
def uH (f:Good P w0 H0 st a w ρ σ){d:Option Tmp}(h:Wp an d st c):∃b,c b/\au d.toList st b/\Good P w0 H0 b a w ρ σ/\cF Dx st b ρ ρ w w:=by
 unfold Wp at h;split at h
 .exact⟨st,h,au.refl _,f,cF.refl _ _ _⟩
 .rename_i d;split at h
  .exact⟨st,h,(au.refl _).mono (by simp),f,cF.refl _ _ _⟩
  .split at h
   .rename_i x k;obtain⟨e,h⟩:=h;subst e;have j:=f.fr d _ k;have g:d<a.tmps.size:=by rw[f.size];grind
    refine⟨_,h,au.aK _ _ _,?_,fj _ _ _ _ _⟩;have:=Good.aK f (some d) (r:=Xj x) (v:= .bool x) (by cases x<;>rfl) (λ _ _ i=>by cases x<;>exact i)
    rwa[pt j g]at this
   .exact⟨st,h,(au.refl _).mono (by simp),f,cF.refl _ _ _⟩
def mi (j:cE P Γ){l:List Oper}{Q:Exit->Act->World->Prop}{K:St->Prop}:∀{c:List Nat} {st:St} {a:Act} {w:World} {ρ:Nat->Nat} {σ:Nat->Value},
  Good P w0 H0 st a w ρ σ->nu P Γ an l K (qM l c) st->wc P w0 H0 (cU l) st K (Q .normal)->wpOps P l.toArray Q c a w
 |[],st,a,w,ρ,σ,hg,h,hn=>hn _ _ _ _ _ h ((au.refl st).mono (by simp)) hg
 | i::c,st,a,w,ρ,σ,hg,h,hn=>by
  simp[qM]at h;split at h
  .simp[nu]at h;split at h
   .rename_i o g;refine pG j hg g h ?_;intro D w' u n v e b d _;obtain⟨p,e,x,f,_⟩:=uH d e;obtain⟨B,z,F,C,_⟩:=tH f e;have m:=((b.mono (nK g)).trans (x.mono (nK g))).trans (F.mono uG);exact mi j C z λ E A q s k r y t=>hn _ _ _ _ _ r (m.trans y) t
   grind
  .simp[nu]at h;split at h
   .rename_i o g;refine pG j hg g h ?_;intro D w' u n v e b d _;obtain⟨p,e,x,f,_⟩:=uH d e;exact mi j f e λ E A q s k r y t=>hn _ _ _ _ _ r (((b.mono (nK g)).trans (x.mono (nK g))).trans y) t
   grind
def IW (n i:Nat):aeB n i=(List.range n).map (·+i):=by
 induction n generalizing i with
 | zero=>rfl
 | succ n a=>
  rw[aeB,a,List.range_succ_eq_map];simp only[abq,List.map_map,aaT];congr 1;apply acV;grind
def DF (d:cE P Γ)(e:Good P w0 H0 st a w ρ σ){id:Nat}{b:Array Oper}{Q:Exit->Act->World->Prop}
  (h:nu P Γ an b.toList c (qM b.toList (aeB b.toList.length 0)) st) (f:wc P w0 H0 (cU b.toList) st c (Q .normal)):(Code.region id b false).wp P Q a w:=by
 apply wp_region;have:=mi d (Q:=Q) e h f;rw[IW]at this;simp_all
end
end
def eE:∀{c:List Item} {R:Type} {p:jk c R} {b:St} {q:R} {a:St},jK c p b=some (q,a)->dd b a
 |[],R,p,b,q,a,h=>by
  obtain⟨_,rfl⟩:=h;exact dd.refl _
 | .slot d g ls::c,R,p,b,q,a,h=>by
  simp[jK]at h;split at h
  .split at h
   .split at h
    .rename_i f;exact(dv f).trans (eE h)
    grind
   .split at h
    .rename_i f;exact(dv f).trans (eE h)
    grind
   grind
  grind
 | .box i t ls::c,R,p,b,q,a,h=>by
  simp[jK]at h;split at h
  .split at h
   .split at h
    .rename_i f;exact(dv f).trans (eE h)
    grind
   grind
  grind
 | .arr i t::c,R,p,b,q,a,h=>by
  simp[jK]at h;split at h
  .split at h
   .exact eE h
   grind
  grind
 | .im i e::c,R,p,b,q,a,h=>by
  simp[jK]at h;split at h
  .rename_i j;split at h
   .exact(dd.kill j).trans (eE h)
   grind
  grind
def bh:List Item->List Nat
 |[]=>[]
 | .slot _ _ _::is=>bh is
 | .box i _ _::is=>i::bh is
 | .arr i _::is=>i::bh is
 | .im i _::is=>i::bh is
def kO:∀{c:List Item} {R:Type} {p:jk c R} {f:St} {q:R} {a:St},jK c p f=some (q,a)->∀i∈bh c,∃o,f.L[i]?=some (some (true,o))
 |[],R,p,f,q,a,h=>by simp[bh]
 | .slot d g ls::c,R,p,f,q,a,h=>by
  have k:∀{l:St} {x:Type} {y:jk c _} {z:x} {s:St},dd f l->jK _ y l=some (z,s)->∀i∈bh c,∃o,f.L[i]?=some (some (true,o)):=by
   intro l x y z s A C i B;obtain⟨o,v⟩:=kO C i B;rcases A.L i with r |⟨_,e,n,w,u⟩
   .grind
   grind
  simp[jK]at h;split at h
  .split at h
   .split at h
    .rename_i r;exact k (dv r) h
    grind
   .split at h
    .rename_i r;exact k (dv r) h
    grind
   grind
  grind
 | .box i t ls::c,R,p,f,q,a,h=>by
  simp[jK]at h;split at h
  .rename_i m;split at h
   .split at h
    .rename_i r;intro j b;rcases aaw.1 b with rfl | b
     .exact⟨_,aT m⟩
     .obtain⟨o,v⟩:=kO h j b;rcases(dv r).L j with u |⟨_,e,n,w,u⟩
      .grind
      grind
    grind
   grind
  grind
 | .arr i t::c,R,p,f,q,a,h=>by
  simp[jK]at h;split at h
  .rename_i m;split at h
   .intro j b;rcases aaw.1 b with rfl | b
    .exact⟨_,aT m⟩
    .exact kO h j b
   grind
  grind
 | .im i e::c,R,p,f,q,a,h=>by
  simp[jK]at h;split at h
  .rename_i m;split at h
   .intro j b;rcases aaw.1 b with rfl | b
    .exact⟨_,aT m⟩
    .obtain⟨o,v⟩:=kO h j b;rcases(dd.kill m).L j with u |⟨_,e,n,w,u⟩
     .grind
     grind
   grind
  grind
section
variable {b:S1}{c:Value}{d:Nat}
structure LI (P:Program)(w0:W0)(H0:Heap)(a:Act)(w:World)(ρ:Nat->Nat)(σ:Nat->Value)(S st3 bs:St)(σ':Nat->Value)(cst:St):Prop where
 good:Good P w0 H0 bs a w ρ σ'
 ab7:dd S cst
 H:bs.H=S.H
 fl:bs.fr.length=S.fr.length
 ll:bs.L.length=S.L.length
 src:∀(j:Nat) (f:Bool) (o:bL) (g:Nat),bs.L[j]?=some (some (f,o))->dy ρ σ' j o=some g->
  ∃(j':Nat) (f':Bool) (o':bL),S.L[j']?=some (some (f',o'))/\dy ρ σ j' o'=some g/\((j'=j/\¬bj st3 j')\/bj cst j')
 ole:∀b:Nat,bs.O b≠none->S.O b=bs.O b
 sg:∀(j:Nat) (f:Bool),bs.L[j]?=some (some (f,.dead))->σ' j=σ j
section
variable {P:Program}{Γ:fh}{w0:W0}{w w':World}{H0 H':Heap}{a:Act}{ρ:Nat->Nat}{σ:Nat->Value}{an:fI}{S st3:St}
def LI.dG {c d:St}{b:Nat->Value}(e:LI P w0 H0 a w ρ σ S st3 c b d)(j:Good P w0 H0 S a w ρ σ){i:Nat}{f:Bool}{o:bL}{g:Nat}(h:S.L[i]?=some (some (f,o)))(l:dy ρ σ i o=some g):c.O g=none:=by
 cases m:c.O g with
 | none=>rfl
 | some x=>
  have k:=e.ole g (by grind);rw[j.dG h l]at k;grind
def AZ (T:Good P w0 H0 S a w ρ σ){K D p:St}{E:Nat->Value}(t:LI P w0 H0 a w ρ σ S st3 K E D){e:TypeId}{R:G'}
  (h:ja D e b=some (d,R,p)) (hr:b.rel ρ σ c) (a3:∀k,bj p k->bj st3 k) {i:Nat} (hf:da K i=true):
  LI P w0 H0 a w ρ σ S st3 (aq K i (.row e d R)) (vW E i c) p:=by
 have v:∀(r:cP),r.e=e->r.n=d->r.xs=R->r.s=c->jX P w0 w K.H r->dd D p->
   (∀g,c.ownBlock=some g->∃(k:Nat) (B:TypeId) (m:Nat) (Q:List _),S.L[k]?=some (some (true,.row B m Q))/\dy ρ σ k (.row B m Q)=some g/\bj p k/\¬bj D k)->
   LI P w0 H0 a w ρ σ S st3 (aq K i (.row e d R)) (vW E i c) p:=by
  rintro r rfl rfl rfl rfl a0 hd hk;have Y:∀g,r.s.ownBlock=some g->K.O g=none:=λ g I=>by
   obtain⟨k,B,m,Q,U,k2,_⟩:=hk g I;exact t.dG T U k2
  refine⟨t.good.IM hf a0 ?_ Y,t.ab7.trans hd,t.H,t.fl,by simpa[aq]using t.ll,?_,t.ole,λ j f F=>?_⟩
  rotate_right
  .by_cases u:j=i
   .simp[aq]at F;grind
   .rw[al u]at F;rw[eP _ _ u];exact t.sg j f F
  .intro j f o g F G I;obtain⟨k,B,m,Q,U,k2,k3,k4⟩:=hk g I;obtain⟨V,f',o',h1,X,h3⟩:=t.src j f o g F G;have W:V≠k:=by
    grind
   exact T.sep _ k _ _ _ _ g W h1 U X k2
  .intro j f o g F G;by_cases u:j=i
   .subst u;simp[aq]at F;simp[dy,bm]at G;grind
   .rw[al u]at F;have a1:dy ρ E j o=some g:=by
     cases o<;>simp[dy]at G⊢<;>try exact G
     rw[eP _ _ u]at G;grind
    obtain⟨V,f',o',h1,X,h3⟩:=t.src j f o g F a1;exact⟨V,f',o',h1,X,h3.imp id λ h=>hd.keeps h⟩
 have q:=gU h;unfold ja at h;split at h
 .rename_i k;split at h
  .rename_i B J C hW;split at h
   .rename_i he;subst he;simp at h;obtain⟨rfl,rfl,rfl⟩:=h;have a2:=hr;subst a2;have hc:=aT hW;have z:=t.ab7.back hc (by simp);obtain⟨N,q2,q3⟩:=T.obj _ _ _ z;refine v ⟨σ k,B,J,C⟩ rfl rfl rfl rfl ⟨N,q2,λ g M o=>by rw[t.H];grind⟩ q ?_;intro g M;refine⟨k,B,J,C,z,M,?_,?_⟩
    .simp[bj,aq];grind
    .intro I;unfold bj at I;grind
   grind
  grind
 .rename_i k l m sz;split at h
  .split at h
   .rename_i B J C hW;split at h
    .rename_i he;subst he;simp at h;obtain⟨rfl,rfl,rfl⟩:=h;obtain⟨A,n0,c0,hs,a6,hy⟩:∃A d b,σ k= .slice A d b/\0+m<=d/\c= .slice _ m _:=hr;subst hy;have hc:=aT hW;have z:=t.ab7.back hc (by simp);obtain⟨N,q2,q3⟩:=T.obj _ _ _ z;have hn:J=n0:=by
      rcases N.row.2 with⟨Z,h0⟩ |⟨g,a4,a5,Z,_⟩
      .grind
      grind
     subst hn;rw[hs]at N;obtain⟨c1,c2,c3⟩:=FH (sz2:=sz) N (by omega:m<=J);have G:∀g,(Value.slice (eM A c0 0 sz) m (c0-0)).ownBlock=some g->(σ k).ownBlock=some g:=λ g M=>by grind
     refine v ⟨_,B,m,yf _ _ m⟩ rfl rfl rfl rfl ⟨c1,λ x hx=>q2 x (c3 x hx),λ g M o=>by rw[t.H];grind⟩ q ?_;intro g M;refine⟨k,B,J,C,z,G g M,?_,?_⟩
     .simp[bj,aq];grind
     .intro I;unfold bj at I;grind
    grind
   grind
  grind
 .obtain⟨rfl,rfl,rfl⟩:=h;have hy:=hr;subst hy;exact v ⟨.slice _ 0 0,e,0,[]⟩ rfl rfl rfl rfl ⟨kJ.nil w _ e _,by simp,by simp[Value.ownBlock]⟩ q (by simp[Value.ownBlock])
 grind
def BX {k:IntKind}{n:Int}(h:b.asInt k=some n)(d:b.rel ρ σ c):c= .int k n:=by
 unfold S1.asInt at h;split at h
 .split at h
  .rename_i a;subst a;simp at h;subst h;exact d
  grind
 grind
def BY {n:ByteArray}(h:b.OD=some n)(a:b.rel ρ σ c):c= .string n:=by
 unfold S1.OD at h;split at h
 .simp at h;subst h;exact a
 grind
def FY {A:D'}{m:Nat}(h:b.Tx=some (A,d,m))(a:b.rel ρ σ c):c= .slice A d m:=by
 unfold S1.Tx at h;split at h
 .obtain⟨rfl,rfl,rfl⟩:=h;exact a
 grind
def FZ {A:Option Nat}(h:b.Tz=some A)(a:b.rel ρ σ c):c= .map A:=by
 unfold S1.Tz at h;split at h
 .simp at h;subst h;exact a
 grind
def BZ {y:Value}(h:b.ym=some c)(a:b.rel ρ σ y):y=c:=by
 unfold S1.ym at h;split at h
 .exact S1.qN h a
 grind
def uI {a:St}{o:bL}(h:da a d=true):au [] a (aq a d o):=au.iD h
def lG (hS:Good P w0 H0 S a w ρ σ):∀{I:List aI} {R:Type} {p:bz I R} {D:List S1} {E:G'} {B C s:St} {u:Nat->Value} {q:R} {K:List S1->St->R->Prop},
  LI P w0 H0 a w ρ σ S st3 B u C->nt I p B K->dx I p D C=some (q,s)->bO ρ σ D E->(∀k,bj s k->bj st3 k)->
  ∃(r:List S1) (o:St) (f:Nat->Value),K r o q/\LI P w0 H0 a w ρ σ S st3 o f s/\bO ρ f r E/\jo o r/\(∀d:Nat,o.L[d]?=some none->B.L[d]?=some none)/\
   Carry B u f/\au [] B o
 |[],R,p,D,E,B,C,s,u,q,K,li,h,hc,hr,hfin=>by
  cases D with
  | nil=>
   obtain⟨rfl,rfl⟩:=hc;have V:bO ρ u [] E:=by
    cases E with
    | nil=>trivial
    | cons _ _=>exact hr.elim
   exact⟨[],B,u,h,li,V,λ d _ ⟨x,F,_⟩=>by grind,λ _ h=>h,Carry.refl _ _,au.refl _⟩
  | cons _ _=>simp[dx]at hc
 | l::I,R,p,D,E,B,C,s,u,q,K,li,h,hc,hr,hfin=>by
  cases D with
  | nil=>cases l<;>simp[dx]at hc
  | cons c D=>
   cases E with
   | nil=>exact hr.elim
   | cons y E=>
    have g:∀{p':bz I R} (H:S1),(∀ρ σ,S1.rel ρ σ H y)->(∀d,¬H.refs d)->nt _ p' B (λ D st q=>K (H::D) st q)->dx _ p' D C=some (q,s)->
      ∃(r:List _) (o:St) (f:Nat->Value),K r o q/\LI P w0 H0 a w ρ σ S st3 o f s/\bO ρ f r (y::E)/\jo o r/\(∀d:Nat,o.L[d]?=some none->B.L[d]?=some none)/\
       Carry B u f/\au [] B o:=by
     intro p' H h1 h2 ha X;obtain⟨r,o,f,Q,k2,Y,k4,M,O,W⟩:=lG hS li ha X hr.2 hfin;refine⟨H::r,o,f,Q,k2,⟨h1 _ _,Y⟩,?_,M,O,W⟩;rintro d G ⟨x,F,t⟩;rcases aaw.1 F with rfl | F
     .grind
     .exact k4 d G ⟨x,F,t⟩
    cases l with
    | cells=>simp[dx]at hc
    | int k=>
     simp[dx]at hc;split at hc
     .rename_i n z;have:=BX z hr.1;subst this;exact g (.v _) (λ _ _=>rfl) (λ _ t=>t) (h n) hc
     grind
    | bool=>
     simp[dx]at hc;split at hc
     .rename_i n z;have:=S1.nA z hr.1;subst this;exact g (.b n) (λ _ _=>rfl) (λ _ t=>t) (h n) hc
     grind
    | str=>
     simp[dx]at hc;split at hc
     .rename_i n z;have:=BY z hr.1;subst this;exact g (.v _) (λ _ _=>rfl) (λ _ t=>t) (h n) hc
     grind
    | sl=>
     simp[dx]at hc;split at hc
     .rename_i A n m z;have:=FY z hr.1;subst this;exact g (.v _) (λ _ _=>rfl) (λ _ t=>t) (h A n m) hc
     grind
    | mp=>
     simp[dx]at hc;split at hc
     .rename_i A z;have:=FZ z hr.1;subst this;exact g (.v _) (λ _ _=>rfl) (λ _ t=>t) (h A) hc
     grind
    | val=>
     simp[dx]at hc;split at hc
     .rename_i v z;have:=BZ z hr.1;subst this;exact g (.v y) (λ _ _=>rfl) (λ _ t=>t) (h y) hc
     grind
    | row i e=>
     simp[dx]at hc;split at hc
     .rename_i n xs a1 ht;simp only[nt]at h;split at h
      .rename_i N;have z:=bw N;have U:=kM N;have T:=dv hc;have Z:=AZ hS li ht hr.1 (λ k hk=>hfin k (T.keeps hk)) N;obtain⟨r,o,f,Q,k2,Y,k4,M,O,W⟩:=lG hS Z (h n _) hc hr.2 hfin;refine⟨.own i::r,o,f,Q,k2,⟨?_,Y⟩,?_,?_,?_,(uI N).trans W⟩
       .show y=f i;rw[O i (by simp[aq];grind),bm]
       .rintro d G ⟨x,F,t⟩;rcases aaw.1 F with rfl | F
        .have a0:=t;subst a0;have:=M i G;simp[aq]at this;grind
        .exact k4 d G ⟨x,F,t⟩
       .intro d G;exact(mD (M d G) U).2
       .intro j hj;have J:j≠i:=λ e=>hj (e▸z);rw[O j (by rw[al J];grind),eP _ _ J]
      grind
     grind
structure Tf (is:List Item)(bs bs':St):Prop where
 fl:bs'.fr.length=bs.fr.length
 ll:bs'.L.length=bs.L.length
 H:bs'.H=bs.H
 fr:∀j,j∉gu is->bs'.fr[j]?=bs.fr[j]?
 ro:∀(i:Nat) (o:bL),i∉bh is->bs.L[i]?=some (some (false,o))->bs'.L[i]?=some (some (false,o))
def jt (J:Good P w0 H0 S a w ρ σ)(E:dd S st3):∀{is:List Item} {R:Type} {p:jk is R} {F D:St} {u:Nat->Value} {q:R} {K:St->R->Prop},
  LI P w0 H0 a w ρ σ S st3 F u D->allI is p F K->jK is p D=some (q,st3)->
  ∃(r:St) (l:Nat->Value),K r q/\Good P w0 H0 r a w ρ l/\Tf is F r
 |[],R,p,F,D,u,q,K,li,h,hc=>by
  obtain⟨rfl,rfl⟩:=hc;exact⟨F,u,h,li.good,rfl,rfl,rfl,λ _ _=>rfl,λ _ _ _ h=>h⟩
 | .slot d g ls::is,R,p,F,D,u,q,K,li,h,hc=>by
  have G:=J.ab7 li.ab7;simp[jK]at hc;split at hc
  .rename_i x hx;have a2:=tw G.obj (G.fr d x hx);have a8:d<a.tmps.size:=by rw[G.size];grind
   have a7:∀{cs:List _} {ys:List _} {q1:jk _ R} {N:St},dx _ p cs D=some (q1,N)->jK _ q1 N=some (q,st3)->bO ρ σ cs ys->
     (∀C l x',bO ρ l C ys->jJ g C=some x'->x'.rel ρ l (a.tmps.getD d undef))->
     ∃(r:St) (l:Nat->Value),K r q/\Good P w0 H0 r a w ρ l/\Tf (.slot d g ls::is) F r:=by
    intro cs ys q1 N Q h2 hr a9;obtain⟨C,W,a1,k1,v,k3,k4,k5,k6,k7⟩:=lG J li h Q hr (λ k hk=>(eE h2).keeps hk);split at k1
    .rename_i x' s;have a5:=Good.aK v.good (some d) (a9 _ _ _ k3 s) (λ d' X hh=>by
      refine k4 _ X ?_;cases g with
      | true=>simp[jJ]at s;subst s;exact hh
      | false=>
       match C,s,hh with
       |[c],s,hh=>simp[jJ]at s;subst s;exact⟨c,N' hh⟩)
     rw[pt rfl a8]at a5;have O:LI P _ _ a w _ _ S _ _ _ _:=⟨a5,v.ab7,v.H,by simpa[aK]using v.fl,v.ll,v.src,v.ole,v.sg⟩;obtain⟨r,l,j1,j2,z⟩:=jt J E O k1 h2;refine⟨r,l,j1,j2,?_,z.ll.trans k7.ll,z.H.trans (v.H.trans li.H.symm),λ j b=>?_,λ i o hi ho=>?_⟩
     .have:=z.fl;simp[aK]at this;rw[this];exact k7.fl
     .simp[gu]at b;rw[z.fr j b.2];simp[aK];rw[aaK (abu b.1)];exact k7.fr j (by simp)
     .exact z.ro i o hi (k7.ro i o ho)
    grind
   split at hc
   .rename_i cs Z;split at hc
    .rename_i q1 N Q;rw[Z]at a2;obtain⟨ys,hy,hr⟩:=a2;refine a7 Q hc hr ?_;intro C l x' V s;simp[jJ]at s;subst s;exact⟨ys,hy,V⟩
    grind
   .rename_i c Z;split at hc
    .rename_i q1 N Q;rw[Z]at a2;refine a7 (ys:=[a.tmps.getD d _]) Q hc ⟨a2,trivial⟩ ?_;intro C l x' V s;match C,V,s with
     |[c'],V,s=>simp[jJ]at s;subst s;exact V.1
    grind
   grind
  grind
 | .box i t ls::is,R,p,F,D,u,q,K,li,h,hc=>by
  have G:=J.ab7 li.ab7;simp[jK]at hc;split at hc
  .rename_i t' cs hW;split at hc
   .rename_i ht;subst ht;split at hc
    .rename_i q1 N Q;have M:=aT hW;have m:=li.ab7.back M (by simp);obtain⟨ys,y1,y2,y3,y4⟩:=G.obj _ _ _ M;obtain⟨C,W,a1,k1,v,k3,k4,k5,k6,k7⟩:=lG J li h Q (gT G.obj y2) (λ k hk=>(eE hc).keeps hk);have T:i<W.L.length:=by rw[v.ll];grind
     have a3:∀(j:Nat) (f:Bool) (o:bL) (g:Nat),j≠i->W.L[j]?=some (some (f,o))->dy ρ a1 j o=some g->g≠ρ i:=by
      intro j f o g b y A e;subst e;obtain⟨j',f',o',Q,h2,U⟩:=v.src j f o _ y A;have B:j'≠i:=by
       rcases U with⟨rfl,_⟩ | U
       .grind
       .have:=v.ab7.box m (by simp);unfold bj at U;grind
      exact J.sep _ i _ _ _ _ _ B Q m h2 rfl
     have a0:Good P w0 H0 (aq W i (.box t' C)) a w ρ a1:=by
      refine Good.step v.good _ i _ (some _) (bD T) (λ j b=> .inl (aaK (abu b))) (.inl ⟨rfl,rfl⟩) (lC.refl w _) (λ g I=>?_) (λ g I=>by simp at I;subst I;exact v.dG J m rfl) (λ j f o g b y A e=>?_) ?_ ?_ ?_ v.good.sl
      .simp at I;subst I;exact⟨y3,λ o=>by rw[v.H,<-li.ab7.H];grind⟩
      .grind
      .exact⟨ys,y1,k3,y3,λ o=>by rw[v.H,<-li.ab7.H];grind⟩
      .intro g A;exact .inr A
      .intro d' _ X _ hh;exact k4 _ X hh
     have O:LI P w0 H0 a w ρ σ S st3 (aq W i (.box t' C)) a1 N:=by
      refine⟨a0,v.ab7,v.H,v.fl,by simpa[aq]using v.ll,λ j f o g y A=>?_,v.ole,λ j f b=>?_⟩
      rotate_right
      .by_cases B:j=i
       .simp[aq]at b;grind
       .rw[al B]at b;exact v.sg j f b
      by_cases b:j=i
      .subst b;simp[aq]at y;rw[bD T]at y;obtain⟨_,rfl⟩:=y;refine⟨j,_,_,m,A,.inl ⟨rfl,λ hd=>?_⟩⟩;have:=E.box m (by simp);unfold bj at hd;grind
      .rw[al b]at y;exact v.src j f o g y A
     obtain⟨r,l,j1,j2,z⟩:=jt J E O k1 hc;refine⟨r,l,j1,j2,z.fl.trans k7.fl,?_,z.H.trans (v.H.trans li.H.symm),λ j b=>(z.fr j b).trans (k7.fr j (by simp)),λ j o b ho=>?_⟩
     .have:=z.ll;simp[aq]at this;rw[this];exact k7.ll
     .simp[bh]at b;exact z.ro j o b.2 (by rw[al b.1];exact k7.ro j o ho)
    grind
   grind
  grind
 | .arr i t::is,R,p,F,D,u,q,K,li,h,hc=>by
  have G:=J.ab7 li.ab7;simp[jK]at hc;split at hc
  .rename_i t' xs hW;split at hc
   .rename_i ht;subst ht;have M:=aT hW;have m:=li.ab7.back M (by simp);obtain⟨y1,y2,y3,y4⟩:=G.obj _ _ _ M;have T:i<F.L.length:=by rw[li.ll];grind
    have a3:∀(j:Nat) (f:Bool) (o:bL) (g:Nat),j≠i->F.L[j]?=some (some (f,o))->dy ρ u j o=some g->g≠ρ i:=by
     intro j f o g b y A e;subst e;obtain⟨j',f',o',Q,h2,U⟩:=li.src j f o _ y A;have B:j'≠i:=by
      rcases U with⟨rfl,_⟩ | U
      .grind
      .unfold bj at U;grind
     exact J.sep _ i _ _ _ _ _ B Q m h2 rfl
    have a0:Good P w0 H0 (aq F i (.arr t' xs)) a w ρ u:=by
     refine Good.step li.good _ i _ (some _) (bD T) (λ j b=> .inl (aaK (abu b))) (.inl ⟨rfl,rfl⟩) (lC.refl w _) (λ g I=>?_) (λ g I=>by simp at I;subst I;exact li.dG J m rfl) (λ j f o g b y A e=>?_) ?_ ?_ ?_ li.good.sl
     .simp at I;subst I;exact⟨y3,λ o=>by rw[li.H,<-li.ab7.H];grind⟩
     .grind
     .exact⟨y1,y2,y3,λ o=>by rw[li.H,<-li.ab7.H];grind⟩
     .intro g A;exact .inr A
     .intro d' _ X _ hh;exact hh
    have O:LI P w0 H0 a w ρ σ S st3 (aq F i (.arr t' xs)) u D:=by
     refine⟨a0,li.ab7,li.H,li.fl,by simpa[aq]using li.ll,λ j f o g y A=>?_,li.ole,λ j f b=>?_⟩
     rotate_right
     .by_cases B:j=i
      .simp[aq]at b;grind
      .rw[al B]at b;exact li.sg j f b
     by_cases b:j=i
     .subst b;simp[aq]at y;rw[bD T]at y;obtain⟨_,rfl⟩:=y;refine⟨j,_,_,m,A,.inl ⟨rfl,λ hd=>?_⟩⟩;have:=E.box m (by simp);unfold bj at hd;grind
     .rw[al b]at y;exact li.src j f o g y A
    obtain⟨r,l,j1,j2,z⟩:=jt J E O (h _) hc;refine⟨r,l,j1,j2,z.fl,?_,z.H,λ j b=>z.fr j b,λ j o b ho=>?_⟩
    .have:=z.ll;simpa[aq]using this
    .simp[bh]at b;exact z.ro j o b.2 (by rw[al b.1];grind)
   grind
  grind
 | .im i e::is,R,p,F,D,u,q,K,li,h,hc=>by
  simp[jK]at hc;simp[allI]at h;split at hc
  .rename_i e' n xs hW;split at hc
   .rename_i he;subst he;split at h
    .rename_i b0;obtain⟨fd,a4⟩:=cC b0;have b1:=li.sg i _ a4;have M:=aT hW;have m:=li.ab7.back M (by simp);obtain⟨y1,y2,y3⟩:=J.obj _ _ _ m;have T:=(aap.1 a4).1;have a3:∀(j:Nat) (f:Bool) (o:bL) (g:Nat),j≠i->F.L[j]?=some (some (f,o))->dy ρ u j o=some g->(σ i).ownBlock≠some g:=by
      intro j f o g b y A e;obtain⟨j',f',o',Q,h2,U⟩:=li.src j f o _ y A;have B:j'≠i:=by
       rcases U with⟨rfl,_⟩ | U
       .grind
       .unfold bj at U;grind
      exact J.sep _ i _ _ _ _ _ B Q m h2 e
     have a6:dj P w0 w F.H ρ u i (.row e' n xs):=by
      simp[dj,b1];exact⟨y1,y2,λ g I o=>by rw[li.H];grind⟩
     have a0:Good P w0 H0 (aq F i (.row e' n xs)) a w ρ u:=by
      refine Good.step li.good _ i _ (σ i).ownBlock (bD T) (λ j b=> .inl (aaK (abu b))) (.inl ⟨rfl,rfl⟩) (lC.refl w _) (λ g I=>?_) (λ g I=>li.dG J m I) (λ j f o g b y A e=>?_) a6 ?_ ?_ li.good.sl
      .exact⟨(y1.lt g I).1,λ o=>by rw[li.H];grind⟩
      .grind
      .intro g A;simp[dy]at A;grind
      .intro d' _ X _ hh;exact hh
     have Y:=dd.kill hW;have O:LI P w0 H0 a w ρ σ S st3 (aq F i (.row e' n xs)) u (aq D i .dead):=by
      refine⟨a0,li.ab7.trans Y,li.H,li.fl,by simpa[aq]using li.ll,λ j f o g y A=>?_,li.ole,λ j f b=>?_⟩
      rotate_right
      .by_cases B:j=i
       .grind
       .rw[al B]at b;exact li.sg j f b
      by_cases b:j=i
      .subst b;simp[aq]at y;refine⟨j,_,_,m,by simp[dy]at A⊢;grind,.inr ?_⟩;simp[bj,aq];grind
      .rw[al b]at y;obtain⟨j',f',o',Q,h2,U⟩:=li.src j f o g y A;exact⟨j',f',o',Q,h2,U.imp id λ h=>Y.keeps h⟩
     obtain⟨r,l,j1,j2,z⟩:=jt J E O (h n _) hc;refine⟨r,l,j1,j2,z.fl,?_,z.H,λ j b=>z.fr j b,λ j o b ho=>?_⟩
     .have:=z.ll;simpa[aq]using this
     .simp[bh]at b;exact z.ro j o b.2 (by rw[al b.1];grind)
    grind
   grind
  grind
end
end
section
variable {b:Nat}{c:Array Oper}{d:List Nat}{e:Oper}{f:Array Bool}{g:St->Prop}{h:List Oper}
def ju (a:Array Oper)(i:Nat):Bool:=match a[i]? with
 | some o=>late a.toList o
 | none=>false
def tI {a:List Oper}{o:Oper}:∀{l:List Oper} {k i:Nat} {x:Oper},mA a o l k=true->l[i]?=some x->Dj x=true\/IE a o (k+i)=true
 |[],k,i,x,h,e=>by grind
 | y::l,k,0,x,h,e=>by
  simp[mA]at h;grind
 | y::l,k,i+1,x,h,e=>by
  simp[mA]at h;have:=tI (k:=k+1) (i:=i) h.2 e;grind
def Gc (b:List Oper)(a:xK h b=true)(c:e∈b)(f:Dj e=true):mA h e h 0=true:=by
 induction b with
 | nil=>grind
 | cons x b d=>
  unfold xK at a;grind
def tJ (h:waits e b=true)(c:∀a∈e.after,Region.binds .any a=true->f.getD a.on false=true):f.getD b false=true:=by
 simp[waits]at h;grind
def IX (h:f.getD b false=true)(a:f.getD b true=false):False:=by
 grind
def tK {j:Nat}(l:gW .any c f)(t:c[b]?=some e)(u:Dj e=false)(d:ju c j=true)(p:j∈Region.ready .any c f):f.getD b false=true:=by
 obtain⟨_,r,o,q⟩:=mem_ready.1 p;unfold ju at d;rw[o]at d;simp[late]at d;split at d
 .rename_i m;have g:=aaJ (show c.toList[j]?=some r by grind);rcases tI (Gc _ d g m) (show c.toList[b]?=some e by grind)with h | h
  .grind
  .rw[aaT]at h;unfold IE at h;rw[abW]at h;rcases h with h | h
   .exact tJ h q
   .rw[abD]at h;obtain⟨a,s,k⟩:=h;rw[aah]at k;cases n:c.toList[a.on]? with
    | none=>grind
    | some v=>
     rw[n]at k;refine tJ k.2 (l a.on _ (by grind) ?_);grind
 grind
def IY (e:gW .any c f)(a:ju c b=true)(k:b∈Region.ready .any c f)(i:Nat)(m:i<c.size)(h:(f.setIfInBounds b true).getD i true=false):ju c i=true:=by
 have d:c[i]?=some c[i]:=by simp
 cases l:Dj c[i]with
 | true=>
  unfold ju at a⊢;simp[late]at a⊢;grind
 | false=>
  have:=tK e d l a k;by_cases g:b=i
  .grind
  .rw[getD_set_ne _ g]at h;grind
def Mp (h:LY e.op=true):Dj e=false:=by
 unfold Dj;split
 .rename_i a;rw[a]at h;simp[LY]at h
 simp
section
variable {P:Program}{Γ:fh}{w0:W0}{w w':World}{H0 H':Heap}{st st':St}{a:Act}{ρ ρ':Nat->Nat}{σ:Nat->Value}{an:fI}
def iG {W:List Nat}:∀{L:List (Option ti)} {k i:Nat} {f:Bool} {o:bL},(mz W k L)[i]?=some (some (f,o))->o= .dead\/((∀e n a,o≠ .row e n a)/\L[i]?=some (some (f,o))/\k+i∉W)
 |[],k,i,f,o,h=>by simp[mz]at h
 | none::L,k,i,f,o,h=>by
  cases i with
  | zero=>simp[mz]at h
  | succ i=>
   have:=iG (L:=L) (k:=k+1) (i:=i) (by simpa[mz]using h);grind
 | some (g,b)::L,k,i,f,o,h=>by
  cases i with
  | zero=>
   simp[mz]at h;grind
  | succ i=>
   have:=iG (L:=L) (k:=k+1) (i:=i) (by simpa[mz]using h);grind
def nL {W:List Nat}:∀{L:List (Option ti)} {k i:Nat},(mz W k L)[i]?=some none↔L[i]?=some none
 |[],k,i=>by rfl
 | none::L,k,i=>by
  cases i with
  | zero=>rfl
  | succ i=>simpa[mz]using nL (L:=L) (k:=k+1) (i:=i)
 | some (g,b)::L,k,i=>by
  cases i with
  | zero=>
   simp[mz];grind
  | succ i=>simpa[mz]using nL (L:=L) (k:=k+1) (i:=i)
structure kk (W:List Nat)(st:St)(ρ:Nat->Nat)(w w':World):Prop where
 snap:ct st.H w'
 heap:∀(i:Nat) (f:Bool) (o:bL),st.L[i]?=some (some (f,o))->nE o=true->i∉W->w'.heap[ρ i]?=w.heap[ρ i]?
def kk.same (h:kk d st ρ w w'):kh (ny d st) ρ σ w w':=by
 refine⟨h.snap,λ i f t j b=>?_,λ i f t g b=>?_,λ i f e n g b=>?_⟩
 .rcases iG b with a |⟨_,a,c⟩
  .grind
  .exact h.heap i f _ a rfl (by grind)
 .rcases iG b with a |⟨_,a,c⟩
  .grind
  .exact h.heap i f _ a rfl (by grind)
 .rcases iG b with a |⟨a,_⟩
  .grind
  grind
def Good.ny (e:Good P w0 H0 st a w ρ σ)(W:List Nat):Good P w0 H0 (ny W st) a w ρ σ:=by
 refine e.alike (λ i f o g=>?_) (λ d b=>nL.1 b);rcases iG g with c |⟨_,c,_⟩
 .grind
 grind
def kk.trans {W:List Nat}{c:World}(j:Heap.le st.H st'.H)(a:cF (λ i=>i∈W) st st' ρ ρ' w w')(h:kk W st' ρ' w' c):kk W st ρ w c:=by
 refine⟨λ b o v k=>h.snap b o v (j b o v k),λ i f o g d e=>?_⟩;obtain⟨m,l⟩:=a.stay i f o g d e;have:=h.heap i _ o l d e;rw[a.rho i f o g d e]at this;exact this.trans (a.heap i f o g d e)
def kk.of (c:Heap.le st.H st'.H)(a:cF (λ i=>i∈d) st st' ρ ρ' w w')(f:ct st'.H w'):kk d st ρ w w':=
 ⟨λ b o v e=>f b o v (c b o v e),a.heap⟩
def tL (m:Good P w0 H0 st a w ρ σ)(c:yx an h b st g):
  ∃st',g st'/\au (cU h) st st'/\Good P w0 H0 st' a w ρ σ/\cF Dx st st' ρ ρ w w:=by
 obtain⟨n,c,d,e,p⟩:=uH m c;have d:=d.mono uG;split at c
 .obtain⟨st',k,f,o,i⟩:=tH e c;exact⟨st',k,d.trans (f.mono uG),o,p.trans i⟩
 grind
def DH (B:cE P Γ)(n:Good P w0 H0 st a w ρ σ)(c:IF Γ d h st e g):
  ∃v st',YieldsIf P h.toArray (kk d st ρ w) e v a/\g st'/\au e.dst.toList st st'/\Good P w0 H0 st' (a.put e.dst v) w ρ σ/\cF Dx st st' ρ ρ w w:=by
 have i:Region.wanted e _=false->g _->∃v st',YieldsIf P h.toArray (kk d st ρ w) e v a/\g st'/\au _ _ st'/\Good P _ _ st' (a.put e.dst v) w _ _/\cF Dx _ st' _ ρ w w:=λ x u=>
  ⟨undef,_,.inr ⟨x,rfl⟩,u,au.aK _ _ _,Good.aK n _ (r:= .one .un) rfl (λ _ _ D=>D),fj _ _ _ _ _⟩
 have p:Region.wanted e (yielded h.toArray a.tmps)=true->(yj Γ (ny d st) e.op λ r=>g (aK st e.dst r))->∃v st',YieldsIf P h.toArray (kk d st ρ w) e v a/\g st'/\au e.dst.toList st st'/\Good P w0 H0 st' (a.put e.dst v) w ρ σ/\cF Dx st st' ρ ρ w w:=by
  intro x u;obtain⟨v,r,C,z,E,A⟩:=nC B (n.ny d) u;refine⟨v,_,.inl ⟨x,λ w' t=>C _ t.same⟩,A,au.aK _ _ r,Good.aK n _ z λ b q=>E b ((n.ny d).nr b ?_),fj _ _ _ _ _⟩;exact nL.2 q
 unfold IF at c;split at c
 .rename_i f;exact p (by simp[Region.wanted,f]) c
 .rename_i j m f;split at c
  .grind
  .rename_i b q;split at c
   .rename_i s;have k:=iF n q s (v:= .bool _) (λ y k=>k);cases m
    .exact i (by simp[Region.wanted,f,k,we]) c
    .exact p (by simp[Region.wanted,f,k,we]) c
   .rename_i s;have k:=iF n q s (v:= .bool _) (λ y k=>k);cases m
    .exact p (by simp[Region.wanted,f,k,we]) c
    .exact i (by simp[Region.wanted,f,k,we]) c
   .rename_i s;have k:=iF n q s (v:=undef) (λ y k=>k);exact i (by simp[Region.wanted,f,k,we,undef]) c
   grind
def wh (h:Dl c f b=true):b∈Region.ready .any c f:=by
 unfold Dl at h;rw[aah,aay]at h;obtain⟨d,i⟩:=h;cases a:c[b]? with
 | none=>grind
 | some o=>
  refine mem_ready.2 ⟨d,o,a,λ e g k=>?_⟩;grind
def TK (P:Program)(Γ:fh)(an:fI)(a:Array Oper)(W:List Nat)(K:St->Prop)(j:Nat)(r:IA)(st:St):Prop:=match a[j]? with
 | some o=>match late a.toList o||(RJ W st o.op&&RM an W st o)with
  | true=>BM P Γ an a.toList st o λ st'=>yx an a.toList j st' λ b=>mB P Γ an a W K r b
  | false=>False
 | none=>False
def Mq {r a:IA}(h:mB P Γ an c d g (.alt b r a) st):
  TK P Γ an c d g b r st/\(a.ids≠[]->mB P Γ an c d g a st):=by
 cases a with
 | alt i k f=>exact⟨h.1,λ _=>h.2⟩
 | done=>exact⟨h,λ e=>absurd rfl e⟩
 | fin=>exact⟨h,λ e=>absurd rfl e⟩
 | take i k=>exact⟨h,λ e=>absurd rfl e⟩
def Gd (hT:cE P Γ)(O:Region.noSelect c=true){Q:Exit->Act->World->Prop}(hQ:∀b a w,¬Q (.panic b) a w)(s:IA):
  (∀{n:Nat} {e:Array Bool} {st:St} {a:Act} {w:World} {ρ:Nat->Nat} {σ:Nat->Value},Good P w0 H0 st a w ρ σ->gW .any c e->jl c false n e s=true->mB P Γ an c d g s st->
   wc P w0 H0 (cU c.toList) st g (Q .normal)->fY P .any c Q (kk d st ρ w) (ju c) n e a w)/\
  (∀{n:Nat} {e:Array Bool} {st:St} {a:Act} {w:World} {ρ:Nat->Nat} {σ:Nat->Value},Good P w0 H0 st a w ρ σ->gW .any c e->jl c true (n+1) e s=true->(s.ids≠[]->mB P Γ an c d g s st)->
   wc P w0 H0 (cU c.toList) st g (Q .normal)->(∀j∈s.ids,j∈Region.ready .any c e)->∀j∈s.ids,
    wpOp P c Q j (λ x w'=>(ju c j=false->kk d st ρ w w')/\fY P .any c Q (kk d st ρ w) (ju c) n (e.setIfInBounds j true) x w') a w):=by
 have G:∀(i:Nat) (o:Oper),c[i]?=some o->c.toList[i]?=some o:=λ i o h=>by grind
 induction s with
 | done=>
  refine⟨λ {n e st a w ρ σ} q l m h u=>?_,λ _ _ _ _ _ _ j z=>by cases z⟩;simp[jl,List.isEmpty_iff]at m;exact Ga m (u _ _ _ _ _ h ((au.refl _).mono (by simp)) q) n
 | fin=>
  refine⟨λ q l m h u=>?_,λ _ _ _ _ _ _ j z=>by cases z⟩;simp[jl]at m
 | take j r ih=>
  refine⟨λ {n e st a w ρ σ} q l m h u=>?_,λ _ _ _ _ _ _ j z=>by cases z⟩;cases n with
  | zero=>simp[jl]at m
  | succ n=>
   simp[jl]at m;split at m
   .rename_i X;rw[aah,aah]at X;obtain⟨⟨R,a8⟩,B⟩:=X;simp[mB]at h;split at h
    .rename_i o y;have F:LY o.op=true:=by unfold Vk at a8;grind
     obtain⟨v,a4,hy,M,f,D,t⟩:=DH hT q h;obtain⟨J,k1,U,Y,k4⟩:=tL D M;have A:=(f.mono (nK (G _ _ y))).trans U;have hS:kk d _ ρ w w:=⟨q.snap,λ _ _ _ _ _ _=>rfl⟩;have IH:=ih.1 Y (l.set (wh R)) m k1 λ a3 w3 a5 a7 a2 q1 q2 q3=>u _ _ _ _ _ q1 (A.trans q2) q3;refine DG (v:=v) y (Region.noSelect_spec O) (λ b a w hh=>absurd hh (hQ _ _ _)) (λ I k N hf M h0=>(IX (tK N y (Mp F) hf M) h0).elim) n _ a w l (Region.free_spec y B) (wh R) ?_ hS ?_
     .simp_all
     .exact pH (λ w' a1=>kk.trans (Heap.le_trans f.le U.le) (t.trans k4).any a1) _ _ _ _ IH
    grind
   grind
 | alt j r p a9 a0=>
  have b1:∀{n:Nat} {e:Array Bool} {st:St} {a:Act} {w:World} {ρ:Nat->Nat} {σ:Nat->Value},Good P w0 H0 st a w ρ σ->gW .any c e->jl c false n (e.setIfInBounds j true) r=true->TK P Γ an c d g j r st->
    wc P w0 H0 (cU c.toList) st g (Q .normal)->j∈Region.ready .any c e->
    wpOp P c Q j (λ x w'=>(ju c j=false->kk d st ρ w w')/\fY P .any c Q (kk d st ρ w) (ju c) n (e.setIfInBounds j true) x w') a w:=by
   intro n e st a w ρ σ q l m h u z;unfold TK at h;split at h
   .rename_i o y;split at h
    .rename_i C;have hw:=pG hT q (G _ _ y) (Q:=Q) (next:=λ x w'=>(ju c j=false->kk d st ρ w w')/\fY P .any c Q (kk d st ρ w) (ju c) n (e.setIfInBounds j true) x w') h ?_
     .simp_all
     .intro x w' a4 a6 b2 M f D t;obtain⟨J,k1,U,Y,k4⟩:=tL D M;have A:=(f.mono (nK (G _ _ y))).trans U;have IH:=a9.1 Y (l.set z) m k1 λ a3 w3 a5 a7 a2 q1 q2 q3=>u _ _ _ _ _ q1 (A.trans q2) q3;have V:=Heap.le_trans f.le U.le;cases H:ju c j with
      | false=>
       have L:=by simpa[ju,y]using H
       have T:cF (λ i=>i∈d) st J ρ a6 w w':=by
        refine(t.mono λ i E=>?_).trans k4.any;rw[L,abh,aah]at C;rcases E with E | E
        .have Z:=C.1;unfold RJ at Z;grind
        .have Z:=C.2;unfold RM at Z;grind
       exact⟨λ _=>kk.of V T Y.snap,pH (λ b5 S=>kk.trans V T S) _ _ _ _ IH⟩
      | true=>exact⟨λ hh=>by grind,wg _ _ _ _ (IY l H z) IH⟩
    grind
   grind
  have b0:∀{n:Nat} {e:Array Bool} {st:St} {a:Act} {w:World} {ρ:Nat->Nat} {σ:Nat->Value},Good P w0 H0 st a w ρ σ->gW .any c e->jl c false n (e.setIfInBounds j true) r=true->jl c true (n+1) e p=true->
    mB P Γ an c d g (.alt j r p) st->wc P w0 H0 (cU c.toList) st g (Q .normal)->(∀i∈j::p.ids,i∈Region.ready .any c e)->∀i∈j::p.ids,
    wpOp P c Q i (λ x w'=>(ju c i=false->kk d st ρ w w')/\fY P .any c Q (kk d st ρ w) (ju c) n (e.setIfInBounds i true) x w') a w:=by
   intro n e st a w ρ σ q l b3 b4 h u R i E;obtain⟨Z,h2⟩:=Mq h;grind
  refine⟨λ {n e st a w ρ σ} q l m h u=>?_,λ {n e st a w ρ σ} q l m h u R i E=>?_⟩
  .cases n with
   | zero=>simp[jl]at m
   | succ n=>
    simp[jl]at m;split at m
    .refine⟨λ h0=>?_,λ i E=>?_⟩
     .grind
     grind
    grind
  .simp only[jl]at m;split at m
   .rename_i X;rw[aah]at X;exact b0 q l X.2 m (h (by grind)) u R i E
   grind
def Good.drew (b:Good P w0 H0 st a w ρ σ):Good P w0 H0 st a {w with drawn:=w.drawn+1} ρ σ:=
 ⟨b.defers,b.size,b.fr,⟨b.below.os,b.below.tape,b.below.output,b.below.size,b.below.block,aax b.below.drawn (ads _)⟩,b.le,b.ef,b.snap,λ i f o h=>by
  have:=b.obj i f o h
  cases o<;>simp[dj]at this⊢
  case row e n xs=>exact⟨⟨this.1.row,this.1.nw⟩,this.2⟩
  all_goals grind,b.sep,b.nr,b.sl,b.opn⟩
def IZ (i:P.follows .mixedOrders=true)(n:cE P Γ)(r:Good P w0 H0 st a w ρ σ){id:Nat}{Q:Exit->Act->World->Prop}(f:Region.noSelect c=true)
  {s:IA} (q:jl c false c.size (Array.replicate c.size false) s=true) (h:mB P Γ an c d g s st) (t:wc P w0 H0 (cU c.toList) st g (Q .normal)):(Code.region id c true).wp P Q a w:=by
 refine wp_mono (Q:=λ e a w=>e= .normal/\Q _ a w) (Gb (S:=kk d st ρ {w with drawn:=w.drawn+1}) (F:=ju c) i ?_) (λ e a w ⟨k,j⟩=>k▸j);exact(Gd n f (λ b a w u=>by grind) s).1 r.drew (gW.empty _ (aaB _)) q h λ v w' st' ρ' m o l p=>⟨rfl,t _ _ _ _ _ o l p⟩
end
end
end Go.Vc
