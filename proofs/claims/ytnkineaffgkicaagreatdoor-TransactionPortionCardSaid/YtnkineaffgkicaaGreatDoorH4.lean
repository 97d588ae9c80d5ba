/- A part of the proof. -/
import Derived.Test.YtnkineaffgkicaaGreatDoorH3
import Derived.Laws.StructEq
set_option maxHeartbeats 0
set_option maxRecDepth 100000
set_option linter.unusedVariables false
set_option linter.defProp false
set_option linter.unusedSectionVars false
set_option linter.unusedSimpArgs false
namespace Go.Vc
open Go Go.RowKit
section
variable {a:BinOp}{b:TypeId}{c:Bool}{d e:Operand}{f g:S1}{h:IntKind}{i:Int}
def nB (a:ae h i):h.wrap i=i:=by
 cases h<;>simp[ae]at a<;>simp[IntKind.wrap,IntKind.bits,IntKind.signed]<;>(try split)<;>omega
section
variable {P:Program}{w:World}
def rL {f:IntKind}{c:Int}:(eqGuard a b d e (.int h i) (.int f c)).run P w= .ok () w:=by
 cases a<;>simp[eqGuard]
def uA {c f:ByteArray}:(eqGuard a b d e (.string c) (.string f)).run P w= .ok () w:=by
 cases a<;>simp[eqGuard]
def yD {f:Bool}:(eqGuard a b d e (.bool c) (.bool f)).run P w= .ok () w:=by
 cases a<;>simp[eqGuard]
def xi {A B:D'}{n c f g:Nat}:(eqGuard a b d e (.slice A n c) (.slice B f g)).run P w= .ok () w:=by
 cases a<;>simp[eqGuard]
def rM {c:TypeId}{A B:D'}(_:P.underlying b=some (.pointer c)):(eqGuard a b d e (.pointer A) (.pointer B)).run P w= .ok () w:=by
 cases a<;>simp[eqGuard]
def AV {c f:Array Value}(h:P.eqGuardType P.depth b=false):(eqGuard a b d e (.agg c) (.agg f)).run P w= .ok () w:=by
 cases a<;>simp[eqGuard,h]
def Mc {t:TypeId}{b:Int}{K:SV->Prop}(c:Oz a h i b K):
  ∃v r,(∀w,(binOp a t (.int h i) (.int h b)).run P w= .ok v w)/\(∀ρ σ,SV.rel ρ σ r v)/\(∀d,¬r.refs d)/\K r:=by
 cases a<;>simp[Oz,Ta]at c<;>(try exact c.elim)<;>simp only[binOp,ne_eq,not_true_eq_false,acF,Op.intArith,Op.intDiv,Op.intCmp];case add=>exact⟨_,_,λ _=>rfl,λ _ _=>by simp[SV.rel,S1.rel];rw[show i+b=Is i b from rfl,nB c.1],λ _ e=>by exact e,c.2⟩
 case sub=>exact⟨_,_,λ _=>rfl,λ _ _=>by simp[SV.rel,S1.rel];rw[show i-b=RC i b from rfl,nB c.1],λ _ e=>by exact e,c.2⟩
 case mul=>exact⟨_,_,λ _=>rfl,λ _ _=>by simp[SV.rel,S1.rel];rw[show i*b=Oy i b from rfl,nB c.1],λ _ e=>by exact e,c.2⟩
 case quo=>
  have f:=c.1;simp only[if_neg f];exact⟨_,_,λ _=>rfl,λ _ _=>by simp[SV.rel,S1.rel];rw[nB c.2.1],λ _ e=>by exact e,c.2.2⟩
 case rem=>
  have f:=c.1;simp only[if_neg f];exact⟨_,_,λ _=>rfl,λ _ _=>by rfl,λ _ e=>by exact e,c.2⟩
 case shr=>
  obtain⟨f,g⟩:=c;subst f;refine⟨.int h _,_,λ w=>?_,λ _ _=>by rfl,λ _ e=>by exact e,g⟩;cases h<;>rfl
 case eql=>exact⟨_,_,λ _=>rfl,λ _ _=>by rfl,λ _ e=>by exact e,c⟩
 case neq=>exact⟨_,_,λ _=>rfl,λ _ _=>by rfl,λ _ e=>by exact e,c⟩
 case lss=>exact⟨_,_,λ _=>rfl,λ _ _=>by rfl,λ _ e=>by exact e,c⟩
 case leq=>exact⟨_,_,λ _=>rfl,λ _ _=>by rfl,λ _ e=>by exact e,c⟩
 case gtr=>exact⟨_,_,λ _=>rfl,λ _ _=>by rfl,λ _ e=>by exact e,c⟩
 case geq=>exact⟨_,_,λ _=>rfl,λ _ _=>by rfl,λ _ e=>by exact e,c⟩
def rN (a b:ByteArray):(a.toList==b.toList)=decide (a=b):=by
 rw[aaH];simp[ByteArray.toList_eq];constructor
 .cases a;simp_all
 grind
def Md {d f:ByteArray}(h:yg a d f=some c):(binOp a b (.string d) (.string f)).run P w= .ok (.bool c) w:=by
 cases a<;>simp[yg]at h<;>subst h<;>simp[binOp,Op.stringOp,RE,US,Wn,rN]
def kL {t:TypeId}{f b:Value}{K:SV->Prop}(h:Da a c K)(j:∀w,(Op.equal t f b).run P w= .ok c w)
  (k:∀a,a= .eql\/a= .neq->∀w,(binOp a t f b).run P w=((Op.equal t f b).run P w).andThen λ r i=> .ok (.bool (if a= .eql then r else !r)) i):
  ∃v r,(∀w,(binOp a t f b).run P w= .ok v w)/\(∀ρ σ,SV.rel ρ σ r v)/\(∀d,¬r.refs d)/\K r:=by
 cases a<;>simp[Da]at h<;>(try exact h.elim);case eql=>
  refine⟨.bool c,_,?_,λ _ _=>by rfl,λ _ g=>by exact g,h⟩;simp_all
 case neq=>
  refine⟨.bool (!c),_,?_,λ _ _=>by rfl,λ _ g=>by exact g,h⟩;simp_all
end
section
variable {P:Program}{w:World}{ρ:Nat->Nat}{σ:Nat->Value}
def II (h:lZ .int f g=some c):∃k a b,f= .v (.int k a)/\g= .v (.int k b)/\c=Wt a b:=by
 unfold lZ at h;grind
def IJ (h:lZ .str f g=some c):∃a b,f= .v (.string a)/\g= .v (.string b)/\c=RE a b:=by
 unfold lZ at h;grind
def Fz (h:lZ .bool f g=some c):∃a b,f.Rr=some a/\g.Rr=some b/\c=RF a b:=by
 unfold lZ at h;grind
def yE {d:Nat}{q:EK}{u v:Value}(h:lZ q f g=some c)(m:f.rel ρ σ u)(l:g.rel ρ σ v)
  (j:Mb P q b):(Op.equalIn (d+1) b u v).run P w= .ok c w:=by
 cases q;case int=>
  obtain⟨z,j⟩:=j;obtain⟨k,a,i,rfl,rfl,rfl⟩:=II h;subst m l;rw[run_equalIn_int w d b _ _ _ _ j];rfl
 case str=>
  obtain⟨a,i,rfl,rfl,rfl⟩:=IJ h;subst m l;rw[run_equalIn_string w d b _ _ j,rN];rfl
 case bool=>
  obtain⟨i,s,p,o,rfl⟩:=Fz h;have n:=S1.nA p m;have r:=S1.nA o l;subst n r;rw[run_equalIn_bool' w d b _ _ j];rfl
def Du {d:Nat}{m o:Array Value}:∀(l:List EK) (F:List Field) (s t:List S1) (k:Nat) (e:Bool),iY l s t=some e->
  bO ρ σ s (m.toList.drop k)->bO ρ σ t (o.toList.drop k)->F.length=l.length->
  (∀(j:Nat) (f:Field) (q:EK),F[j]?=some f->l[j]?=some q->f.offset=k+j/\f.name≠ "_"/\Mb P q f.type)->
  (Op.eqFields (d+1) m o F).run P w= .ok e w:=by
 intro l;induction l with
 | nil=>intro F s t k e h;simp[iY]at h
 | cons q l L=>
  intro F s t k e h y x z n;match F,z with
  | f::F,z=>
   obtain⟨c,a,rfl⟩:∃c a,s=c::a:=by
    cases s with
    | nil=>cases l<;>simp[iY]at h
    | cons c a=>exact⟨_,_,rfl⟩
   obtain⟨O,b,rfl⟩:∃c a,t=c::a:=by
    cases t with
    | nil=>cases l<;>simp[iY]at h
    | cons c a=>exact⟨_,_,rfl⟩
   obtain⟨u,r,I⟩:∃u r,m.toList.drop k=u::r:=by
    cases A:m.toList.drop k with
    | nil=>rw[A]at y;exact y.elim
    | cons u r=>exact⟨_,_,rfl⟩
   obtain⟨v,R,M⟩:∃u r,o.toList.drop k=u::r:=by
    cases A:o.toList.drop k with
    | nil=>rw[A]at x;exact x.elim
    | cons u r=>exact⟨_,_,rfl⟩
   have G:m.toList.drop (k+1)=r:=by rw[<-abT,I];rfl
   have N:o.toList.drop (k+1)=R:=by rw[<-abT,M];rfl
   rw[I]at y;rw[M]at x;obtain⟨H,S,i⟩:=n 0 f q rfl rfl;simp only[adW]at H;have C:m[k]?=some u:=by
    have:(m.toList.drop k)[0]?=some u:=by rw[I];rfl
    rw[acq]at this;simpa using this
   have E:o[k]?=some v:=by
    have:(o.toList.drop k)[0]?=some v:=by rw[M];rfl
    rw[acq]at this;simpa using this
   have p:(isAgg f.type).run P w= .ok false w:=by
    cases q;case int=>obtain⟨X,Q⟩:=i;simp[isAgg,aL Q]
    case bool=>simp[isAgg,aL i]
    case str=>simp[isAgg,aL i]
   have B:(part f.type m f.offset).run P w= .ok u w:=by
    simp[part,p,H,C]
   have D:(part f.type o f.offset).run P w= .ok v w:=by
    simp[part,p,H,E]
   simp only[Op.eqFields,ne_eq,S,not_false_eq_true,aeC,Sem.run_bind,B,D,Result.andThen_ok];match l,F,a,b,h,z,L with
   |[],[],a,b,h,_,_=>
    have U:a=[]/\b=[]/\lZ q c O=some e:=by
     match a,b,h with
     |[],[],h=>exact⟨rfl,rfl,h⟩
     | _::_,b,h=>
      simp[iY]at h;grind
     |[],_::_,h=>
      simp[iY]at h;grind
    rw[yE U.2.2 y.1 x.1 i];cases e<;>simp[Op.eqFields]
   | q'::l,f'::F,a,b,h,z,L=>
    simp only[iY]at h;split at h
    .rename_i T K;split at h
     .rename_i Y J;simp at h;subst h;rw[yE K y.1 x.1 i];have:=L (f'::F) _ _ _ _ J (by rw[G];exact y.2) (by rw[N];exact x.2) (by grind) (λ j g q W V=>by
       have:=n (j+1) g q (by grind) (by grind);grind)
      cases T
      .rfl
      .simp[UT,this]
     grind
    grind
end
end
section
section
variable {P:Program}{Γ:fh}{w0:W0}{w:World}{H0:Heap}{st:St}{a:Act}{ρ:Nat->Nat}{σ:Nat->Value}
variable (hT:cE P Γ)(hg:Good P w0 H0 st a w ρ σ)
theorem ry.pq {m:Sem Value}{K:SV->Prop}(h:∃v r,(∀w,m.run P w= .ok v w)/\(∀ρ σ,SV.rel ρ σ r v)/\(∀d,¬r.refs d)/\K r):ry P st ρ σ w m K:=by
 obtain⟨v,r,c,a,e,b⟩:=h;exact⟨v,r,λ f _=>c _,a _ _,λ d _=>e d,b⟩
theorem dF {t:TypeId}{x y:Value}(i:∀k n,x≠ .int k n)(f:∀k n,x≠ .float k n)(h:∀k a b,x≠ .complex k a b)(g:∀s,x≠ .string s)(c:BinOp)(d:c= .eql\/c= .neq):
  (binOp c t x y).run P w=((Op.equal t x y).run P w).andThen λ r e=> .ok (.bool (if c= .eql then r else !r)) e:=by
 rcases d with rfl | rfl
 .unfold binOp;simp_all
 .unfold binOp;simp_all
theorem tz {t e:TypeId}{A:D'}{n c a b d:Nat}(h:P.underlying t=some (.slice e)):(Op.equalIn (d+1) t (.slice A n c) (.slice none a b)).run P w= .ok A.isNone w:=by
 cases A<;>simp[Op.equalIn,aL h]
theorem oJ {t e:TypeId}{A:D'}{d:Nat}(h:P.underlying t=some (.pointer e)):(Op.equalIn (d+1) t (.pointer A) (.pointer none)).run P w= .ok A.isNone w:=by
 cases A<;>simp[Op.equalIn,aL h]
theorem mC {t:TypeId}{a b c}{fn:Fn}{fst cap:Array Value}{d:Nat}(h:P.underlying t=some (.func a b c)):(Op.equalIn (d+1) t (.func fn fst cap) .nilFunc).run P w= .ok false w/\(Op.equalIn (d+1) t .nilFunc .nilFunc).run P w= .ok true w:=by
 constructor<;>simp[Op.equalIn,aL h]
theorem SV.bC {x v:Value}(h:(SV.one (S1.v x)).rel ρ σ v):v=x:=h
theorem vV {a:List S1}{v:Value}(h:(SV.agg a).rel ρ σ v):∃b:Array Value,v= .agg b/\bO ρ σ a b.toList:=h
include hT in
theorem FA {z:BinOp}{t:TypeId}{x y:SV}{U M:Operand}{u v:Value}(E:x.rel ρ σ u)(D:y.rel ρ σ v){K:SV->Prop}(h:OA Γ z t x y K):
  ry P st ρ σ w (do eqGuard z t U M u v;binOp z t u v) K:=by
 unfold OA at h;split at h
 .split at h
  .split at h
   .rename_i hk;subst hk;have o:=SV.bC E;have m:=SV.bC D;subst o m;obtain⟨v,r,p,l⟩:=Mc (P:=P) (t:=t) h;refine ry.pq ⟨v,r,?_,l⟩;simp[rL,p]
   grind
  grind
 .rename_i s;split at h
  .rename_i V;split at h
   .have o:=SV.bC E;have m:=SV.bC D;subst o m;obtain⟨T,h⟩:=h;have X:s.size+V.size<=9223372036854775807:=T;refine⟨.string (s++V),_,?_,?_,?_,h⟩
    .intro w' _;simp only[binOp,Op.stringOp];have hm:IntKind.i64.max=9223372036854775807:=by rfl
     rw[if_neg (by omega)];rfl
    .rfl
    .exact λ _ _ R=>R
   split at h
   .rename_i e I;have o:=SV.bC E;have m:=SV.bC D;subst o m;refine⟨.bool e,_,?_,?_,?_,h⟩
    .intro w' _;simp[uA];exact Md I
    .rfl
    .exact λ _ _ R=>R
   grind
  grind
 .rename_i A n c;split at h
  .rename_i Z c';split at h
   .rename_i i C;split at h
    .rename_i e k;have g:=(hT _ _ C).und;rw[k]at g;have o:=SV.bC E;have m:=SV.bC D;subst o m;have a:∀w,(Op.equal t (.slice A n c) (.slice none Z c')).run P w= .ok A.isNone w:=by
      intro w;exact tz (d:=9999) g
     obtain⟨v,r,p,l⟩:=kL (P:=P) (t:=t) h a (λ z B w=>dF (by simp) (by simp) (by simp) (by simp) _ B);refine ry.pq ⟨v,r,?_,l⟩;simp[xi,p]
    grind
   grind
  grind
 .split at h
  .split at h
   .rename_i i C;split at h
    .rename_i e I;obtain⟨ys,rfl,hr⟩:=vV E;obtain⟨zs,rfl,hs⟩:=vV D;have L:i.eqk≠[]:=by
      intro h0;rw[h0]at I;simp[iY]at I
     obtain⟨F,hF,O,N,G,Y⟩:=(hT _ _ C).eq L;have Q:P.fieldsOf t=F:=by simp[Program.fieldsOf,hF]
     have a:∀w,(Op.equal t (.agg ys) (.agg zs)).run P w= .ok e w:=by
      intro w;unfold Op.equal Op.maxDepth;rw[run_equalIn_struct w _ t _ _ (by grind) N,Q];exact Du (d:=9998) _ _ _ _ 0 e I (by simpa using hr) (by grind) G (λ j f q p l=>by
       grind)
     obtain⟨v,r,p,l⟩:=kL (P:=P) (t:=t) h a (λ z B w=>dF (by simp) (by simp) (by simp) (by simp) _ B);refine ry.pq ⟨v,r,?_,l⟩;simp[AV O,p]
    grind
   grind
  grind
 .rename_i i0 H;split at h
  .split at h
   .rename_i i C;split at h
    .rename_i e k;have g:=(hT _ _ C).und;rw[k]at g;have o:=E;have m:=SV.bC D;subst o m;have a:∀w,(Op.equal t (.pointer (some ⟨ρ i0,H,none⟩)) (.pointer none)).run P w= .ok false w:=by
      intro w;exact oJ (d:=9999) g
     obtain⟨v,r,p,l⟩:=kL (P:=P) (t:=t) h a (λ z B w=>dF (by simp) (by simp) (by simp) (by simp) _ B);refine ry.pq ⟨v,r,?_,l⟩;simp[rM g,p]
    grind
   grind
  grind
 .split at h
  .split at h
   .rename_i i C;split at h
    .rename_i e k;have g:=(hT _ _ C).und;rw[k]at g;have o:=SV.bC E;have m:=SV.bC D;subst o m;have a:∀w,(Op.equal t (.pointer none) (.pointer none)).run P w= .ok true w:=by
      intro w;exact oJ (d:=9999) g
     obtain⟨v,r,p,l⟩:=kL (P:=P) (t:=t) h a (λ z B w=>dF (by simp) (by simp) (by simp) (by simp) _ B);refine ry.pq ⟨v,r,?_,l⟩;simp[rM g,p]
    grind
   grind
  grind
 .split at h
  .split at h
   .rename_i i C;split at h
    .rename_i k;have g:=(hT _ _ C).und;rw[k]at g;obtain⟨f1,f2,f3,g⟩:=g;have o:=SV.bC E;have m:=SV.bC D;have a:∀w,(Op.equal t .nilFunc .nilFunc).run P w= .ok true w:=by
      intro w;exact(mC (fn:= .func 0) (fst:=#[]) (cap:=#[]) (d:=9999) g).2
     obtain⟨v,r,p,l⟩:=kL (P:=P) (t:=t) h a (λ z B w=>dF (by simp) (by simp) (by simp) (by simp) _ B);refine ry.pq ⟨v,r,?_,l⟩;intro w;have J:(eqGuard z t U M .nilFunc .nilFunc).run P w= .ok () w:=by cases z<;>simp[eqGuard]
     simp_all
    grind
   grind
  grind
 .rename_i fn fst cap;split at h
  .split at h
   .rename_i i C;split at h
    .rename_i k;have g:=(hT _ _ C).und;rw[k]at g;obtain⟨f1,f2,f3,g⟩:=g;have o:=SV.bC E;have m:=SV.bC D;have a:∀w,(Op.equal t (.func fn fst cap) .nilFunc).run P w= .ok false w:=by
      intro w;exact(mC (d:=9999) g).1
     obtain⟨v,r,p,l⟩:=kL (P:=P) (t:=t) h a (λ z B w=>dF (by simp) (by simp) (by simp) (by simp) _ B);refine ry.pq ⟨v,r,?_,l⟩;intro w;have J:(eqGuard z t U M (.func fn fst cap) .nilFunc).run P w= .ok () w:=by cases z<;>simp[eqGuard]
     simp_all
    grind
   grind
  grind
 .split at h
  .split at h
   .rename_i b hb;split at h
    .rename_i W S;have o:=S1.nA hb E;have m:=S1.nA S D;subst o m;split at h
     .rename_i i C;split at h
      .rename_i k;have g:=(hT _ _ C).und;rw[k]at g;have a:∀w,(Op.equal t (.bool b) (.bool W)).run P w= .ok (RF b W) w:=by
        intro w;exact run_equalIn_bool' w _ t b _ g
       obtain⟨v,r,p,l⟩:=kL (P:=P) (t:=t) h a (λ z B w=>dF (by simp) (by simp) (by simp) (by simp) _ B);refine ry.pq ⟨v,r,?_,l⟩;simp[yD,p]
      grind
     grind
    grind
   grind
  grind
 grind
end
end
section
section
variable {P:Program}{Γ:fh}{w0:W0}{w:World}{H0:Heap}{st:St}{a:Act}{ρ:Nat->Nat}{σ:Nat->Value}
variable (hT:cE P Γ)(hg:Good P w0 H0 st a w ρ σ)
theorem OT {e:TypeId}{n:Nat}{d:G'}{v:Value}{B b:Nat}(h:w.ownsRow B e b v n d)(j:0<n):∃g c,v= .slice (some ⟨g,0,none⟩) n c:=by
 rcases h.2 with⟨_,i⟩ |⟨g,c,a,f,_⟩
 .omega
 grind
include hT hg
theorem tC {t:TypeId}{x:SV}{v:Value}{k:IntKind}{n:Int}(H:x.rel ρ σ v)(z:∀d,st.eN d->¬x.refs d){K:SV->Prop}(h:pg Γ st t x n K):
  ry P st ρ σ w (Instr.indexAt t v (.int k n)) K:=by
 unfold pg at h;split at h
 .grind
 .rename_i i hi;have E:=(hT _ _ hi).und;split at h
  .rename_i e F;rw[F]at E;split at h
   .grind
   .rename_i j R;have q:=(hT _ _ R).eh (P:=P);split at h
    .rename_i A p c;obtain⟨⟨b,o,rfl⟩,r,u,s⟩:=h;have C:=SV.bC H;subst C;refine⟨.pointer _,.one (.lx _ _),?_,⟨b,o,rfl,rfl⟩,λ _ _ y=>y,s⟩;have f:0<=n:=r;have a:n<(p):=u;simp[Instr.indexAt,asIntOf,aL E,f,a,q,add_plain,sj]
    .rename_i o;split at h
     .rename_i W p xs N;obtain⟨r,u,s⟩:=h;have f:0<=n:=r;have a:n<(p):=u;have B:=yC hg N;obtain⟨g,c,G⟩:=OT B.row (by omega);have C:v=σ o:=H;rw[G]at C;subst C;refine⟨.pointer _,.one (.kH _ _),?_,⟨g,p,c,G,rfl⟩,λ d D y=>z d D y,s⟩;simp[Instr.indexAt,asIntOf,aL E,f,a,q,add_plain,sj]
     grind
    .rename_i o l m sz;split at h
     .rename_i W p xs N;split at h
      .rename_i T;subst T;obtain⟨r,u,s⟩:=h;have f:0<=n:=r;have a:n<(m):=u;obtain⟨A,V,c,G,a0,C⟩:=H;have B:=yC hg N;obtain⟨O,L,M,I,Q⟩:∃O L M,σ o= .slice O L M/\L<=M/\(0<L->∃g,O=some ⟨g,0,none⟩):=by
        rcases B.row.2 with⟨hv,r⟩ |⟨g,U,X,hv,_,_,hc,_⟩
        .grind
        grind
       rw[G]at I;obtain⟨rfl,rfl,rfl⟩:=I;obtain⟨g,rfl⟩:=Q.2 (by omega);subst C;have S:¬c=l:=by omega
       have J:eM (some ⟨g,0,none⟩) c l j.size=some ⟨g,l*j.size,none⟩:=by unfold eM;rw[if_neg S,acC,add_plain,aaT]
       refine⟨.pointer _,.one (.kH _ _),?_,⟨g,V,c,G,rfl⟩,λ d D y=>z d D y,s⟩;have Z:sj (Is (qI l) n) j.size=l*j.size+n.toNat*j.size:=by
        unfold sj Is qI;rw[show((l)+n).toNat=l+n.toNat by omega,acS]
       rw[J];simp[Instr.indexAt,asIntOf,aL E,f,a,q,add_plain]
      grind
     grind
    grind
  .rename_i p e F;rw[F]at E;split at h
   .grind
   .rename_i j R;have q:=(hT _ _ R).eh (P:=P);split at h
    .split at h
     .obtain⟨r,u,s⟩:=h;have f:0<=n:=r;have a:n<(p):=u;have C:=H;subst C;refine⟨.pointer _,.one (.oS _ _),?_,rfl,λ d D y=>z d D y,s⟩;simp[Instr.indexAt,Instr.sureAddr,asIntOf,aL E,f,a,q,add_plain,sj]
     grind
    .obtain⟨r,u,s⟩:=h;have f:0<=n:=r;have a:n<(p):=u;obtain⟨b,o,rfl,rfl⟩:=H;refine⟨.pointer _,.one (.lx _ _),?_,⟨b,o,rfl,rfl⟩,λ _ _ y=>y,s⟩;simp[Instr.indexAt,Instr.sureAddr,asIntOf,aL E,f,a,q,add_plain,sj,jI]
    .obtain⟨r,u,s⟩:=h;have f:0<=n:=r;have a:n<(p):=u;obtain⟨g,m,c,G,rfl⟩:=H;refine⟨.pointer (some ⟨g,jI _ _,none⟩),.one (.kH _ _),?_,⟨g,m,c,G,rfl⟩,λ d D y=>z d D y,s⟩;simp[Instr.indexAt,Instr.sureAddr,asIntOf,aL E,f,a,q,add_plain,sj,jI]
    .rename_i o Y;obtain⟨r,u,s⟩:=h;have f:0<=n:=r;have a:n<(p):=u;have C:=H;subst C;refine⟨.pointer (some ⟨ρ o,jI _ _,none⟩),.one (.oS _ _),?_,rfl,λ d D y=>z d D y,s⟩;simp[Instr.indexAt,Instr.sureAddr,asIntOf,aL E,f,a,q,add_plain,sj,jI]
    grind
  grind
omit hT hg in
theorem tD {n:Int}{K:Nat->Prop}:∀{c m:Nat},yh n K c m->∀k,m<=k->k<m+c->n=(k:Int)->K k
 | 0,m,_,k,h1,h2,_=>by omega
 | c+1,m,h,k,h1,h2,e=>by
  by_cases a:m=k
  .subst a;exact h.1 e
  .exact tD h.2 k (by omega) (by omega) e
omit hT hg in
theorem yF {t:TypeId}{x:SV}{n:Int}{K:SV->Prop}(h:yi Γ t x n K):qJ Γ t x n K:=by
 unfold yi at h;split at h
 .grind
 .split at h
  .rename_i a e g;split at h
   .split at h
    .grind
    .obtain⟨d,c,b⟩:=h;have j:0<=n:=d;have f:n<(a):=c;have i:=tD b n.toNat (by simp) (by omega) (by omega);split at i
     .unfold qJ;grind
     grind
   grind
  grind
omit hg in
theorem rO {t:TypeId}{x:SV}{v:Value}{k:IntKind}{n:Int}(H:x.rel ρ σ v)(y:∀d,st.eN d->¬x.refs d){K:SV->Prop}(h:qJ Γ t x n K):
  ry P st ρ σ w (Instr.index t v (.int k n)) K:=by
 unfold qJ at h;split at h
 .grind
 .rename_i i Q;have l:=(hT _ _ Q).und;split at h
  .rename_i b;rw[b]at l;split at h
   .rename_i s;obtain⟨u,z,F⟩:=h;have E:0<=n:=u;have N:n<(s.size):=z;have R:=SV.bC H;subst R;have g:s[n.toNat]?=some (s.data.toList.getD n.toNat 0):=by
     rw[getElem?_pos s _ _];rw[aaq,aai (by simp_all)];rfl
    refine⟨.int _ _,.one (.v _),?_,rfl,λ _ _ B=>B,F⟩;intro p _;simp only[Instr.index,asIntOf,aL l,Sem.run_bind,Sem.run_pure,Result.andThen_ok,E,g];rfl
   grind
  .rename_i T e b;rw[b]at l;split at h
   .split at h
    .grind
    .rename_i j S;have a:=hT _ _ S;split at h
     .rename_i A;obtain⟨u,z,F⟩:=A;obtain⟨m,rfl,G⟩:=H;have q:=kC j.size (kD (n.toNat*j.size) G);have U:((m.toList.drop (n.toNat*j.size)).take j.size).length=j.size:=by
       have:=cX G;grind
      obtain⟨r,J,D,L,M⟩:=dW h q;refine⟨_,r,?_,J,λ d I B=>?_,M⟩
      .intro p _;have f:(part e m (n.toNat*j.size)).run P p= .ok (tx j.agg ((m.toList.drop (n.toNat*j.size)).take j.size)) p:=by
        unfold part tx;simp[a.agg _];cases O:j.agg
        .rcases D with D | D
         .grind
         .have o:n.toNat*j.size<m.size:=by
           grind
          rw[acM o];simp;rw[aas (by grind)];grind
        .simp[a.eh _,Sem.run_pure];grind
       simp[Instr.index,asIntOf,aL l,u,z,a.eh _,f]
      .obtain⟨c,A,C⟩:=L d B;exact y d I ⟨c,aca (acb A),C⟩
     grind
   grind
  grind
end
end
section
theorem Me (b:Nat):∀(l:G') (s:Nat) (a:Array Value),b+s+l.length<=a.size->
  ((l.zipIdx s).foldl (λ f x=>f.setIfInBounds (b+x.2) x.1) a).toList=a.toList.take (b+s)++l++a.toList.drop (b+s+l.length):=by
 intro l;induction l with
 | nil=>simp
 | cons x l d=>
  intro s a h;simp only[aav]at h;simp only[List.zipIdx_cons,adu];rw[d (s+1) _ (by simp;omega)];have c:(a.setIfInBounds (b+s) x).toList=a.toList.take (b+s)++x::a.toList.drop (b+s+1):=by
   rw[Array.toList_setIfInBounds,acj,if_pos (by simp;omega)]
  have e:(a.toList.take (b+s)).length=b+s:=by grind
  have g:(a.toList.take (b+s)++x::a.toList.drop (b+s+1)).take (b+(s+1))=a.toList.take (b+s)++[x]:=by
   grind
  have i:(a.toList.take (b+s)++x::a.toList.drop (b+s+1)).drop (b+(s+1)+l.length)=a.toList.drop (b+s+(l.length+1)):=by
   rw[aeD,e,aaN (by omega)];rw[show b+(s+1)+l.length-(b+s)=l.length+1 from by omega,aef,abT];grind
  simp_all
theorem IK (b:Nat)(c:Array Value)(a:Array Value)(h:b+c.size<=a.size):
  (c.zipIdx.foldl (λ d (x:Value×Nat)=>d.setIfInBounds (b+x.2) x.1) a).toList=a.toList.take b++c.toList++a.toList.drop (b+c.size):=by
 rw[<-Array.foldl_toList];have:=Me b c.toList 0 a (by grind);grind
section
variable {P:Program}{Γ:fh}{w0:W0}{w:World}{H0:Heap}{st:St}{a:Act}{ρ:Nat->Nat}{σ:Nat->Value}
variable (hT:cE P Γ)(hg:Good P w0 H0 st a w ρ σ)
include hT in
theorem tE {t:TypeId}{f a:Nat}{j:tj}(h:xI Γ t f=some (a,j)):
  ∃(F:Array Field) (b:Field),P.underlying t=some (.struct F)/\F[f]?=some b/\b.offset=a/\Γ b.type=some j:=by
 unfold xI at h;split at h
 .rename_i i c;have d:=(hT _ _ c).und;grind
 grind
theorem OU (d:∀i,∃A n c,σ i= .slice A n c){c:S1}{y:Value}(h:c.Tv=true)(a:c.rel ρ σ y):y.oneCell'=true:=by
 cases c<;>simp[S1.Tv]at h<;>simp only[S1.rel]at a<;>try (simp at h;done)
 case v x=>cases x<;>simp at h<;>subst a<;>rfl
 case own i=>obtain⟨A,n,c,e⟩:=d i;subst a;rw[e];rfl
 case kH i j=>obtain⟨g,n,c,_,e⟩:=a;subst e;rfl
 case lx A j=>obtain⟨b,o,_,e⟩:=a;subst e;rfl
 case sub i l m sz=>obtain⟨A,n,c,_,_,e⟩:=a;subst e;rfl
 case Rq i s=>obtain⟨A,n,c,e⟩:=d i;rw[a.1,e];rfl
 case me i bk=>rw[a.1];rfl
 all_goals (subst a;rfl)
theorem uB (a:∀i,∃A n c,σ i= .slice A n c){x:SV}{cs:List S1}{v:Value}(h:x.cells=some cs)(b:x.rel ρ σ v):bO ρ σ cs v.cells.toList:=by
 cases x<;>simp only[SV.cells]at h;case one c=>
  split at h
  .rename_i d;simp at h;subst h;have:=OU a d b;cases v<;>simp[Value.cells]<;>first | exact⟨b,trivial⟩ |(simp[Value.oneCell']at this)
  grind
 case agg cs=>
  simp at h;subst h;obtain⟨f,rfl,e⟩:=b;exact e
 all_goals grind
theorem so {x:SV}{cs:List S1}{d:Nat}(h:x.cells=some cs)(a:dI d cs):x.refs d:=by
 cases x<;>simp only[SV.cells]at h;case one c=>
  split at h
  .simp at h;subst h;obtain⟨e,b,a⟩:=a;simp at b;subst b;exact a
  grind
 case agg cs=>simp at h;subst h;exact a
 all_goals grind
include hg in
theorem Mf {o:Option Operand}{d l:Int}(h:bound st o d=some l):(o=none/\l=d)\/∃x k,o=some x/\a.eval x= .int k l:=by
 unfold bound at h;split at h
 .rename_i x;split at h
  .rename_i k n b;simp at h;subst h;have:=aE hg b;exact .inr ⟨x,k,rfl,this⟩
  grind
 grind
theorem run_sliceBound {k:IntKind}{l:Int}{y:Nat}{c:BoundsCode}(b:0<=l)(a:l<=y):(Instr.sliceBound (.int k l) y c).run P w= .ok l.toNat w:=by
 simp[Instr.sliceBound,asIntOf,b,a]
theorem jL {b:Bool}{len cap:Nat}{a e:Option Value}{l h:Int}(c:(a=none/\l=0)\/∃k,a=some (.int k l))(d:(e=none/\h=len)\/∃k,e=some (.int k h))
  (g:0<=l) (i:l<=h) (f:h<=cap):(Instr.sliceBounds b len cap a e none).run P w= .ok (l.toNat,h.toNat,cap) w:=by
 rcases d with⟨rfl,rfl⟩ |⟨k,rfl⟩<;>rcases c with⟨rfl,rfl⟩ |⟨j,rfl⟩
 .rfl
 .simp[Instr.sliceBounds,Sem.run_pure];rw[run_sliceBound g i];rfl
 .simp[Instr.sliceBounds,Sem.run_pure];rw[run_sliceBound (by omega) f];rfl
 .simp[Instr.sliceBounds,Sem.run_pure];rw[run_sliceBound (by omega) f];simp;rw[run_sliceBound g (by omega)];rfl
include hT hg
theorem AW {t:TypeId}{x:SV}{v:Value}{I R:Option Operand}(O:x.rel ρ σ v)(J:∀d,st.eN d->¬x.refs d){K:SV->Prop}(h:tm Γ st t x I R K):
  ry P st ρ σ w (Instr.sliceAt t v (I.map a.eval) (R.map a.eval) none) K:=by
 have z:∀{o:Option _} {d l:Int},bound st o d=some l->(o.map a.eval=none/\l=d)\/∃k,o.map a.eval=some (.int k l):=by
  intro o d l U;rcases Mf hg U with⟨rfl,q⟩ |⟨x,k,rfl,q⟩
  .grind
  grind
 unfold tm at h;split at h
 .grind
 .rename_i i L;have G:=(hT _ _ L).und;split at h
  .rename_i e u;rw[u]at G;split at h
   .grind
   .rename_i j Z;have F:=(hT _ _ Z).eh (P:=P);split at h
    .rename_i A n c;split at h
     .rename_i l p r m;obtain⟨y,E,q,B⟩:=h;have C:=SV.bC O;subst C;have f:=λ w=>jL (P:=P) (w:=w) (b:=true) (len:=n) (cap:=c) (z r) (z m) y E q;refine⟨.slice (eM A c l.toNat j.size) (p.toNat-l.toNat) (c-l.toNat),.one _,?_,?_,λ _ _ p=>?_,B _ rfl⟩
      .intro T _;simp[Instr.sliceAt,Instr.slice,aL G,f,F];rfl
      .rfl
      .exact p
     grind
    .rename_i o;split at h
     .rename_i e' n xs V;split at h
      .rename_i l p r m;obtain⟨y,E,q,B⟩:=h;have Q:0<=l:=y;have N:l<=p:=E;have X:p<=(n):=q;obtain⟨A,c,H,M⟩:∃A c,σ o= .slice A n c/\n<=c:=by
        rcases(yC hg V).row.2 with⟨H,y⟩ |⟨g,c,W,H,_,_,M,_⟩
        .grind
        grind
       have C:v=σ o:=O;rw[H]at C;subst C;have f:=λ w=>jL (P:=P) (w:=w) (b:=true) (len:=n) (cap:=c) (z r) (z m) Q N (by omega);have D:Tw I l=l.toNat:=by
        cases I with
        | none=>simp[bound]at r;subst r;rfl
        | some _=>rfl
       rw[D]at B;refine⟨.slice _ (p.toNat-l.toNat) _,.one (.sub _ _ _ _),?_,⟨A,n,c,H,T' rfl⟩,λ d S Y=>?_,B⟩
       .intro T _;simp[Instr.sliceAt,Instr.slice,aL G,f,F];rfl
       .exact J d S Y
      grind
     grind
    grind
  .rename_i u;rw[u]at G;split at h
   .rename_i s;split at h
    .rename_i l p r m;obtain⟨y,E,q,B⟩:=h;have C:=SV.bC O;subst C;have f:=λ w=>jL (P:=P) (w:=w) (b:=false) (len:=s.size) (cap:=s.size) (z r) (z m) y E q;refine⟨.string (s.extract l.toNat p.toNat),.one _,?_,?_,λ _ _ p=>?_,B⟩
     .simp[Instr.sliceAt,Instr.slice,aL G,f]
     .rfl
     .exact p
    grind
   grind
  grind
theorem uC {C:Nat->Option (Nat×Nat)}{e:Nat->Option (Nat×Nat)}(F:∀f p,C f=some p->e f=some p):
  ∀(t:List (Nat×Operand)) (k:List S1) (g:Array Value) (b:List S1),lay st C t k=some b->bO ρ σ k g.toList->(∀d,st.eN d->¬dI d k)->
   ∃r,Instr.fill e g (t.map λ p=>(p.1,a.eval p.2))=some r/\bO ρ σ b r.toList/\(∀d,st.eN d->¬dI d b)/\r.size=g.size:=by
 intro t;induction t with
 | nil=>
  intro k g b h y A;simp[lay,acf]at h;subst h;exact⟨g,rfl,y,A,rfl⟩
 | cons p t D=>
  intro k g b h y A;obtain⟨f,x⟩:=p;simp only[lay]at h;split at h
  .rename_i w M L;split at h
   .rename_i N s;split at h
    .rename_i K q;split at h
     .have u:=aE hg s;have z:=uB hg.sl q u;have j:=cX z;have o:=cX y;simp at j o;have v:w+(a.eval x).cells.size<=g.size:=by omega
      have m:=IK _ _ _ v;obtain⟨r,J,E,I,G⟩:=D _ _ _ h
       (by
        rw[m,<-j];exact jm (jm (kC _ y) z) (kD _ y))
       (by
        intro d B H;obtain⟨c,i,n⟩:=H;rcases aam.1 i with i | i
        .rcases aam.1 i with i | i
         .exact A d B ⟨c,acb i,n⟩
         .exact dK s B (so q ⟨c,i,n⟩)
        .exact A d B ⟨c,aca i,n⟩)
      refine⟨r,?_,E,I,?_⟩
      .simp[abq,Instr.fill];grind
      .rw[G];have:∀(l:List (Value×Nat)) (g:Array Value),(l.foldl (λ k (x:Value×Nat)=>k.setIfInBounds (w+x.2) x.1) g).size=g.size:=by
        intro l;induction l with
        | nil=>grind
        | cons x l D=>grind
       rw[<-Array.foldl_toList,this]
     grind
    grind
   grind
  grind
end
end
section
section
variable {P:Program}{Γ:fh}{w0:W0}{w:World}{H0:Heap}{st:St}{a:Act}{ρ:Nat->Nat}{σ:Nat->Value}
variable (hT:cE P Γ)(hg:Good P w0 H0 st a w ρ σ)
def lz (P:Program)(st:St)(a:Act)(ρ:Nat->Nat)(σ:Nat->Value)(w:World)(o:Oper)(K:SV->Prop):Prop:=
 ∃v r,(∀b,kh st ρ σ w b->(execOp a.eval o).run P b= .ok (.value v) b)/\SV.rel ρ σ r v/\(∀d,st.eN d->¬r.refs d)/\K r
theorem lz.of {o:Oper}{m:Sem Value}{K:SV->Prop}(d:execOp a.eval o=(do pure (.value (<-m))))(h:ry P st ρ σ w m K):lz P st a ρ σ w o K:=by
 obtain⟨v,r,f,c⟩:=h;exact⟨v,r,λ e b=>by simp_all,c⟩
theorem OV {c:List Operand}{b:List SV}(h:Iv st c=some b){d:Nat}(f:st.eN d):∀r∈b,¬r.refs d:=by
 induction c generalizing b with
 | nil=>simp[Iv]at h;grind
 | cons x c i=>
  simp[Iv]at h;split at h
  .rename_i r e;split at h
   .simp at h;subst h;intro g a;rcases aaw.1 a with rfl | a
    .exact dK e f
    grind
   grind
  grind
theorem FB {f:Operand->Value}:∀{a:List SV} {b:List S1} {c:List Operand},Fj a=some b->a.length=c.length->
  (∀(k:Nat) (r:SV) (x:Operand),a[k]?=some r->c[k]?=some x->r.rel ρ σ (f x))->bO ρ σ b (c.map f)
 |[],b,[],h,_,_=>by simp[Fj]at h;subst h;trivial
 | r::a,b,x::c,h,hl,hk=>by
  cases r<;>simp[Fj]at h<;>try (simp at h;done)
  split at h
  .rename_i e d;simp at h;subst h;exact⟨hk 0 _ _ rfl rfl,FB d (by grind) λ k r x i g=>hk (k+1) r x (by grind) (by grind)⟩
  grind
 |[],_,_::_,_,hl,_=>by grind
 | _::_,_,[],_,hl,_=>by grind
theorem Mg {b:List SV}{g:List S1}{d:Nat}(h:Fj b=some g)(f:dI d g):∃r∈b,r.refs d:=by
 induction b generalizing g with
 | nil=>simp[Fj]at h;obtain⟨c,e,_⟩:=f;grind
 | cons r b j=>
  cases r<;>simp[Fj]at h<;>try (simp at h;done)
  split at h
  .rename_i k i;simp at h;subst h;obtain⟨m,e,a⟩:=f;rcases aaw.1 e with rfl | e
   .exact⟨.one _,N' a⟩
   .obtain⟨r,f,l⟩:=j i ⟨m,e,a⟩;grind
  grind
include hT hg
theorem nC {o:Oper}{K:SV->Prop}(h:yj Γ st o.op K):lz P st a ρ σ w o K:=by
 obtain⟨d7,op,ty,d6,b8,c5⟩:=o;simp at h;unfold yj at h;split at h
 .split at h
  .rename_i r C;exact⟨_,r,λ _ _=>rfl,aE hg C,λ d B=>dK C B,h⟩
  grind
 .split at h
  .rename_i r C;exact⟨_,r,λ _ _=>rfl,aE hg C,λ d B=>dK C B,h⟩
  grind
 .rename_i c x y;split at h
  .rename_i D;have e:a.eval c= .bool _:=aE hg D;split at h
   .rename_i r C;exact⟨_,r,λ _ _=>by simp[execOp,e,asBool],aE hg C,λ d B=>dK C B,h⟩
   grind
  .rename_i D;have e:a.eval c= .bool _:=aE hg D;split at h
   .rename_i r C;exact⟨_,r,λ _ _=>by simp[execOp,e,asBool],aE hg C,λ d B=>dK C B,h⟩
   grind
  grind
 .split at h
  .rename_i r C;exact lz.of rfl (Dt hT hg (aE hg C) h)
  grind
 .rename_i t x f;split at h
  .rename_i c D;split at h
   .rename_i a6 j R;obtain⟨F,V,hF,S,rfl,X⟩:=tE hT R;have a4:=(hT _ _ X).eh (P:=P);split at h
    .grind
    .have b7:j.size≠0:=by omega
     have Z:∀b q,a.eval x= .pointer (some ⟨b,q,none⟩)->∀w',kh st ρ σ w w'->(Instr.fieldAt t (a.eval x) f).run P w'= .ok (.pointer (some ⟨b,q+V.offset,none⟩)) w':=by
      intro b q e w' _;simp[Instr.fieldAt,Instr.sureAddr,fieldPlace,aL hF,S,e,a4,b7,add_plain]
     have O:=aE hg D;have J:=λ d (B:st.eN d)=>dK D B;split at h
     .exact lz.of rfl ⟨_,.one (.loc _ _),Z _ _ O,rfl,λ d B u=>J d B u,h⟩
     .obtain⟨b,q,rfl,e⟩:=O;refine lz.of rfl ⟨_,.one (.lx _ _),Z _ _ e,⟨b,q,rfl,?_⟩,λ _ _ u=>u,h⟩;simp[jI,Nat.add_assoc]
     .obtain⟨g,n,c,hs,e⟩:=O;exact lz.of rfl ⟨_,.one (.kH _ _),Z _ _ e,⟨g,n,c,hs,rfl⟩,λ d B u=>J d B u,h⟩
     .exact lz.of rfl ⟨_,.one (.oS _ _),Z _ _ O,rfl,λ d B u=>J d B u,h⟩
     grind
   grind
  grind
 .split at h
  .rename_i Y D;split at h
   .rename_i a6 j R;obtain⟨F,V,hF,S,rfl,X⟩:=tE hT R;have b2:=hT _ _ X;split at h
    .obtain⟨Q,e,C⟩:=aE hg D;have a0:=kC j.size (kD V.offset C);have hl:((Q.toList.drop V.offset).take j.size).length=j.size:=by
      have:=cX C;grind
     obtain⟨r,q1,q2,q3,q4⟩:=dW h a0;have b1:∀w,(part V.type Q V.offset).run P w= .ok (tx j.agg ((Q.toList.drop V.offset).take j.size)) w:=by
      intro w;unfold part tx;simp[Sem.run_bind,b2.agg w];cases d9:j.agg
      .rcases q2 with q2 | q2
       .grind
       .have c0:V.offset<Q.size:=by
         grind
        rw[acM c0];simp;rw[aas (by grind)];grind
      .simp[aeC,Sem.run_bind,b2.eh w,Result.andThen_ok,Sem.run_pure];congr 2;grind
     refine lz.of rfl ⟨_,r,?_,q1,λ d B u=>?_,q4⟩
     .simp[Instr.field,aL hF,S,e,asAgg,b1]
     .obtain⟨c,c1,d1⟩:=q3 d u;exact dK D B ⟨c,aca (acb c1),d1⟩
    grind
   grind
  grind
 .rename_i t x ix;split at h
  .rename_i r C;split at h
   .rename_i k n hn;have e:=aE hg hn;refine lz.of (m:=Instr.indexAt t _ _) rfl ?_;rw[e];exact tC hT hg (aE hg C) (λ d B=>dK C B) h
   grind
  grind
 .rename_i t x ix;split at h
  .rename_i r C;split at h
   .rename_i k n hn;have e:=aE hg hn;refine lz.of (m:=Instr.index t _ _) rfl ?_;rw[e];split at h
    .exact rO hT (aE hg C) (λ d B=>dK C B) h
    .exact rO hT (aE hg C) (λ d B=>dK C B) (yF h)
   grind
  grind
 .split at h
  .rename_i r C;split at h
   .rename_i r' a0;exact lz.of rfl (FA hT (aE hg C) (aE hg a0) h)
   grind
  grind
 .rename_i t x;split at h
  .rename_i U;have e:a.eval x= .bool _:=aE hg U;exact lz.of rfl ⟨.bool _,.one .ff,λ _ _=>by simp[Op.unary,e],rfl,λ _ _ u=>u,h⟩
  .rename_i U;have e:a.eval x= .bool _:=aE hg U;exact lz.of rfl ⟨.bool _,.one .tt,λ _ _=>by simp[Op.unary,e],rfl,λ _ _ u=>u,h⟩
  .rename_i c D _ U;split at h
   .rename_i b hb;have e:=S1.nA hb (aE hg U);exact lz.of rfl ⟨.bool (!b),.one (.b _),λ _ _=>by simp[Op.unary,e],rfl,λ _ _ u=>u,h⟩
   grind
  grind
 .rename_i t x;split at h
  .rename_i k n U;have e:a.eval x= .int k n:=aE hg U;refine lz.of rfl ⟨.int k _,.one (.v _),?_,rfl,λ _ _ u=>u,h.2⟩;have hw:=nB h.1;simp[RD]at hw;simp[Op.unary,e,Op.intArith,RD,hw]
  grind
 .rename_i t dt x;split at h
  .rename_i i0 c7;split at h
   .rename_i k0 b0;have a7:=(hT _ _ c7).und;rw[b0]at a7;split at h
    .rename_i i hi;split at h
     .rename_i k n U;have e:a.eval x= .int k n:=aE hg U;split at h
      .rename_i k' H;have L:=(hT _ _ hi).und;rw[H]at L;obtain⟨m,hm,hK⟩:=h;refine lz.of rfl ⟨.int _ m,.one (.v _),?_,rfl,λ _ _ u=>u,hK⟩;simp[convert,aL a7,aL L,e,Conv.intToInt,hm]
      grind
     grind
    grind
   grind
  grind
 .rename_i x i;split at h
  .rename_i Y D;split at h
   .rename_i g c b9;obtain⟨Q,e,C⟩:=aE hg D;obtain⟨y,hy,c4⟩:∃y,Q.toList[i]?=some y/\∃M,bO ρ σ c M/\(g=true->y= .agg ⟨M⟩)/\(g=false->M=[y]):=by
     have:∀(Y:List (Bool×List S1)) (Q:G') (i:Nat),oT ρ σ Y Q->Y[i]?=some (g,c)->∃y,Q[i]?=some y/\∃M,bO ρ σ c M/\(g=true->y= .agg ⟨M⟩)/\(g=false->M=[y]):=by
      intro Y;induction Y with
      | nil=>grind
      | cons q Y ih=>
       intro Q i C h;obtain⟨gq,cq⟩:=q;cases Q with
       | nil=>cases gq<;>exact C.elim
       | cons y Q=>
        cases i with
        | zero=>
         simp at h;obtain⟨rfl,rfl⟩:=h;refine⟨y,rfl,?_⟩;cases gq
         .exact⟨[y],C.1,N' λ _=>rfl⟩
         .obtain⟨⟨M,rfl,hz⟩,_⟩:=C;grind
        | succ i=>
         have d4:=by cases gq<;>exact C.2
         grind
     grind
    obtain⟨M,hz,h1,h2⟩:=c4;obtain⟨r,q1,q2,q3,q4⟩:=dW h hz;have d3:tx g M=y:=by
     cases g
     .rw[h2 rfl];rfl
     .rw[h1 rfl];rfl
    have d0:Q[i]?=some y:=by grind
    refine lz.of rfl ⟨y,r,λ _ _=>by simp[Instr.extract,e,d0],by grind,λ d B u=>?_,q4⟩;exact dK D B ⟨(g,c),aaJ b9,q3 d u⟩
   grind
  grind
 .rename_i f first c8
  split at h
  .split at h
   .rename_i rs b5;split at h
    .rename_i Y T;obtain⟨hl,hk⟩:=KN hg b5;have R:first=#[]:=by
      grind
     subst R;refine lz.of rfl ⟨.func _ _ (c8.map a.eval),.Fh f _,λ _ _=>by simp[Instr.makeFunc],⟨_,rfl,?_⟩,λ d B u=>?_,h⟩
     .rw[Array.toList_map];exact FB T hl hk
     .obtain⟨r,C,c9⟩:=Mg T u;exact OV b5 B r C c9
    grind
   grind
  grind
 .rename_i x;have J:=λ (r) (D:ev _ x=some r) d (B:st.eN d)=>dK D B;split at h
  .rename_i o p D;have e:a.eval x= .pointer _:=aE hg D;exact⟨_,.one (.loc o p),λ _ _=>by simp[execOp,e],rfl,λ d B u=>J _ D d B u,h⟩
  .rename_i A p D;obtain⟨b,q,rfl,e⟩:=aE hg D;exact⟨_,.one (.lx _ p),λ _ _=>by simp[execOp,e],⟨b,q,rfl,rfl⟩,λ d B u=>J _ D d B u,h⟩
  .rename_i o p D;obtain⟨g,n,c,hs,e⟩:=aE hg D;exact⟨_,.one (.kH o p),λ _ _=>by simp[execOp,e],⟨g,n,c,hs,rfl⟩,λ d B u=>J _ D d B u,h⟩
  .rename_i o p D;have e:a.eval x= .pointer _:=aE hg D;exact⟨_,.one (.oS o p),λ _ _=>by simp[execOp,e],rfl,λ d B u=>J _ D d B u,h⟩
  grind
 .split at h
  .rename_i r C;exact lz.of rfl (AW hT hg (aE hg C) (λ d B=>dK C B) h)
  grind
 .rename_i t c3;split at h
  .grind
  .rename_i i hi;have W:=hT _ _ hi;split at h
   .rename_i Y T;split at h
    .rename_i a5;have a9:i.agg=true:=by
      unfold Dc at a5;grind
     obtain⟨d2,z,i1,i2,i3,i4,d8⟩:=W.info;have hz:∀w,(zeroValue t).run P w= .ok z w:=λ w=>by simp[zeroValue,typeInfo,i1,i4]
     rcases W.zagg.1 a9 with⟨fs,H⟩ |⟨n,e,H⟩
     .have L:=W.und;rw[H]at L;obtain⟨F,hF,a8,N⟩:=L;have a2:∀(l:List Field) (w:World),(∀f∈l,∃a1,P.info? f.type=some a1)->(l.mapM (λ f=>do pure (f.offset,<-sizeOf f.type):Field->Sem (Nat×Nat))).run P w= .ok (l.map λ f=>(f.offset,P.cellsOf f.type)) w:=by
       intro l w;induction l with
       | nil=>simp_all
       | cons f l ih=>
        intro hl;obtain⟨a1,N⟩:=hl f (by simp);simp only[List.mapM_cons,Sem.run_bind,sizeOf,typeInfo,run_program,Result.andThen_ok,N,Sem.run_pure];have:=ih (λ f R=>hl f (abQ _ R));simp only[sizeOf,typeInfo]at this;rw[this];simp[Program.cellsOf,N]
      have c6:∀w,(F.mapM (λ f=>do pure (f.offset,<-sizeOf f.type):Field->Sem (Nat×Nat))).run P w= .ok (F.map λ f=>(f.offset,P.cellsOf f.type)) w:=by
       intro w;rw[acN,Sem.run_map,a2 _ w N];simp only[Result.andThen_ok];congr 1;grind
      have a3:∀f p,ac6 Γ i f=some p->(λ j=>(F.map λ f=>(f.offset,P.cellsOf f.type))[j]?) f=some p:=by
       intro f p hp;unfold ac6 at hp;rw[H]at hp;simp at hp;split at hp
       .rename_i a6 ft R;split at hp
        .rename_i j X;simp at hp;subst hp;rw[<-a8,aev]at R;cases S:F.toList[f]? with
         | none=>grind
         | some V=>
          rw[S]at R;obtain⟨rfl,rfl⟩:=R;have b6:F[f]?=some V:=by grind
          obtain⟨a1,_,q1,q2,_⟩:=(hT _ _ X).info;simp[b6,Program.cellsOf,q1,q2]
        grind
       grind
      obtain⟨M,h1,h2,h3,h4⟩:=uC hT hg a3 _ _ ⟨i.zero⟩ _ T (sk _) (λ d _ u=>qO u);refine lz.of rfl ⟨.agg _,.agg _,?_,⟨M,rfl,h2⟩,λ d B u=>h3 d B u,h⟩;simp[Instr.build,Sem.run_bind,aL hF];simp_all
     .have L:=W.und;rw[H]at L;have X:∃j,Γ e=some j:=by
       unfold Dc at a5;grind
      obtain⟨j,X⟩:=X;have a4:=(hT _ _ X).eh (P:=P);have a3:∀f p,ac6 Γ i f=some p->(λ k=>some (k*j.size,j.size)) f=some p:=by
       intro f p hp;unfold ac6 at hp;grind
      obtain⟨M,h1,h2,h3,h4⟩:=uC hT hg a3 _ _ ⟨i.zero⟩ _ T (sk _) (λ d _ u=>qO u);refine lz.of rfl ⟨.agg _,.agg _,?_,⟨M,rfl,h2⟩,λ d B u=>h3 d B u,h⟩;simp[Instr.build,Sem.run_bind,aL L];simp_all
    grind
   grind
 .rename_i I E;split at h
  .rename_i x U;split at h
   .rename_i t ht;have G:I=#[x]:=by grind
    have b4:E=#[t]:=by grind
    subst G b4;split at h
    .rename_i i hi;have L:=(hT _ _ hi).und;split at h
     .rename_i e H;rw[H]at L;split at h
      .rename_i A n c D;have e:a.eval x= .slice A n c:=aE hg D;refine⟨.int _ _,.one (.v _),?_,rfl,λ _ _ u=>u,h⟩;simp[execOp,resolve,invoke,builtin,Builtin.len_,aL L,e,goInt,qI]
      .rename_i o D;split at h
       .rename_i e' n xs hL;have b3:=yC hg hL;have e:a.eval x=σ o:=aE hg D;have hv:∃A c,σ o= .slice A n c:=by
         rcases b3.row.2 with⟨hv,h0⟩ |⟨g,c,d5,hv,_⟩
         .grind
         grind
        obtain⟨A,c,hv⟩:=hv;rw[hv]at e;refine⟨.int _ _,.one (.v _),?_,rfl,λ _ _ u=>u,h⟩;simp[execOp,resolve,invoke,builtin,Builtin.len_,aL L,e,goInt,qI]
       grind
      .rename_i o l n sz D;obtain⟨A,n0,c,hv,_,e⟩:∃A n0 c,σ o= .slice A _ c/\l+n<=n0/\a.eval x= .slice _ n _:=aE hg D;refine⟨.int _ _,.one (.v _),?_,rfl,λ _ _ u=>u,h⟩;simp[execOp,resolve,invoke,builtin,Builtin.len_,aL L,e,goInt,qI]
      grind
     .rename_i H;rw[H]at L;split at h
      .rename_i s D;have e:a.eval x= .string s:=aE hg D;refine⟨.int _ _,.one (.v _),?_,rfl,λ _ _ u=>u,h⟩;simp[execOp,resolve,invoke,builtin,Builtin.len_,aL L,e,goInt,qI]
      grind
     grind
    grind
   grind
  grind
 .rename_i I E;split at h
  .rename_i x y c2;have G:I=#[x,y]:=by grind
   subst G;split at h
   .rename_i k n hn;split at h
    .rename_i k' m hm;have e1:a.eval x= .int k n:=aE hg hn;have e2:a.eval y= .int _ m:=aE hg hm;refine⟨.int k _,.one (.v _),?_,rfl,λ _ _ u=>u,h⟩;have:(if m>n then m else n)=max n m:=by omega
     simp[execOp,resolve,invoke,builtin,Builtin.max_,Builtin.max2,e1,e2,this]
    grind
   grind
  grind
 .rename_i I E;split at h
  .rename_i x y c2;have G:I=#[x,y]:=by grind
   subst G;split at h
   .rename_i k n hn;split at h
    .rename_i k' m hm;have e1:a.eval x= .int k n:=aE hg hn;have e2:a.eval y= .int _ m:=aE hg hm;refine⟨.int k _,.one (.v _),?_,rfl,λ _ _ u=>u,h⟩;have:(if m<n then m else n)=min n m:=by omega
     simp[execOp,resolve,invoke,builtin,Builtin.min_,Builtin.min2,e1,e2,this]
    grind
   grind
  grind
 grind
end
end
section
variable {b:Nat}
structure au (ws:List Nat)(st st':St):Prop where
 fl:st'.fr.length=st.fr.length
 ll:st'.L.length=st.L.length
 fr:∀j,j∉ws->st'.fr[j]?=st.fr[j]?
 ro:∀(i:Nat) (o:bL),st.L[i]?=some (some (false,o))->st'.L[i]?=some (some (false,o))
 le:Heap.le st.H st'.H
def Heap.le_refl (H:Heap):Heap.le H H:=λ _ _ _ h=>h
def Heap.le_trans {A B C:Heap}(h:Heap.le A B)(k:Heap.le B C):Heap.le A C:=λ _ _ _ x=>k _ _ _ (h _ _ _ x)
def au.refl (st:St):au [] st st:=⟨rfl,rfl,λ _ _=>rfl,λ _ _ h=>h,Heap.le_refl _⟩
def au.mono {c a:List Nat}{st b:St}(h:au c st b)(f:∀x∈c,x∈a):au a st b:=
 ⟨h.fl,h.ll,λ j d=>h.fr j (λ e=>d (f j e)),h.ro,h.le⟩
def au.trans {c:List Nat}{st b a:St}(h:au c st b)(k:au c b a):au c st a:=
 ⟨k.fl.trans h.fl,k.ll.trans h.ll,λ j d=>(k.fr j d).trans (h.fr j d),λ i o e=>k.ro i o (h.ro i o e),Heap.le_trans h.le k.le⟩
def au.aK (st:St)(d:Option Tmp)(x:SV):au d.toList st (aK st d x):=by
 cases d with
 | none=>exact au.refl _
 | some d=>
  refine⟨by simp[Vc.aK],rfl,λ j a=>?_,λ _ _ h=>h,Heap.le_refl _⟩;have:d≠j:=λ e=>a (by grind);simp[Vc.aK,aaK this]
section
variable {P:Program}{w0:W0}{w w':World}{H0:Heap}{st:St}{a:Act}{ρ ρ':Nat->Nat}{σ σ':Nat->Value}
def S1.Dv (a:∀i,i≠b->ρ' i=ρ i)(e:∀i,i≠b->σ' i=σ i){c:S1}{y:Value}(f:¬c.refs b)(h:c.rel ρ σ y):c.rel ρ' σ' y:=by
 cases c<;>simp[S1.rel,S1.refs]at h f⊢<;>try exact h
 case loc i off=>grind
 case oS i off=>grind
 case kH i j=>grind
 case own i=>grind
 case sub i l m sz=>grind
 case Rq i s=>grind
 grind
def nD {d:Nat}(a:∀i,i≠d->ρ' i=ρ i)(b:∀i,i≠d->σ' i=σ i):∀{f:List S1} {g:G'},¬dI d f->bO ρ σ f g->bO ρ' σ' f g
 |[],[],_,_=>trivial
 | c::_,_::_,hn,h=>⟨S1.Dv a b (λ e=>hn ⟨c,N' e⟩) h.1,nD a b (λ ⟨x,j,e⟩=>hn ⟨x,T' e⟩) h.2⟩
 |[],_::_,_,h=>h.elim
 | _::_,[],_,h=>h.elim
def Dw {d:Nat}(a:∀i,i≠d->ρ' i=ρ i)(b:∀i,i≠d->σ' i=σ i):∀{g:List (Bool×List S1)} {j:G'},(¬∃x∈g,dI d x.2)->oT ρ σ g j->oT ρ' σ' g j
 |[],[],_,_=>trivial
 |(true,c)::g,_::_,hn,h=>by
  obtain⟨⟨l,e,n⟩,k⟩:=h;exact⟨⟨l,e,nD a b (λ f=>hn ⟨(true,c),N' f⟩) n⟩,Dw a b (λ ⟨x,m,f⟩=>hn ⟨x,T' f⟩) k⟩
 |(false,c)::g,_::_,hn,h=>⟨nD a b (λ f=>hn ⟨(false,c),N' f⟩) h.1,Dw a b (λ ⟨x,m,f⟩=>hn ⟨x,T' f⟩) h.2⟩
 |[],_::_,_,h=>h.elim
 |(true,_)::_,[],_,h=>h.elim
 |(false,_)::_,[],_,h=>h.elim
def SV.Dv {d:Nat}(a:∀i,i≠d->ρ' i=ρ i)(b:∀i,i≠d->σ' i=σ i){x:SV}{y:Value}(j:¬x.refs d)(h:x.rel ρ σ y):x.rel ρ' σ' y:=by
 cases x<;>simp[SV.rel];case one x=>exact S1.Dv a b j h
 case agg cs=>obtain⟨c,e,g⟩:=h;exact⟨c,e,nD a b j g⟩
 case Fh f cap=>obtain⟨c,e,g⟩:=h;exact⟨c,e,nD a b j g⟩
 case kz cs=>obtain⟨c,e,g⟩:=h;exact⟨c,e,Dw a b j g⟩
def Good.db (l:Good P w0 H0 st a w ρ σ){f:Bool}{o:bL}{g:Nat}(h:st.L[b]?=some (some (f,o)))(d:dy ρ σ b o=some g):g<w.heap.size/\w0.nw (g)/\∀k,st.H g k=none:=by
 have c:=l.obj _ _ _ h;cases o<;>simp[dy]at d<;>simp[dj]at c;case box t cs=>
  grind
 case arr t xs=>
  grind
 case row e n xs=>
  obtain⟨j,m,p⟩:=c;have:=j.lt g d;grind
 all_goals grind
def Good.xj (c:Good P w0 H0 st a w ρ σ){o:Nat}{v:Value}(h:st.H b o=some v):b<w.heap.size:=(c.snap _ _ _ h).lt
def Good.aK (b:Good P w0 H0 st a w ρ σ)(d:Option Tmp){r:SV}{v:Value}(m:r.rel ρ σ v)(l:∀g,st.L[g]?=some none->¬r.refs g):Good P w0 H0 (aK st d r) (a.put d v) w ρ σ:=by
 cases d with
 | none=>exact b
 | some d=>
  refine⟨b.defers,by simp[Act.put,Vc.aK,b.size],λ i x c=>?_,b.below,b.le,b.ef,b.snap,b.obj,b.sep,λ g f=>⟨λ j x c=>?_,(b.nr _ f).obj⟩,b.sl,b.opn⟩
  .simp[Vc.aK]at c;simp[Act.put];by_cases e:d=i
   .cases h:st.fr[d]? with
    | none=>grind
    | some y=>
     have k:d<a.tmps.size:=by rw[b.size];grind
     grind
   .rw[aaK e]at c;have:=b.fr i x c;simp_all
  .simp[Vc.aK]at c;by_cases e:d=j
   .subst e;rw[List.getElem?_set_self']at c;cases h:st.fr[d]? with
    | none=>grind
    | some y=>
     rw[h]at c;simp at c;subst c;exact l _ f
   .rw[aaK e]at c;exact(b.nr _ f).fr j x c
def Good.dG (c:Good P w0 H0 st a w ρ σ){f:Bool}{o:bL}{g:Nat}(h:st.L[b]?=some (some (f,o)))(d:dy ρ σ b o=some g):st.O g=none:=by
 cases e:st.O g with
 | none=>rfl
 | some x=>
  exact absurd d ((c.opn g x e).2 b f o h)
def Good.step (q:Good P w0 H0 st a w ρ σ)(J:List (Option ti))(d:Nat)(X:bL)(I:Option Nat)
   (hd:J[d]?=some (some (true,X))) (T:∀i,i≠d->J[i]?=st.L[i]?\/J[i]?=some (some (true,.dead)))
   (z:(ρ'=ρ/\σ'=σ)\/(st.eN d/\(∀i,i≠d->ρ' i=ρ i)/\(∀i,i≠d->σ' i=σ i)))
   (Z:lC w w' I) (a5:∀g,I=some g->w0.nw (g)/\∀o,st.H g o=none)
   (a9:∀g,I=some g->st.O g=none)
   (V:∀i f o g,i≠d->J[i]?=some (some (f,o))->dy ρ σ i o=some g->I≠some g)
   (a6:dj P w0 w' st.H ρ' σ' d X) (b0:∀g,dy ρ' σ' d X=some g->w.heap.size<=g\/I=some g)
   (a7:∀Q,Q≠d->st.L[Q]?=some none->st.eN Q->¬X.refs Q) (a2:∀i,∃A n c,σ' i= .slice A n c):
   Good P w0 H0 {st with L:=J} a w' ρ' σ':=by
 have U:∀{x:SV} {y:Value},(st.eN d->¬x.refs d)->x.rel ρ σ y->x.rel ρ' σ' y:=by
   intro x y B h;rcases z with⟨rfl,rfl⟩ |⟨K,u,C⟩
   .grind
   .exact SV.Dv u C (B K) h
 have S:∀{cs:List _} {ys:List _},(st.eN d->¬dI d cs)->bO ρ σ cs ys->bO ρ' σ' cs ys:=by
   intro x y B h;rcases z with⟨rfl,rfl⟩ |⟨K,u,C⟩
   .grind
   .exact nD u C (B K) h
 have R:∀i,i≠d->ρ' i=ρ i:=by
   grind
 have Y:∀i,i≠d->σ' i=σ i:=by
   grind
 have r:∀i o,i≠d->dy ρ' σ' i o=dy ρ σ i o:=by
   intro i o p;cases o<;>simp[dy]<;>simp[R i p,Y i p]
 have l:∀b,b<w.heap.size->I≠some b->w'.heap[b]?=w.heap[b]?:=λ b s G=>Z.block b s (λ e=>G e.symm);have a4:∀i f o,i≠d->J[i]?=some (some (f,o))->dj P w0 w' st.H ρ' σ' i o:=by
   intro i f o p h;rcases T i p with m | m
   .have E:=h;rw[m]at E;have D:=q.obj i f o E;have N:=V i f o;cases o<;>simp[dj]at D⊢;case box t cs=>
     obtain⟨ys,u,C,W,h4⟩:=D;rw[R i p];exact⟨ys,(l _ (aaA.1 u).1 (N _ p h rfl)).trans u,S (λ B=>B.obj _ _ _ E) C,W,h4⟩
    case arr t xs=>
     obtain⟨u,C,W,h4⟩:=D;rw[R i p];exact⟨(l _ (aaA.1 u).1 (N _ p h rfl)).trans u,C,W,h4⟩
    case row e n xs=>
     obtain⟨u,C,W⟩:=D;rw[Y i p];refine⟨?_,C,W⟩;refine u.kept Z.togrownBy ?_;cases s:(σ i).ownBlock with
     | none=>simp
     | some g=>exact .inr (λ e=>N g p h s e.symm)
    grind
   .rw[m]at h;obtain⟨_,rfl⟩:=h;trivial
 refine⟨q.defers,q.size,λ i x hx=>U (λ B=>B.fr _ _ hx) (q.fr i x hx),?_,q.le,q.ef,λ b o v hv=>?_,λ i f o h=>?_,λ i j f f' o X g a1 h E s=>?_,λ Q b1=>⟨λ j x hx=>?_,λ j f o D=>?_⟩,a2,λ b x s=>?_⟩
 . exact q.below.grown Z.togrownBy Z.drawn (λ k hk=>(a5 k hk).1)
 . have F:=q.xj hv;exact(q.snap _ _ _ hv).keep (l b F (λ e=>by grind))
 . grind
 .
   have a8:∀i f o g,i≠d->J[i]?=some (some (f,o))->dy ρ σ i o=some g->g<w.heap.size:=by
    intro i f o g p h s;rcases T i p with m | m
    .rw[m]at h;exact(q.db h s).1
    .rw[m]at h;obtain⟨_,rfl⟩:=h;simp[dy]at s
   by_cases p:i=d
   .grind
   .rw[r i o p]at s;by_cases hj:j=d
    .grind
    .rw[r j _ hj];rcases T i p with m | m
     .rcases T j hj with M | M
      .rw[m]at h;rw[M]at E;exact q.sep i j f _ o _ g a1 h E s
      .rw[M]at E;obtain⟨_,rfl⟩:=E;simp[dy]
     .rw[m]at h;obtain⟨_,rfl⟩:=h;simp[dy]at s
 . have B:=q.nr Q (by
    grind)
   exact B.fr j x hx
 . have a0:st.L[Q]?=some none:=by
    grind
   have B:=q.nr _ a0;by_cases hj:j=d
   .grind
   .rcases T j hj with m | m
    .rw[m]at D;exact B.obj j f o D
    .rw[m]at D;obtain⟨_,rfl⟩:=D;exact λ hh=>hh
 . obtain⟨⟨k1,⟨a3,k2,k3⟩,k4⟩,k5⟩:=q.opn b x s;have F:=(aaA.1 k2).1;have G:I≠some b:=λ h=>by grind
   refine⟨⟨k1,⟨a3,(l b F G).trans k2,k3⟩,k4⟩,λ i f o h=>?_⟩;by_cases p:i=d
   .grind
   .rcases T i p with m | m
    .grind
    .rw[m]at h;obtain⟨_,rfl⟩:=h;simp[dy]
end
end
section
def vW {a:Type}(f:Nat->a)(d:Nat)(x:a):Nat->a:=λ i=>if i=d then x else f i
theorem bm {a:Type}(f:Nat->a)(d:Nat)(x:a):vW f d x d=x:=by simp[vW]
theorem eP {a:Type}(f:Nat->a){d i:Nat}(x:a)(h:i≠d):vW f d x i=f i:=by simp[vW,h]
section
variable {P:Program}{Γ:fh}{w0:W0}{w:World}{H0:Heap}{st:St}{a:Act}{ρ:Nat->Nat}{σ:Nat->Value}
variable (hT:cE P Γ)(hg:Good P w0 H0 st a w ρ σ)
theorem yA.cellsOf {t:TypeId}{i:tj}(h:yA P t i):P.cellsOf t=i.size:=by
 obtain⟨c,z,b,a,_⟩:=h.info;simp[Program.cellsOf,b,a]
theorem bD {a:Type}{l:List a}{d:Nat}{x:a}(h:d<l.length):(l.set d x)[d]?=some x:=by grind
theorem au.aq {st:St}{d:Nat}{o:bL}(h:∀a,st.L[d]?≠some (some (false,a))):au [] st (Vc.aq st d o):=by
 refine⟨rfl,by simp[Vc.aq],λ _ _=>rfl,λ i a b=>?_,Heap.le_refl _⟩;simp[Vc.aq];grind
theorem au.iD {st:St}{d:Nat}{o:bL}(h:da st d=true):au [] st (Vc.aq st d o):=
 au.aq λ b a=>by rw[bw h]at a;grind
theorem au.uD {st:St}{d:Nat}{o b:bL}(h:gK st d=some b):au [] st (Vc.aq st d o):=
 au.aq λ c a=>by rw[aT h]at a;grind
include hg in
theorem Good.newObj {d:Nat}(B:da st d=true)(t:TypeId)(k:Array Value)(u:bL)
  (q:(∃j,u= .box t j/\bO ρ σ j k.toList/\∀s,st.eN s->¬dI s j)\/(u= .arr t k.toList/\∀y∈k.toList,y.oneCell'=true)):
  Good P w0 H0 (Vc.aq st d u) a (w.alloc (.cells k t)) (vW ρ d w.heap.size) σ:=by
 have z:=bw B;have n:=(aap.1 z).1;have l:=hg.nr d z;have b:∀o,st.H w.heap.size o=none:=by
  intro o;cases r:st.H _ o with
  | none=>rfl
  | some v=>exact absurd (hg.xj r) (adP _)
 have e:(w.alloc (.cells k t)).heap[w.heap.size]?=some _:=heap_alloc_new w _;refine Good.step hg _ d _ none (bD n) (λ i m=> .inl ?_) (.inr ⟨l,λ i m=>eP _ _ m,λ _ _=>rfl⟩) (lC.alloc w _ _) (λ g h=>by grind) (λ g h=>by grind) (λ i f o g m h x=>by simp) ?_ ?_ ?_ hg.sl
 .grind
 .rcases q with⟨j,rfl,C,c⟩ |⟨rfl,A⟩
  .simp only[dj,bm];exact⟨k,e,nD (λ i m=>eP _ _ m) (λ _ _=>rfl) (c d l) C,.inl hg.below.size,b⟩
  .simp only[dj,bm];exact⟨e,A,.inl hg.below.size,b⟩
 .intro g x;rcases q with⟨j,rfl,_⟩ |⟨rfl,_⟩<;>simp[dy,bm]at x<;>omega
 .intro s D _ p;rcases q with⟨j,rfl,_,c⟩ |⟨rfl,_⟩
  .exact c _ p
  .exact λ r=>r
include hg in
theorem Good.newRow {d:Nat}(F:da st d=true){q:World}(e:TypeId)(n:Nat)(u:G')(v:Value)
  (D:lC w q none) (b:q.ownsRow w.heap.size e (P.cellsOf e) v n u) (B:∀x∈u,x.oneCell'=true):
  Good P w0 H0 (Vc.aq st d (.row e n u)) a q ρ (vW σ d v):=by
 have y:=bw F;have p:=(aap.1 y).1;have s:=hg.nr d y;have k:∀g o,w.heap.size<=g->st.H g o=none:=by
  intro g o z;cases t:st.H g o with
  | none=>rfl
  | some v=>have:=hg.xj t;omega
 have r:∃A m c,v= .slice A m c:=by
  rcases b.2 with⟨G,_⟩ |⟨g,C,E,G,_⟩
  .grind
  grind
 refine Good.step hg _ d _ _ (bD p) (λ i l=> .inl ?_) (.inr ⟨s,λ _ _=>rfl,λ i l=>eP _ _ l⟩) D (λ g h=>by grind) (λ g h=>by grind) (λ i f o g l h j=>by simp) ?_ ?_ (λ _ _ _ _ t=>t) ?_
 .grind
 .simp[dj,bm];refine⟨?_,B,λ g j o=>k g o (b.lt g j).1⟩;exact⟨iZ b,λ g j=> .inl (aax hg.below.size (b.lt g j).1)⟩
 .intro g j;simp[dy,bm]at j;exact .inl (b.lt g j).1
 .intro i;by_cases l:i=d
  .subst l;rw[bm];grind
  .rw[eP _ _ l];exact hg.sl i
theorem IL (t:TypeId)(v:Value):(newVar t v).run P w= .ok ⟨w.heap.size,0,none⟩ (w.alloc (.cells v.cells t)):=by
 rfl
theorem gz (z:G')(n:Nat):(dE z n).length=n*z.length:=by
 induction n with
 | zero=>simp[dE]
 | succ n a=>simp[dE,a,acS,Nat.add_comm]
theorem OW (z:G')(n k:Nat)(h:k<n*z.length):(dE z n)[k]?=z[k%z.length]?:=by
 induction n generalizing k with
 | zero=>grind
 | succ n b=>
  simp[dE];by_cases a:k<z.length
  .rw[abA a,Nat.mod_eq_of_lt a]
  .rw[abk (by omega),b _ (by grind),<-Nat.mod_eq_sub_mod (by omega)]
theorem FC {z:G'}{n:Nat}{x:Value}(h:x∈dE z n):x∈z:=by
 induction n with
 | zero=>simp[dE]at h
 | succ n a=>
  simp[dE]at h;grind
theorem sr (z:G')(n a:Nat)(b:z.length=a):((Array.range (n*a)).map λ k=>(⟨z⟩:Array Value)[k%(⟨z⟩:Array Value).size]!).toList=dE z n:=by
 apply abU;intro k;rcases abR k _ with h | h
 .rw[OW z n k h];have b:0<z.length:=by
   grind
  have c:k%z.length<z.length:=Nat.mod_lt _ b;grind
 .rw[adk (by grind),adk (by rw[gz];grind)]
theorem yG {g off:Nat}{t:TypeId}:∀(b:G') (i:Nat) (w:World) (a:Array Value),w.heap[g]?=some (.cells a t (0,0))->off+i+b.length<=a.size->(∀v∈b,v.oneCell'=true)->
  ∃f,(storeCells ⟨g,off,none⟩ b i).run P w= .ok () f/\f.heap[g]?=some (.cells ⟨a.toList.take (off+i)++b++a.toList.drop (off+i+b.length)⟩ t (0,0))/\lC w f (some g)/\f.heap.size=w.heap.size:=by
 intro b;induction b with
 | nil=>
  intro i w a n m _;refine⟨w,rfl,?_,lC.refl w _,rfl⟩;simp_all
 | cons v b z=>
  intro i w a n m q;simp only[aav]at m;have c:off+i<a.size:=by omega
  have d:w.cell? ⟨g,off+i,none⟩=some (a[off+i]'c):=by
   rw[eD n,acM c]
  have o:w.frozen? ⟨g,off+i,none⟩=false:=by simp[World.frozen?,n]
  have p:(w.setCell ⟨g,off+i,none⟩ v).heap[g]?=some (.cells (a.setIfInBounds (off+i) v) t (0,0)):=by
   simp[World.setCell,Array.getElem?_modify,n]
  obtain⟨f,u,B,h,C⟩:=z (i+1) _ _ p (by simp;omega) (λ v A=>q v (abQ _ A));refine⟨f,?_,?_,?_,?_⟩
  .simp only[storeCells,Sem.run_bind,add_plain,run_store P w _ v .plain (q v (by simp)),d,o,adA,acF,Result.andThen_ok];exact u
  .rw[B];congr 3;have l:(a.setIfInBounds (off+i) v).toList=a.toList.take (off+i)++v::a.toList.drop (off+i+1):=by
    rw[Array.toList_setIfInBounds,acj,if_pos (by simpa using c)]
   have r:(a.toList.take (off+i)).length=off+i:=by simp;omega
   rw[l];have y:(a.toList.take (off+i)++v::a.toList.drop (off+i+1)).take (off+(i+1))=a.toList.take (off+i)++[v]:=by
    rw[aco,r,aag (by omega),show off+(i+1)-(off+i)=1 from by omega];rfl
   have x:(a.toList.take (off+i)++v::a.toList.drop (off+i+1)).drop (off+(i+1)+b.length)=a.toList.drop (off+i+(b.length+1)):=by
    rw[aeD,r,aaN (by omega),show off+(i+1)+b.length-(off+i)=b.length+1 from by omega,aef,abT];simp only[abO];congr 1;omega
   rw[y,x];simp
  .refine⟨⟨h.os,h.tape,h.output,?_,λ k s j=>?_⟩,h.drawn⟩
   .have:=h.size;simpa using this
   .rw[h.block k (by simpa using s) j];exact Below.heap_setCell w _ v k (λ e=>j (by rw[e]))
  simp_all
end
end
section
section
variable {P:Program}{Γ:fh}{w0:W0}{w:World}{H0:Heap}{st:St}{a:Act}{ρ:Nat->Nat}{σ:Nat->Value}
variable (hT:cE P Γ)(hg:Good P w0 H0 st a w ρ σ)
def nE:bL->Bool
 | .box _ _=>true
 | .arr _ _=>true
 | _=>false
structure cF (X:Nat->Prop)(st st':St)(ρ ρ':Nat->Nat)(w w':World):Prop where
 stay:∀(i:Nat) (f:Bool) (o:bL),st.L[i]?=some (some (f,o))->nE o=true->¬X i->∃f',st'.L[i]?=some (some (f',o))
 rho:∀(i:Nat) (f:Bool) (o:bL),st.L[i]?=some (some (f,o))->nE o=true->¬X i->ρ' i=ρ i
 heap:∀(i:Nat) (f:Bool) (o:bL),st.L[i]?=some (some (f,o))->nE o=true->¬X i->w'.heap[ρ i]?=w.heap[ρ i]?
def Dx:Nat->Prop:=λ _=>False
theorem cF.refl {X:Nat->Prop}(st:St)(ρ:Nat->Nat)(w:World):cF X st st ρ ρ w w:=⟨λ _ f _ h _ _=>⟨f,h⟩,λ _ _ _ _ _ _=>rfl,λ _ _ _ _ _ _=>rfl⟩
theorem cF.mono {X Y:Nat->Prop}{st d:St}{ρ c:Nat->Nat}{w k:World}(h:cF X st d ρ c w k)(j:∀i,X i->Y i):cF Y st d ρ c w k:=
 ⟨λ i f o e a g=>h.stay i f o e a λ b=>g (j i b),λ i f o e a g=>h.rho i f o e a λ b=>g (j i b),λ i f o e a g=>h.heap i f o e a λ b=>g (j i b)⟩
theorem cF.any {X:Nat->Prop}{st b:St}{ρ a:Nat->Nat}{w c:World}(h:cF Dx st b ρ a w c):cF X st b ρ a w c:=h.mono λ _ d=>d.elim
theorem cF.trans {X:Nat->Prop}{st j e:St}{ρ g d:Nat->Nat}{w n m:World}(h:cF X st j ρ g w n)(k:cF X j e g d n m):cF X st e ρ d w m:=by
 refine⟨λ i f o c a b=>?_,λ i f o c a b=>?_,λ i f o c a b=>?_⟩
 .obtain⟨p,l⟩:=h.stay i f o c a b;exact k.stay i _ o l a b
 .obtain⟨p,l⟩:=h.stay i f o c a b;exact(k.rho i _ o l a b).trans (h.rho i f o c a b)
 .obtain⟨p,l⟩:=h.stay i f o c a b;have:=k.heap i _ o l a b;rw[h.rho i f o c a b]at this;exact this.trans (h.heap i f o c a b)
theorem iE {ρ:Nat->Nat}{σ:Nat->Value}{i:Nat}{o:bL}(h:nE o=true):dy ρ σ i o=some (ρ i):=by
 cases o<;>first | rfl |(simp[nE]at h)
theorem cF.of (hg:Good P w0 H0 st a w ρ σ){j:St}{d:Nat->Nat}{s:World}{ch:Option Nat}(u:∀i:Nat,j.L[i]?=st.L[i]?\/st.L[i]?=some none\/∃(f:Bool) (e:TypeId) (n:Nat) (l:G'),st.L[i]?=some (some (f,bL.row e n l)))
  (q:∀i:Nat,st.L[i]?≠some none->d i=ρ i) (v:lC w s ch) (r:∀g,ch=some g->∃(k:Nat) (f:Bool) (e:TypeId) (n:Nat) (l:G'),st.L[k]?=some (some (f,.row e n l))/\(σ k).ownBlock=some g):
  cF Dx st j ρ d w s:=by
 refine⟨λ i f o c b _=>?_,λ i f o c b _=>q i (by grind),λ i f o c b _=>?_⟩
 .rcases u i with h | h |⟨x,e,n,l,h⟩
  .grind
  .grind
  .rw[c]at h;simp at h;rw[h.2]at b;simp[nE]at b
 .have t:=iE (ρ:=ρ) (σ:=σ) (i:=i) b;refine v.block _ (hg.db c t).1 (λ e=>?_);obtain⟨k,x,z,n,l,m,y⟩:=r _ e.symm;have p:i≠k:=by
   rintro rfl;rw[c]at m;simp at m;rw[m.2]at b;simp[nE]at b
  exact hg.sep i k f _ o _ _ p c m t y
def oU (P:Program)(w0:W0)(H0:Heap)(st:St)(a:Act)(w:World)(ρ:Nat->Nat)(o:Oper)(K:St->Prop):Prop:=
 ∃f v d b c e,(execOp a.eval o).run P w= .ok f d/\(f= .value v\/(f= .skip/\v=undef))/\K b/\au o.dst.toList st b/\
  Good P w0 H0 b (a.put o.dst v) d c e/\cF (λ i=>yu st o.op=some i) st b ρ c w d
theorem mD {st:St}{d a:Nat}{o:bL}(h:(Vc.aq st d o).L[a]?=some none)(b:d<st.L.length):a≠d/\st.L[a]?=some none:=by
 simp[Vc.aq]at h;grind
theorem kM {d:Nat}(a:da st d=true):d<st.L.length:=(aap.1 (bw a)).1
include hg in
theorem vX {d:Nat}{t:TypeId}{i:tj}{c:List S1}{K:St->Prop}{ys:Array Value}(h:KJ st d t i c K)(j:da st d=true)
  (p:bO ρ σ c ys.toList) (g:∀f,st.eN f->¬dI f c) (z:∀y∈ys.toList,y.oneCell'=true):
  ∃b,K b/\au [d] st b/\Good P w0 H0 b (a.put (some d) (.pointer (some ⟨w.heap.size,0,none⟩))) (w.alloc (.cells ys t)) (vW ρ d w.heap.size) σ/\cF Dx st b ρ (vW ρ d w.heap.size) w (w.alloc (.cells ys t)):=by
 have l:=kM j;have v:=bw j;have m:∀k,((∃c,k= .box t c/\bO ρ σ c ys.toList/\∀f,st.eN f->¬dI f c)\/(k= .arr t ys.toList/\∀y∈ys.toList,y.oneCell'=true))->
   K (Vc.aK (Vc.aq st d k) (some d) (.one (.loc d 0)))->∃b,K b/\au [d] st b/\Good P w0 H0 b (a.put (some d) (.pointer (some ⟨w.heap.size,0,none⟩))) (w.alloc (.cells ys t)) (vW ρ d w.heap.size) σ/\cF Dx st b ρ (vW ρ d w.heap.size) w (w.alloc (.cells ys t)):=by
  intro k s r;refine⟨_,r,?_,?_,cF.of (ch:=none) hg (λ i=>?_) (λ i q=>eP _ _ (λ e=>q (e▸v))) (lC.alloc w _ _) (by simp)⟩
  .exact((au.iD j).mono (by simp)).trans (au.aK _ (some d) _)
  .refine Good.aK (hg.newObj j t _ _ s) _ ?_ ?_
   .simp[SV.rel,S1.rel,bm]
   .intro f o u;exact(mD o l).1 u.symm
  .by_cases q:i=d
   .grind
   .simp[Vc.aK,Vc.aq];grind
 unfold KJ at h;split at h
 .split at h
  .rename_i x n;have:=fO n p;grind
  grind
 .exact m _ (.inl ⟨c,rfl,p,g⟩) h
include hg in
theorem Good.Ff {i:Nat}{e:TypeId}{n:Nat}{X:G'}(h:gK st i=some (.row e n X)):
  ∃A c z,Heap.le st.H z/\Cells z A 0 X/\Ol n c/\Good P w0 H0 (Vc.aq {st with H:=z} i (.Ff A n c)) a w ρ σ:=by
 have K:=aT h;have r:=(aap.1 K).1;obtain⟨u,Z,S⟩:=hg.obj _ _ _ K;have G:∀A c z,σ i= .slice A n c->Heap.le st.H z->(∀b,(∀g,(σ i).ownBlock=some g->b≠g)->∀o,z b o=st.H b o)->ct z w->
   Good P w0 H0 (Vc.aq {st with H:=z} i (.Ff A n c)) a w ρ σ:=by
  intro A c z E M p D;have q:∀j,j≠i->(st.L.set i (some (true,bL.Ff A n c)))[j]?=st.L[j]?:=λ j l=>aaK (abu l);refine⟨hg.defers,hg.size,hg.fr,hg.below,Heap.le_trans hg.le M,λ b y o=>?_,D,λ j f o l=>?_,λ j k f f' o o' g R l I y=>?_,λ d hd=>?_,hg.sl,λ b x y=>?_⟩
  rotate_right
  .obtain⟨⟨k1,k2,k4⟩,k5⟩:=hg.opn b x y;refine⟨⟨k1,k2,λ t ht=>?_⟩,λ j f o l=>?_⟩
   .rw[show(Vc.aq _ i _).H b t=z b t from rfl,p b (λ g s e=>k5 i _ _ K (by simp[dy];grind)) t];grind
   .by_cases m:j=i
    .subst m;simp[Vc.aq]at l;rw[bD r]at l;obtain⟨_,rfl⟩:=l;simp[dy]
    .simp[Vc.aq]at l;grind
  .simp[Vc.aq];rw[p b (λ g s=>?_) o]
   .exact hg.ef b y o
   .intro e;subst e;exact y (hg.db K s).2.1
  .simp[Vc.aq]at l⊢;by_cases m:j=i
   .subst m;rw[bD r]at l;obtain⟨_,rfl⟩:=l;exact E
   .rw[q j m]at l;have Q:=hg.obj _ _ _ l;have C:∀b,dy ρ σ j o=some b->∀g,(σ i).ownBlock=some g->b≠g:=by
     intro b y g s e;subst e;exact hg.sep j i f _ o _ b m l K y s
    cases o<;>simp[dj]at Q⊢;case box t cs=>
     obtain⟨ys,J,N,O,q4⟩:=Q;exact⟨ys,J,N,O,λ o=>by rw[p _ (C _ rfl)];grind⟩
    case arr t ys=>
     obtain⟨J,N,O,q4⟩:=Q;exact⟨J,N,O,λ o=>by rw[p _ (C _ rfl)];grind⟩
    case row e' n' xs'=>
     obtain⟨J,N,O⟩:=Q;exact⟨J,N,λ g s o=>by rw[p _ (C _ s)];grind⟩
    grind
  .simp[Vc.aq]at l I;have V:j=i->False:=by
    intro e;subst e;rw[bD r]at l;obtain⟨_,rfl⟩:=l;simp[dy]at y
   rw[q j V]at l;by_cases F:k=i
   .subst F;rw[bD r]at I;obtain⟨_,rfl⟩:=I;simp[dy]
   .rw[q k F]at I;exact hg.sep j k f _ o _ g R l I y
  .obtain⟨a4,Y⟩:=mD (st:=st) hd r;have hn:=hg.nr d Y;refine⟨hn.fr,λ j f o l=>?_⟩;simp[Vc.aq]at l;by_cases m:j=i
   .subst m;rw[bD r]at l;obtain⟨_,rfl⟩:=l;exact λ hh=>hh
   .rw[q j m]at l;exact hn.obj j f o l
 rcases u.row.2 with⟨E,h0⟩ |⟨g,T,a2,E,M,y,U,a0,a3,W⟩
 .subst h0;have hx:=aal (by simpa using u.row.1);subst hx;exact⟨none,0,st.H,Heap.le_refl _,.inl rfl,aaB _,G _ _ _ E (Heap.le_refl _) (λ _ _ _=>rfl) hg.snap⟩
 .have a1:(σ i).ownBlock=some g:=by rw[E];rfl
  refine⟨some ⟨g,0,none⟩,T,λ b o=>if b=g then X[o]? else st.H b o,?_,?_,U,?_⟩
  .intro b o v B;grind
  .exact .inr ⟨g,0,rfl,λ t v B=>T' (Z v (aaJ B))⟩
  .refine G _ _ _ E ?_ ?_ ?_
   .intro b o v B;grind
   .grind
   .intro b o v B;simp at B;split at B
    .rename_i e;subst e;exact seen.of (qP u E o v B) (Z v (aaJ B))
    .exact hg.snap _ _ _ B
include hg in
theorem Good.TJ {i:Nat}{t:TypeId}{cs:List S1}{A:G'}(h:gK st i=some (.box t cs))(s:tl cs=some A)(R:CZ cs=true):
  ∃q,Heap.le st.H q/\Cells q (some ⟨ρ i,0,none⟩) 0 A/\Good P w0 H0 (Vc.aq {st with H:=q} i .dead) a w ρ σ:=by
 have I:=aT h;have p:=(aap.1 I).1;obtain⟨ys,r,W,S,M⟩:=hg.obj _ _ _ I;have O:=fO s W;have V:∀v∈A,v.oneCell'=true:=by rw[<-O];exact kK hg.sl R W
 obtain⟨q,a0⟩:∃q:Heap,q=λ b o=>if b=ρ i then A[o]? else st.H b o:=⟨_,rfl⟩;have l:∀b,b≠ρ i->∀o,q b o=st.H b o:=λ b r o=>by grind
 have Q:∀o,q (ρ i) o=A[o]?:=λ o=>by grind
 have E:Heap.le st.H q:=λ b o v s=>by
  grind
 have n:∀j,j≠i->(st.L.set i (some (true,bL.dead)))[j]?=st.L[j]?:=λ j c=>aaK (abu c);have y:∀o v,A[o]?=some v->w.cell? ⟨ρ i,o,none⟩=some v:=λ o v s=>by
  simp[World.cell?];grind
 refine⟨q,E,.inr ⟨ρ i,0,rfl,λ t v s=>T' (V v (aaJ s))⟩,?_⟩;have z:ct q w:=λ b o v s=>by
  by_cases e:b=ρ i
  .subst e;rw[Q]at s;exact seen.of (y o v s) (V v (aaJ s))
  .rw[l b e]at s;exact hg.snap _ _ _ s
 refine⟨hg.defers,hg.size,hg.fr,hg.below,Heap.le_trans hg.le E,λ b r o=>?_,z,λ j f o c=>?_,λ j k f f' o o' g K c C r=>?_,λ d Y=>?_,hg.sl,λ b x r=>?_⟩
 rotate_right
 .obtain⟨⟨Z,k2,k4⟩,k5⟩:=hg.opn b x r;refine⟨⟨Z,k2,λ t ht=>?_⟩,λ j f o c=>?_⟩
  .rw[show(Vc.aq _ i _).H b t=q b t from rfl,l b (λ e=>k5 i _ _ I (by simp[dy];grind)) t];grind
  .by_cases m:j=i
   .subst m;simp[Vc.aq]at c;rw[bD p]at c;obtain⟨_,rfl⟩:=c;simp[dy]
   .simp[Vc.aq]at c;grind
 .simp[Vc.aq];rw[l b (λ e=>r (e▸S)) o];exact hg.ef b r o
 .simp[Vc.aq]at c⊢;by_cases m:j=i
  .subst m;rw[bD p]at c;obtain⟨_,rfl⟩:=c;trivial
  .rw[n j m]at c;have J:=hg.obj _ _ _ c;have u:∀b,dy ρ σ j o=some b->b≠ρ i:=by
    intro b r e;subst e;exact hg.sep j i f _ o _ _ m c I r rfl
   cases o<;>simp[dj]at J⊢;case box t cs=>
    obtain⟨ys,D,F,G,q4⟩:=J;exact⟨ys,D,F,G,λ o=>by rw[l _ (u _ rfl)];grind⟩
   case arr t ys=>
    obtain⟨D,F,G,q4⟩:=J;exact⟨D,F,G,λ o=>by rw[l _ (u _ rfl)];grind⟩
   case row e' n' xs'=>
    obtain⟨D,F,G⟩:=J;exact⟨D,F,λ g N o=>by rw[l _ (u _ N)];grind⟩
   grind
 .simp[Vc.aq]at c C;have T:j=i->False:=by
   intro e;subst e;rw[bD p]at c;obtain⟨_,rfl⟩:=c;simp[dy]at r
  rw[n j T]at c;by_cases B:k=i
  .subst B;rw[bD p]at C;obtain⟨_,rfl⟩:=C;simp[dy]
  .rw[n k B]at C;exact hg.sep j k f _ o _ g K c C r
 .obtain⟨a1,U⟩:=mD (st:=st) Y p;have X:=hg.nr d U;refine⟨X.fr,λ j f o c=>?_⟩;simp[Vc.aq]at c;by_cases m:j=i
  .subst m;rw[bD p]at c;obtain⟨_,rfl⟩:=c;exact λ hh=>hh
  .rw[n j m]at c;exact X.obj j f o c
theorem pt {a:Act}{d:Nat}{v:Value}(h:a.tmps.getD d undef=v)(b:d<a.tmps.size):a.put (some d) v=a:=by
 have:a.tmps.setIfInBounds d v=a.tmps:=by
  apply adB;intro i;by_cases c:d=i
  .simp_all
  grind
 simp[Act.put,this]
theorem vY:∀{g:List Nat} {st:St} {K:St->Prop},Good P w0 H0 st a w ρ σ->BL K g st->∃b,K b/\au g st b/\Good P w0 H0 b a w ρ σ
 |[],st,K,hg,h=>⟨st,h,au.refl st,hg⟩
 | d::g,st,K,hg,h=>by
  simp only[BL,Vf]at h;split at h
  .rename_i i p;split at h
   .rename_i t E m;split at h
    .rename_i D l;split at h
     .rename_i y;obtain⟨B,n,C,x⟩:=hg.TJ m l y;have k:=hg.fr d _ p;have f:d<a.tmps.size:=by rw[hg.size];grind
      have e:=pt rfl f;have c:=Good.aK x (some d) (r:= .one (.lx _ 0)) (v:=a.tmps.getD d _) ⟨ρ i,0,rfl,by simpa[SV.rel,S1.rel]using k⟩ (λ F _ z=>z);rw[e]at c;obtain⟨b,s,A,q⟩:=vY c (h _ _ n C);refine⟨b,s,?_,q⟩;have u:au [d] st (Vc.aq {st with H:=B} i .dead):=by
       have:=au.uD (o:=bL.dead) m;exact⟨this.fl,this.ll,λ j _=>this.fr j (by simp),this.ro,n⟩
      exact((u.trans (au.aK _ (some d) _)).mono (by simp)).trans (A.mono (by grind))
     grind
    grind
   grind
  grind
theorem bM:∀{g:List Nat} {st:St} {K:St->Prop},Good P w0 H0 st a w ρ σ->gQ K g st->∃b,K b/\au [] st b/\Good P w0 H0 b a w ρ σ/\cF Dx st b ρ ρ w w
 |[],st,K,hg,h=>⟨st,h,au.refl st,hg,cF.refl _ _ _⟩
 | i::g,st,K,hg,h=>by
  simp[gQ,Tc]at h;split at h
  .rename_i e n x d;obtain⟨A,c,u,f,k,s,m⟩:=hg.Ff d;obtain⟨b,p,v,q,r⟩:=bM m (h A c _ f k s);refine⟨b,p,?_,q,cF.trans (cF.of (ch:=none) hg (λ j=>?_) (λ _ _=>rfl) (lC.refl w _) (by simp)) r⟩
   rotate_left
   .by_cases t:j=i
    .subst t;exact .inr (.inr ⟨_,_,_,_,aT d⟩)
    .simp[Vc.aq];grind
   have l:au [] st (Vc.aq {st with H:=u} i (.Ff A n c)):=by
    have:=au.uD (o:=bL.Ff A n c) d;exact⟨this.fl,this.ll,this.fr,this.ro,f⟩
   exact l.trans v
  .exact bM hg h
  grind
end
end
end Go.Vc
