/- A part of the proof. -/
import Derived.Test.YtnkineaffgkicaaGreatDoorH10
import Derived.ChangeArms
import Derived.ChangeSame
import Derived.ChangeReads
import Derived.ChangeCalls
import Derived.OpenShut
import Derived.SizedLaws
import Derived.Below
import Derived.DataReads
set_option maxHeartbeats 0
set_option maxRecDepth 100000
set_option linter.unusedVariables false
set_option linter.defProp false
namespace Go.Vc
open Go Go.RowKit Go.WideShapes Go.ChangeShapes
section
variable {a c:TypeId}{b:Value}
def Wk:Value:= .tuple #[]
def mw (w:World):Heap:=λ b o=>match w.cell? ⟨b,o,none⟩with
 | some v=>if yl v=true then none else some v
 | none=>match w.heap[b]? with
  | some (.cells cs _ _)=>if cs.size=o then some Wk else none
  | _=>none
def xe {w:World}{a o:Nat}(h:w.cell? ⟨a,o,none⟩=some b)(c:b.oneCell'=true):mw w a o=some b:=by
 simp[mw,h,qL c]
def Im (w:World):ct (mw w) w:=by
 intro b o v a;unfold mw at a;cases e:w.cell? ⟨b,o,none⟩with
 | some z=>
  by_cases g:yl z=true
  .grind
  .unfold seen;grind
 | none=>
  rw[e]at a;simp at a;split at a
  .rename_i cs t d f;split at a
   .rename_i c;cases a;exact⟨cs,t,d,f,c⟩
   grind
  grind
section
variable {P:Program}{H:Type}{enc:TypeId×Value->H}{w:World}{base fuel:Nat}{cs:G'}{x:DataW H×List MemPlace}
def BG (P:Program)(t:TypeId):Prop:=∀{H:Type} {enc:TypeId×Value->H} {w:World} {base fuel:Nat} {cs:G'} {x:DataW H×List MemPlace} {a:Nat->Bool},
 DataW.trod enc P w base (λ _=>true) true fuel t cs=some x->(∀p∈x.2,a p.block=true)->DataW.trod enc P w base a true fuel t cs=some x
structure Tq (P:Program)(t:TypeId)(T:Type)[Rep T]:Prop where
 cells:P.cellsOf t=Rep.sz T
 bytes:P.bytesOf t=Rep.byt T
 sp:BG P t
 get:∀{H:Type} {enc:TypeId×Value->H} {w:World} {base fuel:Nat} {cs:G'} {x:DataW H×List MemPlace},
  DataW.trod enc P w base (λ _=>true) true fuel t cs=some x->(x.1.weights P t).all (·<=reachBytes)=true->∃y:T,Rep.rel (mw w) cs y
def UF {k:IntKind}{n:Int}(h:(Lit.int k n).wf=true):ae k n:=by
 cases k<;>simp[Lit.wf,IntKind.min,IntKind.max,IntKind.bits,IntKind.signed]at h<;>simp[ae]<;>omega
def Rm {k:IntKind}(b:P.underlying a=some (.int k)):BG P a:=by
 intro H enc w base fuel cs x d h _;obtain⟨n,rfl,rfl,c⟩:=DataW.trod_int b h;cases fuel with
 | zero=>simp[DataW.trod]at h
 | succ m=>exact trod_int_mk m b c
def UR {c:Array Field}(m:P.underlying a=some (.struct c))(d:∀f∈c.toList,BG P f.type):BG P a:=by
 intro H enc w base fuel cs x q h e;cases fuel with
 | zero=>simp[DataW.trod]at h
 | succ n=>
  rw[DataW.trod_step]at h⊢;unfold DataW.trodStep at h⊢;rw[m]at h⊢;dsimp only at h⊢;split at h
  .rename_i g;rw[if_pos g];simp at h⊢;obtain⟨l,k,i⟩:=h;refine⟨l,mapM_carry k λ f y b r j=>d f b j λ p o=>e p ?_,i⟩;grind
  grind
def Io {k:Nat}(q:P.underlying a=some (.array k c))(g:BG P c):BG P a:=by
 intro H enc w base fuel cs x s h d;cases fuel with
 | zero=>simp[DataW.trod]at h
 | succ n=>
  rw[DataW.trod_step]at h⊢;unfold DataW.trodStep at h⊢;rw[q]at h⊢;dsimp only at h⊢;split at h
  .rename_i i;rw[if_pos i];simp at h⊢;obtain⟨o,m,j⟩:=h;refine⟨o,mapM_carry m λ f y b u l=>g l λ p r=>d p ?_,j⟩;grind
  grind
def Rn (s:P.underlying a=some (.slice c))(M:BG P c)(N:0<P.cellsOf c):BG P a:=by
 intro H enc w base fuel cs x D h A;cases fuel with
 | zero=>simp[DataW.trod]at h
 | succ n=>
  rcases DataW.trod_slice s h with⟨rfl,rfl⟩ |⟨b,J,I,_,_,m,L,rfl,_⟩
  .simp[DataW.trod,s]
  .clear L;rw[DataW.trod_step]at h⊢;unfold DataW.trodStep at h⊢;rw[s]at h⊢;dsimp only at h⊢;split at h
   .rename_i j;rw[if_pos j];simp only[aeC,adb,Option.map_eq_some_iff]at h⊢;obtain⟨f,G,g,E,C⟩:=h;have o:∀y,y∈f++g->∀p∈y.2,D p.block=true:=λ y q p F=>A p (by
     grind)
    have k:∀i y,y∈f++g->((w.cells? base _ _).bind _)=some y->
      ((w.cells? _ (b.add (i*P.cellsOf c)) (P.cellsOf c)).bind (DataW.trod enc P w base _ _ n c))=some y:=λ i y q B=>by
     rw[adb]at B⊢;obtain⟨d,z,u⟩:=B;exact⟨d,z,M u (o y q)⟩
    refine⟨f,mapM_carry G λ i y K q l=>k i y (by grind) l,g,?_,C⟩;split
    .exact mapM_carry E λ i y K q l=>k _ y (by grind) l
    .rename_i v;cases l:g with
     | nil=>rfl
     | cons y r=>
      exfalso;refine v (A (.cell _ (b.off+0)) ?_);rw[<-C];refine aeb _ (MemPlace.mem_row.2 ⟨0,?_,rfl⟩);rw[l];simp;grind
   grind
theorem Oi {a:Addr}{v:Value}(h:w.cell? a=some v):a.spot=none:=by
 cases b:a.spot with
 | none=>rfl
 | some s=>
  simp[World.cell?]at h;grind
def qH {e:TypeId}:∀{l:List (DataW H)} {d:DataW H},(DataW.weightsAll P e l).all (·<=reachBytes)=true->d∈l->(d.weights P e).all (·<=reachBytes)=true
 | y::r,d,h,a=>by
  rw[DataW.weightsAll,adz,aah]at h;rcases aaw.1 a with rfl | a
  .grind
  .exact qH h.2 a
def Oj {t:TypeId}{T:Type}[Rep T](J:P.underlying t=some (.slice c))(hc:P.cellsOf t=1)(hb:P.bytesOf t=24)(A:Tq P c T):Tq P t (List T):=by
 refine⟨hc,hb,Rn J A.sp (by rw[A.cells];exact Rep.pos),λ {H enc w base fuel cs x} h L=>?_⟩;rcases DataW.trod_slice J h with⟨rfl,rfl⟩ |⟨a,f,K,g,q,n,rfl,rfl,rfl,a1,N,W,X,B,Q,_⟩
 .exact⟨[],none,0,0,rfl,Sl.nil⟩
 .have F:(g.length+q.length)*Rep.byt T<=reachBytes/\(DataW.weightsAll P c (g.map (·.1))).all (·<=reachBytes)=true:=by
   rw[DataW.weights,J]at L;rw[abr,aah]at L;have:=L.1;rw[A.bytes]at this;grind
  have z:0<f->a.spot=none:=by
   intro I;have C:=B 0 I;rw[aai (by omega),adb]at C;obtain⟨d,u,E⟩:=C;obtain⟨R,S,r⟩:=World.cells?_some u;have D:0<P.cellsOf c:=by rw[A.cells];exact Rep.pos
   have I:=r 0 D;have j:d[0]?=some (d[0]'(by omega)):=aai _;rw[j,Nat.zero_mul]at I;exact Oi (a:=a) I
  have G:∀i:Fin f,∃y:T,∃V,Cells (mw w) (some a) (i.val*Rep.sz T) V/\Rep.rel (mw w) V y:=by
   intro i;have O:=z (by have:=i.isLt;omega);have C:=B _ i.isLt;rw[aai (by omega),adb]at C;obtain⟨d,u,E⟩:=C;obtain⟨y,Y⟩:=A.get E (qH F.2 (aaO.2 ⟨_,aan _,rfl⟩));refine⟨y,d,.inr ?_,Y⟩;obtain⟨R,S,r⟩:=World.cells?_some u;obtain⟨b,o,s⟩:=a;subst O;refine⟨b,o,rfl,λ k v U=>?_⟩;obtain⟨a0,Z⟩:=aap.1 U;have:=r k (by omega);have p:=Rep.one Y v (aaJ U);refine⟨xe ?_ p,p⟩;rw[A.cells]at this;have eb:∀m n,(⟨b,m,none⟩:Addr).add n=⟨b,m+n,none⟩:=λ m n=>by unfold Addr.add;simp
   grind
  let l:=List.ofFn λ i=>(G i).choose;have hl:l.length=f:=by grind
  have M:f*Rep.byt T<=140737488355328:=by
   have:f*Rep.byt T<=(g.length+q.length)*Rep.byt T:=aaC _ (by omega);have:=F.1;unfold reachBytes at this;omega
  refine⟨l,some a,f,K,rfl,hl,N,M,?_,λ i hi=>?_⟩
  .have:f*1<=f*Rep.byt T:=acx _ (Rep.bpos (T:=T));omega
  grind
def jW:∀{a:List TypeId} {b:List (DataW H)} {i:Nat} {t:TypeId} {d:DataW H},(DataW.weightsEach P a b).all (·<=reachBytes)=true->a[i]?=some t->b[i]?=some d->(d.weights P t).all (·<=reachBytes)=true
 | t::a,d::b,0,t',d',h,h1,h2=>by
  rw[DataW.weightsEach]at h;grind
 | t::a,d::b,i+1,t',d',h,h1,h2=>by
  rw[DataW.weightsEach,adz,aah]at h;exact jW (i:=i) h.2 (by grind) (by grind)
def AN {i:World}{g:Nat->Bool}:∀{b:List TypeId} {c:G'} {e:List (DataW H)} {a:List MemPlace},(∀t∈b,BG P t)->DataW.TrodAll enc P w base (λ _=>true) true b c e a->
  (∀p∈a,w.sameAt i p)->(∀p∈a,g p.block=true)->DataW.TrodAll enc P i base g true b c e a
 |[],[],[],_,_,h,_,_=>h
 | t::b,v::c,d::e,a,hall,⟨p,q,⟨n,h1⟩,h2,h3⟩,hs,hsp=>
  ⟨p,q,⟨n,hall t (by simp) (DataW.trod_carry n _ _ _ h1 λ z f=>hs z (by grind)) λ z f=>hsp z (by grind)⟩,
   AN (λ t j=>hall t (by grind)) h2 (λ z f=>hs z (by grind)) (λ z f=>hsp z (by grind)),h3⟩
def LR {T:Type}[Rep T](e:Tq P a T){d:DataW H}{p:List MemPlace}(h:DataW.Trod enc P w base (λ _=>true) true a b d p)(c:(d.weights P a).all (·<=reachBytes)=true):
  ∃y:T,Rep.rel (mw w) b.cells.toList y:=by
 obtain⟨n,f⟩:=h;exact e.get f c
def Ro {f:FuncId}{c:G'}{j:Heap}(h:af P f c j fg (λ b _=>b=true))(l:ct j w):Calls P f c.toArray w λ e g=>e= .returned (.bool true)/\Below w.heap.size w g:=by
 refine(h.2 w l).mono λ e g ⟨v,p,n,k,a,m,_⟩=>?_;simp[Fits,Iy,xJ]at a;obtain⟨b,o,d,_,i,rfl⟩:=a;simp at d i;subst d;rw[k,i];exact⟨rfl,m.below⟩
def BH {f:Func}{s:ChangeSpec}{n d l:Bool}{W o:World}{e:Array Value}{u q:List (DataW H)}{c pa pv:List MemPlace}
  (z:DataW.Whole enc P f.params.toList s.vars false W e.toList u q c)
  (k:∀(a:Nat) (m:Nat->Bool) (D:Bool),DataW.TrodAll enc P o a m D f.resultTypes.toList (b.resultList f.resultTypes.size) (s.fn H (u++q)).results [])
  (g:∀m:Nat->Bool,(∀p∈c,m p.block=true)->DataW.TrodAll enc P o 0 m true f.params.toList e.toList (s.fn H (u++q)).args pa)
  (h:∀m:Nat->Bool,(∀p∈c,m p.block=true)->DataW.TrodVars enc P o m s.vars (s.fn H (u++q)).vars pv)
  (F:c=pa++pv) (C:Below W.heap.size W o)
  (B:∀(j:Nat) (t:TypeId) (r:Value),f.resultTypes[j]?=some t->(b.resultList f.resultTypes.size)[j]?=some r->Value.okWide P o .any 0 t r):
  s.post enc P f false n d l W e b o:=by
 have y:=λ p w=>z.lt p w;have i:∀p∈c,(λ a=>decide (a<W.heap.size)) p.block=true:=λ p w=>by grind
 refine⟨u,q,c,[],pa,pv,z,k _ _ _,g _ i,h _ i,World.keptBut_mono (λ p w=>⟨w,?_⟩) (C.frame _),λ _=>?_⟩
 .grind
 .obtain⟨_,_,_,_,_,E,G⟩:=z;refine⟨B,_,_,([]++pa)++pv,⟨[]++pa,pv,trodAll_append (g _ (λ _ _=>rfl)) (k _ _ _),h _ (λ _ _=>rfl),rfl,?_,?_⟩,?_⟩
  .intro a A w;have x:MemPlace.cell a A∈c:=by grind
   rw[C.frozen (y _ x)];exact E a _ x
  .simp
  grind
end
end
end Go.Vc
