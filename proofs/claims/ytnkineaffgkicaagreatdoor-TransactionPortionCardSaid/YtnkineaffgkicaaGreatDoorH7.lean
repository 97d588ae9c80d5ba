/- A part of the proof. -/
import Derived.Test.YtnkineaffgkicaaGreatDoorH0
import Derived.OrdersHeld
set_option maxHeartbeats 0
set_option maxRecDepth 100000
set_option linter.unusedVariables false
set_option linter.defProp false
namespace Go.Vc
open Go
section
section
variable {P:Program}{ops:Array Oper}{Q:Exit->Act->World->Prop}{md:Region.Mode}{S:World->Prop}{F:Nat->Bool}
def fY (P:Program)(md:Region.Mode)(ops:Array Oper)(Q:Exit->Act->World->Prop)(S:World->Prop)(F:Nat->Bool):Nat->Array Bool->Act->World->Prop
 | 0,listed,a,w=>Region.ready md ops listed=[]/\Q .normal a w
 | fuel+1,listed,a,w=>
  (Region.ready md ops listed=[]->Q .normal a w)/\
  ∀i∈Region.ready md ops listed,wpOp P ops Q i (λ c b=>(F i=false->S b)/\fY P md ops Q S F fuel (listed.setIfInBounds i true) c b) a w
def yR:∀(b:Nat) (c:Array Bool) (a:Act) (w:World),fY P md ops Q S F b c a w->wpAny P md ops Q b c a w
 | 0,_,_,_,h=>h
 | b+1,_,_,_,h=>⟨h.1,λ i e=>wpOp_mono (λ _ _ d=>yR b _ _ _ d.2) (h.2 i e)⟩
def pH {d:World->Prop}(f:∀w,d w->S w):∀(b:Nat) (c:Array Bool) (a:Act) (w:World),fY P md ops Q d F b c a w->fY P md ops Q S F b c a w
 | 0,_,_,_,h=>h
 | b+1,_,_,_,h=>⟨h.1,λ i j=>wpOp_mono (λ _ _ e=>⟨λ g=>f _ (e.1 g),pH f b _ _ _ e.2⟩) (h.2 i j)⟩
def Ga {b:Array Bool}{a:Act}{w:World}(d:Region.ready md ops b=[])(h:Q .normal a w):∀c,fY P md ops Q S F c b a w
 | 0=>⟨d,h⟩
 | _+1=>⟨λ _=>h,by grind⟩
def gW (md:Region.Mode)(ops:Array Oper)(a:Array Bool):Prop:=∀j b,ops[j]?=some b->a.getD j true=true->∀e∈b.after,Region.binds md e=true->a.getD e.on false=true
def gW.set {a:Array Bool}{j:Nat}(h:gW md ops a)(m:j∈Region.ready md ops a):gW md ops (a.setIfInBounds j true):=by
 intro k n f g e i l;by_cases d:j=k
 .subst d;obtain⟨_,o,b,c⟩:=mem_ready.1 m;rw[f]at b;cases b;exact getD_set_true (c e i l)
 .rw[getD_set_ne _ d]at g;exact getD_set_true (h k _ f g e i l)
def gW.empty (n:Nat)(e:ops.size<=n):gW md ops (Array.replicate n false):=by
 intro j d b c;have a:=(aaA.1 b).1;simp[show j<n by omega]at c
def DG {i:Nat}{q:Oper}{v:Value}(J:ops[i]?=some q)(n:∀(j:Nat) (o:Oper) E b,ops[j]?=some o->o.op≠ .select E b)
  (N:∀c a w,Q (.panic c) (a.put q.dst v) w->Q (.panic c) a w) (U:∀(d:Array Bool) j,gW md ops d->F j=true->j∈Region.ready md ops d->d.getD i true=false->j=i):
  ∀(g:Nat) (d:Array Bool) (a:Act) (w:World),gW md ops d->
   (∀j z,ops[j]?=some z->j≠i->d.getD j true=false->(∀e∈z.after,Region.binds md e=true->e.on≠i)->q.apart ops z=true)->
   i∈Region.ready md ops d->YieldsIf P ops S q v a->S w->
   fY P md ops Q S F g (d.setIfInBounds i true) (a.put q.dst v) w->fY P md ops Q S F (g+1) d a w:=by
 intro g;induction g with
 | zero=>
  intro d a w _ _ B A x H;refine⟨λ h=>(by grind),λ j r=>?_⟩;by_cases f:j=i
  .subst f;exact A.wpOp J x ⟨λ _=>x,H⟩
  .have:=ready_mono r f;rw[H.1]at this;grind
 | succ g X=>
  intro d a w y l B A x H;refine⟨λ h=>(by grind),λ j r=>?_⟩;by_cases f:j=i
  .subst f;exact A.wpOp J x ⟨λ _=>x,H⟩
  .have T:=H.2 j (ready_mono r f);obtain⟨s,z,p,K⟩:=mem_ready.1 r;have t:∀e∈z.after,Region.binds md e=true->e.on≠i:=λ e he hb M=>by
    have Z:=(mem_ready.1 B).1;grind
   have u:F j=false:=by
    cases V:F j with
    | false=>rfl
    | true=>exact absurd (U _ j y V r (mem_ready.1 B).1) f
   have L:=wpOp_putIf p (l j _ p f s t) (λ E b=>n i _ _ b J) (λ E b=>n j _ _ b p) N A T;have m:∀k G,ops[k]?=some _->k≠i->(d.setIfInBounds j true).getD k true=false->
     (∀e∈G.after,Region.binds _ e=true->e.on≠i)->q.apart _ G=true:=λ k G R D W C=>by
    refine l k _ R D ?_ C;by_cases O:j=k
    .grind
    simp_all
   refine wpOp_mono (λ a' Y I=>⟨λ _=>I.2.1 u,X _ _ _ (y.set r) m (ready_mono B (abu f)) I.1 (I.2.1 u) ?_⟩) L;rw[Array.setIfInBounds_comm _ _ f];grind
def wg {e:World->Prop}:∀(c:Nat) (b:Array Bool) (a:Act) (w:World),(∀i,i<ops.size->b.getD i true=false->F i=true)->
  fY P md ops Q e F c b a w->fY P md ops Q S F c b a w
 | 0,_,_,_,_,h=>h
 | c+1,b,_,_,hall,h=>⟨h.1,λ i d=>wpOp_mono (λ _ _ g=>by
   obtain⟨p,o,n,_⟩:=mem_ready.1 d
   refine⟨λ m=>by grind,wg _ _ _ _ (λ k f j=>hall k f ?_) g.2⟩
   by_cases l:i=k
   .grind
   simp_all) (h.2 i d)⟩
def Gb {id:Nat}{a:Act}{w:World}(b:P.follows .mixedOrders=true)
  (h:fY P .any ops Q S F ops.size (Array.replicate ops.size false) a {w with drawn:=w.drawn+1}):(Code.region id ops true).wp P Q a w:=
 wp_region_any b (yR _ _ _ _ h)
end
end
end Go.Vc
