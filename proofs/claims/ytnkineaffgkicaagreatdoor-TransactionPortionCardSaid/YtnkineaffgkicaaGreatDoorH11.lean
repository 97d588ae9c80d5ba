/- A part of the proof. -/
import Derived.Test.YtnkineaffgkicaaGreatDoorH10
import Derived.Shelf.SlLaysN
import Derived.Shelf.RegionOpenPlain
import Derived.Deep.RegionLaw
set_option maxHeartbeats 0
set_option maxRecDepth 100000
set_option linter.unusedVariables false
set_option linter.defProp false
namespace Go.Vc
open Go Go.Shelf Go.Proofs Go.RowKit
section
variable {a:Program}{b:Ren}{c:Nat}{d:Value}
structure RZ (P:Program)(ρ:Ren)(sz:Nat)(z:Value):Prop where
 mixed:P.follows .mixedOrders=true
 f45:Bears P (ρ.f 45) (SlBodyN.n45 ρ)
 t0:P.underlying (ρ.t 0)=some (TypeDesc.tuple #[])
 a0:∀w,(isAgg (ρ.t 0)).run P w= .ok false w
 z0:∀w,(Go.sizeOf (ρ.t 0)).run P w= .ok 1 w
 v0:∀w,(zeroValue (ρ.t 0)).run P w= .ok (Value.tuple #[]) w
 t3:P.underlying (ρ.t 3)=some (TypeDesc.int IntKind.i64)
 a3:∀w,(isAgg (ρ.t 3)).run P w= .ok false w
 z3:∀w,(Go.sizeOf (ρ.t 3)).run P w= .ok 1 w
 v3:∀w,(zeroValue (ρ.t 3)).run P w= .ok (Value.int IntKind.i64 0) w
 t4:P.underlying (ρ.t 4)=some (TypeDesc.bool)
 a4:∀w,(isAgg (ρ.t 4)).run P w= .ok false w
 z4:∀w,(Go.sizeOf (ρ.t 4)).run P w= .ok 1 w
 v4:∀w,(zeroValue (ρ.t 4)).run P w= .ok (Value.bool false) w
 t22:P.underlying (ρ.t 22)=some (TypeDesc.slice (ρ.t 23))
 a22:∀w,(isAgg (ρ.t 22)).run P w= .ok false w
 z22:∀w,(Go.sizeOf (ρ.t 22)).run P w= .ok 1 w
 v22:∀w,(zeroValue (ρ.t 22)).run P w= .ok (Value.slice none 0 0) w
 z23:∀w,(Go.sizeOf (ρ.t 23)).run P w= .ok sz w
 v23:∀w,(zeroValue (ρ.t 23)).run P w= .ok z w
 i23:∃i,P.info? (ρ.t 23)=some i/\i.size=sz
 zc:z.cells.size=sz
 zo:∀x∈z.cells.toList,x.oneCell'=true
 pos:0<sz
def wk (g:RZ a b c d)(s:Value)(i n h:Nat)(A:D')(o:i<=n)(p:n<=h)(w:World):
  Calls a (b.f 45) #[.slice A n h,Φi i,Φi i] w λ e k=>e= .returned (S A n h)/\k=w:=by
 have j:=g.t22;have l:=g.z23;obtain⟨_,_,m⟩:=g.f45;go_enter m,SlBodyN.n45_ntmps _;go_wp2;all_goals (go_ret;simp)
def Gk (k:RZ a b c d)(g n m i j:Nat)(p:Array Value)(e:TypeId)(w:World)(a7:i<j)(hj:j<=n)(hn:n<=m)(b9:m<=maxLen)
  (F:w.heap[g]?=some (.cells p e (0,0))) (a8:p.size=m*c) (h1:∀x∈p.toList.take (n*c),x.oneCell'=true):
  Calls a (b.f 45) #[.slice (some ⟨g,0,none⟩) n m,Φi i,Φi j] w λ e1 w'=>e1= .returned (S (some ⟨g,0,none⟩) (n-(j-i)) m)/\
   ∃o,eR w w' g e p o/\o.size=m*c/\o.toList.take ((n-(j-i))*c)=(p.toList.take (n*c)).take (i*c)++(p.toList.take (n*c)).drop (j*c):=by
 have b3:=k.mixed;have t0:=k.t0;have a0:=k.a0;have z0:=k.z0;have v0:=k.v0;have t3:=k.t3;have a3:=k.a3;have z3:=k.z3;have v3:=k.v3;have t4:=k.t4;have a4:=k.a4;have z4:=k.z4;have v4:=k.v4;have X:=k.t22;have c1:=k.a22;have b8:=k.z22;have c2:=k.v22;have c0:=k.z23;obtain⟨i0,a9,b4⟩:=k.i23;obtain⟨G,b0⟩:∃G,G=p.toList.take (n*c):=⟨_,rfl⟩;have b5:n*c<=m*c:=aaC _ hn;have b1:j*c<=n*c:=aaC _ hj;have a6:=Nat.mul_lt_mul_of_pos_right a7 k.pos;have H:G.length=n*c:=by grind
 obtain⟨l,r⟩:∃l,l=G.drop (j*c):=⟨_,rfl⟩;have q:l.length=(n-j)*c:=by rw[r];simp[H,adM]
 have v:∀t,t<l.length->l[t]?=p[j*c+t]?:=by
  grind
 obtain⟨A,hA,a1⟩:∃A:Addr,(if m=j then some (⟨g,0,none⟩)else some ⟨g,j*c,none⟩)=some A/\Hid (∀t u,l[t]?=some u->w.drew.cell? (A.add t)=some u):=by
  by_cases h:m=j
  .refine⟨⟨g,0,none⟩,T' λ t u Y=>?_⟩;grind
  .refine⟨⟨g,j*c,none⟩,T' λ t u Y=>?_⟩;have ht:=(aap.1 Y).1;rw[v t ht]at Y;rw[adl];show w.cell? _=_;simp[World.cell?,F,Y]
 have s1:Hid _:=q;have s2:Hid (∀u∈l,u.oneCell'=true):=by
  intro u Y;grind
 have s3:Hid (∀t,t<l.length->(w.drew.cell? ⟨g,0+i*c+t,none⟩).isSome=true/\w.drew.frozen? ⟨g,0+i*c+t,none⟩=false):=by
  intro t ht;rw[q,adM]at ht;refine⟨?_,?_⟩
  .show(w.cell? _).isSome=true;simp[World.cell?,F,show i*c+t<p.size by omega]
  .show w.frozen? _=false;simp[World.frozen?,F]
 obtain⟨W1,E⟩:∃W1,W1=w.drew.setCells g (0+i*c) l:=⟨_,rfl⟩;obtain⟨Q,s,a2⟩:=bQ l (0+i*c) _ _ (eR.drew F).here (by grind);rw[<-E]at s;have K:Q.size=m*c:=by
  have:=aak List.length a2;grind
 have Z:(i+(n-j))*c=i*c+(n*c-j*c):=by grind
 have b2:(n-(i+(n-j)))*c=n*c-(i*c+(n*c-j*c)):=by grind
 have b6:∀ty,(Builtin.clear_ #[b.t 22] ty #[.slice (some ⟨g,(i+(n-j))*c,none⟩) (n-(i+(n-j))) (m-(i+(n-j)))]).run a W1= .ok (.tuple #[]) (W1.setCells g ((i+(n-j))*c) (Builtin.zeroCells d.cells (n-(i+(n-j)))).toList):=
  λ ty=>BQ X k.v23 k.zo s.here (by omega) (by rw[k.zc];omega)
 have a5:(Builtin.zeroCells d.cells (n-(i+(n-j)))).toList.length=(n-(i+(n-j)))*c:=by simp[Builtin.zeroCells,k.zc]
 obtain⟨T,R,D⟩:=bQ (Builtin.zeroCells d.cells (n-(i+(n-j)))).toList ((i+(n-j))*c) _ _ s.here (by grind);have y:Aside (∃o,eR w (W1.setCells g ((i+(n-j))*c) (Builtin.zeroCells d.cells (n-(i+(n-j)))).toList) g e p o/\o.size=m*c/\
   o.toList.take ((n-(j-i))*c)=G.take (i*c)++G.drop (j*c)):=by
  refine⟨T,((eR.drew F).trans s).trans R,?_,?_⟩
  .have:=aak List.length D;grind
  .rw[D,show(n-(j-i))*c=i*c+(n*c-j*c)by grind,Z];grind
 have hW:Hid _:=E;have b7:i<=m:=by omega
 have B:Aside (n-(j-i)=i+(n-j)):=by show n-(j-i)=i+(n-j);omega
 clear E s R D a2 v r q Z b2 b5 b1 a6 H K a5 a8 F;rw[<-b0];generalize d.cells=zc at b6 y;obtain⟨_,_,FG⟩:=k.f45;go_enter FG,SlBodyN.n45_ntmps _;go_wp2_with fail;go_region_law_o (refine step_append_room rfl _ _ _ rfl _ _ _ X a9 b4 g 0 i m (by simp[Act.eval,Act.put]) A _ (m-j) _ (by simp[Act.eval,Act.put]) s1.out a1.out s2.out (by omega) s3.out ?_;rw[<-hW.out]);go_wp2;all_goals (go_ret;exact⟨by rw[B.out];rfl,y.out⟩)
def bV.same {w:World}{H:Heap}{g:Option Nat}(a:ct H w):bV w w H H g:=
 ⟨⟨rfl,rfl,rfl,aaB _,λ _ _ _=>rfl,aaB _⟩,Heap.le_refl _,λ _ _ _ _=>rfl,a⟩
def fN.mI {f:FuncId}{B:Func}(h:Bears a f B)(d:B.body.isSome=true):fN a f:=by
 obtain⟨e,c,b⟩:=h;exact⟨_,b,d,c⟩
def Jf (l:RZ a b c d)(a2:a.cellsOf (b.t 23)=c){n i j r:Nat}{x:G'}{H:Heap}(T:i<=j)(hj:j<=n):
  dJ a (b.f 45) [.slice none 0 0,Φi i,Φi j] 0 (b.t 23) n x false H ⟨false,[(false,[.row r (b.t 23)])]⟩ (λ _ m zs _=>m=n-(j-i)/\zs=x.take (i*c)++x.drop (j*c)):=by
 refine⟨fN.mI l.f45 rfl,λ w B s hs hB hr=>?_⟩;obtain⟨⟨R,u⟩,K,q⟩:=hr;simp only at R u K q;rw[a2]at R u;have G:∀(A:World) (v:Value),bV w A H H s.ownBlock->fH a A B H ⟨v,b.t 23,n-(j-i),x.take (i*c)++x.drop (j*c)⟩->(∀g,v.ownBlock=some g->s.ownBlock=some g)->
   ∃v' H' nr ys,Ending.returned v= .returned v'/\Fits ⟨false,[(false,[.row r (b.t 23)])]⟩ ((λ _ m zs _=>m=n-(j-i)/\zs=x.take (i*c)++x.drop (j*c)) ys) v' H' nr/\
    bV w A H H' s.ownBlock/\(false=true->fH a A B H' ⟨s,b.t 23,n,ys⟩)/\
    (∀r∈nr,fH a A B H' r/\∀g,r.s.ownBlock=some g->w.heap.size<=g\/(false=false/\s.ownBlock=some g))/\bg nr:=by
  intro A v hg hv hb;refine⟨v,H,[⟨v,b.t 23,n-(j-i),x.take (i*c)++x.drop (j*c)⟩],[],rfl,?_,hg,by simp,?_,?_⟩
  .exact⟨_,_,rfl,rfl,v,rfl,rfl,rfl,rfl,rfl⟩
  .grind
  .exact abz _ _
 have y:i=j->x.take (i*c)++x.drop (j*c)=x/\n-(j-i)=n:=by
  simp_all
 rcases u with⟨rfl,rfl⟩ |⟨g,Y,a3,rfl,Q,hb,D,F,a6,a5⟩
 .obtain rfl:j=0:=by omega
  obtain rfl:i=0:=by omega
  refine(wk l (.slice none 0 0) 0 0 0 _ (by simp) (by simp) w).mono ?_;rintro e A ⟨rfl,rfl⟩;refine G _ _ (bV.same hs) ?_ (λ g h=>h);obtain⟨h1,h2⟩:=y rfl;rw[h1];exact⟨(T' (.inl ⟨rfl,rfl⟩)),K,q⟩
 .rcases Nat.eq_or_lt_of_le T with X | a0
  .obtain⟨h1,h2⟩:=y X;subst X;refine(wk l (.slice none 0 0) i n _ _ hj D w).mono ?_;rintro e A ⟨rfl,rfl⟩;refine G _ _ (bV.same hs) ?_ (λ g h=>h);rw[h1,h2];exact⟨(T' (.inr ⟨g,Y,a3,rfl,Q,hb,D,F,T' (by grind)⟩)),K,q⟩
  .refine(Gk l g n _ i j _ _ w a0 hj D F hb a6 (by grind)).mono ?_;rintro e A ⟨rfl,Z,E,a8,a7⟩;refine G _ _ ⟨⟨E.os,E.tape,E.output,by rw[E.size];simp,λ k hk a1=>E.block k (λ h=>a1 (by rw[h];rfl)),E.drawn⟩,Heap.le_refl _,λ _ _ _ _=>rfl,?_⟩ ?_ (λ g h=>h)
   .intro p o v hv;have a4:p≠g:=by
     rintro rfl;rw[q p rfl o]at hv;grind
    exact(hs p o v hv).keep (E.block p a4)
   .have b0:j*c<=n*c:=aaC _ hj;have b1:i*c<=j*c:=aaC _ T;have a9:(n-(j-i))*c=n*c-(j*c-i*c):=by grind
    refine⟨⟨?_,.inr ⟨g,Y,Z,rfl,Q,E.here,aax (Nat.sub_le _ _) D,F,T' (by grind)⟩⟩,?_,q⟩
    .grind
    grind
def ab3 {f:FuncId}{B:Func}(h:a.funcs[f]?=some {B with name:=(a.funcs[f]?.map (·.name)).getD ""})(b:((a.funcs[f]?.map (·.name)).getD ""== "runtime.NumGoroutine")=false):Bears a f B:=⟨_,b,h⟩
end
end Go.Vc
