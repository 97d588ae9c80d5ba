/- A part of the proof of TransactionCommits. -/
import Derived.Test.YtnnbddmfhconiaaGreatDoorG11
import Derived.Shelf.Spec.SlicesInsertGrow
set_option maxHeartbeats 16000000
set_option maxRecDepth 100000
set_option linter.unusedVariables false
set_option linter.defProp false
set_option linter.unusedSectionVars false
set_option linter.unusedSimpArgs false
namespace Go.Vc
open Go Go.Shelf Go.Proofs Go.RowKit
section
structure Qo (P:Program)(ρ:Ren)(sz byt:Nat)(z:Value):Prop where
 mixed:P.follows .mixedOrders=true
 f22:Bears P (ρ.f 22) (Body2.n22 ρ)
 ov:∀args w v w',(Extern.SlicesOverlaps.overlaps #[ρ.t 24,ρ.t 24] #[ρ.t 4] args).run P w= .ok v w'->(callFunc (ρ.f 29) args).run P w= .ok (.value v) w'
 t0:P.underlying (ρ.t 0)=some (TypeDesc.tuple #[])
 a0:∀w,(isAgg (ρ.t 0)).run P w= .ok false w
 z0:∀w,(Go.sizeOf (ρ.t 0)).run P w= .ok 1 w
 v0:∀w,(zeroValue (ρ.t 0)).run P w= .ok (Value.tuple #[]) w
 t3:P.underlying (ρ.t 3)=some (TypeDesc.int IntKind.i64)
 a3:∀w,(isAgg (ρ.t 3)).run P w= .ok false w
 z3:∀w,(Go.sizeOf (ρ.t 3)).run P w= .ok 1 w
 v3:∀w,(zeroValue (ρ.t 3)).run P w= .ok (Value.int IntKind.i64 0) w
 t4:P.underlying (ρ.t 4)=some (TypeDesc.bool)
 a4:∀w,(isAgg (ρ.t 4)).run P w= .ok false w
 z4:∀w,(Go.sizeOf (ρ.t 4)).run P w= .ok 1 w
 v4:∀w,(zeroValue (ρ.t 4)).run P w= .ok (Value.bool false) w
 t24:P.underlying (ρ.t 24)=some (TypeDesc.slice (ρ.t 9))
 a24:∀w,(isAgg (ρ.t 24)).run P w= .ok false w
 z24:∀w,(Go.sizeOf (ρ.t 24)).run P w= .ok 1 w
 v24:∀w,(zeroValue (ρ.t 24)).run P w= .ok (Value.slice none 0 0) w
 z9:∀w,(Go.sizeOf (ρ.t 9)).run P w= .ok sz w
 v9:∀w,(zeroValue (ρ.t 9)).run P w= .ok z w
 i9:∃i,P.info? (ρ.t 9)=some i/\i.size=sz/\i.bytes=byt/\i.zero=some z
 zc:z.cells.size=sz
 zo:∀x∈z.cells.toList,x.oneCell'=true
 pos:0<sz
 bpos:0<byt
section
variable {P:Program}{ρ:Ren}{sz byt:Nat}{z:Value}
def vL (w:World)(d y e:TypeId)(v:P.underlying d=some (.slice e))(c:Nat)(B:∀w,(Go.sizeOf e).run P w= .ok c w)
  (a b:Addr) (i A j C:Nat) (g:a.block≠b.block) (E G:TypeId) (l m:Nat)
  (p:w.shape? a.block=some (E,l)) (D:l≠0) (r:w.shape? b.block=some (G,m)) (F:m≠0)
  (o:w.frozen? b=false) (s:w.frozen? {block:=b.block,off:=m}=false):
  (Extern.SlicesOverlaps.overlaps #[d,d] #[y] #[.slice (some a) i A,.slice (some b) j C]).run P w= .ok (.bool false) w:=by
 have u:(a.block !=b.block)=true:=by simpa using g
 have k:(a.block==b.block)=false:=by simpa using g
 obtain⟨z,q,e⟩:∃z q,Extern.SlicesOverlaps.overlaps #[d,d] #[y] #[.slice (some a) i A,.slice (some b) j C]=(do
  let some t:=(#[d,d]:Array TypeId)[0]? | stuck ""
  let .slice h<-underlying t | stuck z
  let c<-sizeOf h;match(some a:D'),(some b:D')with
  | some a,some b=>
   if i=0\/j=0\/c=0 then pure (Value.bool false)
   else if a.block !=b.block&&(<-frozen a)&&(<-frozen b)then unsupported .addressObserved
   else do
    if a.block !=b.block then do
     noView a;noView b
     if<-mayBeOne a b then return Value.bool ((<-choose q)==1)
    pure (Value.bool (a.block==b.block&&a.off<b.off+j*c&&b.off<a.off+i*c))
  | _,_=>pure (Value.bool false):Sem Value):=⟨_,_,rfl⟩
 rw[e];by_cases x:i=0\/j=0\/c=0
 .simp[abv v,B,x]
 .cases m with
  | zero=>grind
  | succ m=>
   cases l with
   | zero=>grind
   | succ l=>
    cases n:w.frozen? a<;>cases f:w.frozen? {block:=a.block,off:=l+1}<;>
     simp[abv v,B,x,u,k,frozen,noView,viewAt,mayBeOne,stringish,shape,Sem.run,p,r,n,f,o,s]
def Ny (b:Qo P ρ sz byt z)(g n d i F m vc kA:Nat)(tA:TypeId)(c:Array Value)(e:TypeId)(r:G')(w:World)(hi:i<n)(hn:n<d)(a1:d<=maxLen)
  (A:w.heap[g]?=some (.cells c e (0,0))) (X:c.size=d*sz) (h1:∀x∈c.toList.take (n*sz),x.oneCell'=true)
  (d9:r.length=sz) (a9:F≠g) (c7:∀j v,r[j]?=some v->w.cell? ⟨F,m+j,none⟩=some v) (b8:∀v∈r,v.oneCell'=true) (b4:w.shape? F=some (tA,kA)) (b7:kA≠0):
  Calls P (ρ.f 22) #[.slice (some ⟨g,0,none⟩) n d,Φi i,.slice (some ⟨F,m,none⟩) 1 vc] w λ e1 w'=>e1= .returned (.slice (some ⟨g,0,none⟩) (n+1) d)/\
   ∃k,eR w w' g e c k/\k.size=d*sz/\k.toList.take ((n+1)*sz)=(c.toList.take (n*sz)).take (i*sz)++r++(c.toList.take (n*sz)).drop (i*sz):=by
 have b9:=b.mixed;have t0:=b.t0;have a0:=b.a0;have z0:=b.z0;have v0:=b.v0;have t3:=b.t3;have a3:=b.a3;have z3:=b.z3;have v3:=b.v3;have t4:=b.t4;have a4:=b.a4;have z4:=b.z4;have v4:=b.v4;have c5:=b.t24;have d6:=b.a24;have c9:=b.z24;have c4:=b.v24;have z9:=b.z9;have v9:=b.v9;have u0:=abv b.t0;have u3:=abv b.t3;have u4:=abv b.t4;have d3:=abv b.t24;obtain⟨i0,b6,c0,d0,d8⟩:=b.i9;have H:(P.info? (ρ.t 9)).map (·.size)=some sz:=by rw[b6];simp[c0]
 obtain⟨l,q⟩:∃l,l=c.toList.take (n*sz):=⟨_,rfl⟩;have c1:(n+1)*sz<=d*sz:=aaC _ hn;have b0:(i+1)*sz<=n*sz:=aaC _ hi;have e1:(i+1)*sz=i*sz+sz:=abf _ _;have e2:(n+1)*sz=n*sz+sz:=abf _ _;have d7:=b.pos;have R:l.length=n*sz:=by rw[q];simp;omega
 have u:∀t,t<n*sz->l[t]?=c[t]?:=by
  intro t ht;rw[q,acU ht];simp
 have B:∀t v,l[t]?=some v->w.cell? ⟨g,t,none⟩=some v:=by
  intro t v hv;have ht:t<n*sz:=by rw[<-R];exact(aap.1 hv).1
  rw[u t ht]at hv;simp[World.cell?,A,hv]
 have s:∀t,t<d*sz->(w.cell? ⟨g,t,none⟩).isSome=true:=by
  intro t ht;simp[World.cell?,A,show t<c.size by omega]
 have p:∀t,w.frozen? ⟨g,t,none⟩=false:=λ t=>by simp[World.frozen?,A]
 have a5:w.shape? g=some (e,d*sz):=by simp[World.shape?,A,X]
 have b1:d*sz≠0:=by omega
 have b2:=λ lb cb=>
  b.ov _ _ _ _ (vL w _ _ _ b.t24 _ b.z9 ⟨F,m,none⟩ ⟨g,(i+1)*sz,none⟩ 1 vc lb cb a9 _ e _ _ b4 b7 a5 b1 (p _) (p _))
 have b3:(l.drop (i*sz)).length=(n-i)*sz:=by rw[abb,R,adM]
 have c6:IntKind.i64.wrap ((i)+1)=(i)+1:=by rw[adS];simp[maxLen]at a1;omega
 have y:∀Y dc sc,(Builtin.copy_ #[(ρ.t _),(ρ.t 24)] Y _).run P _= .ok _ _:=λ Y dc sc=>
  jr w.drew _ _ _ _ g ((i+1)*sz) (n-i) dc ⟨g,i*sz,none⟩ (n+1-i) sc _ _ b.t24 H (by grind) b3
   (λ j v Q=>by rw[adl];simp_all)
   (λ j Q=>s _ (by grind)) (λ j Q=>p _) (λ v hv=>h1 v (q▸aca hv))
 obtain⟨W1,a2⟩:∃W1,W1=w.drew.setCells g ((i+1)*sz) (l.drop (i*sz)):=⟨_,rfl⟩;obtain⟨Z,o,E⟩:=bQ (l.drop (i*sz)) ((i+1)*sz) _ _ (eR.drew A).here (by grind);rw[<-a2]at o y;have e6:c.toList.length=d*sz:=by grind
 have T:Z.size=d*sz:=by
  have:=aak List.length E;grind
 have G:∀(a:World),(∀x,a.cell? x=W1.cell? x)->(∀x,a.frozen? x=W1.frozen? x)->∀Y dc,(Builtin.copy_ #[(ρ.t _),(ρ.t 24)] _ _).run P a= .ok _ _:=λ a K b5 Y dc=>
  jr a _ _ Y _ g (i*sz) (n+1-i) dc ⟨F,m,none⟩ 1 vc 1 _ b.t24 H (by grind) (by grind)
   (λ j v Q=>by
    rw[adl,K,a2,World.cell?_setCells_out g _ _ _ _ (λ h _=>absurd h a9)];simp_all)
   (λ j Q=>by
    rw[K,World.cell?,o.here];grind) (λ j Q=>by rw[b5,World.frozen?,o.here];rfl) b8
 obtain⟨a7,a6,D⟩:=bQ r (i*sz) _ _ o.here (by omega);have a8:Aside (∃k,eR w (W1.setCells g (i*sz) r) g e c k/\k.size=d*sz/\k.toList.take ((n+1)*sz)=l.take (i*sz)++r++l.drop (i*sz)):=by
  refine⟨a7,((eR.drew A).trans o).trans a6,?_,?_⟩
  .have:=aak List.length D;grind
  .have hA:c.toList.take ((i+1)*sz)=l.take (i*sz)++(c.toList.take ((i+1)*sz)).drop (i*sz):=by
    have h0:(c.toList.take ((i+1)*sz)).take (i*sz)=l.take (i*sz):=by grind
    rw[<-h0,aaL]
   have c8:(l.take (i*sz)).length=i*sz:=by grind
   have d4:((c.toList.take ((i+1)*sz)).drop (i*sz)).length=sz:=by rw[abb,aaE];omega
   rw[D,E];have hT:(c.toList.take ((i+1)*sz)++(l.drop (i*sz)++c.toList.drop ((i+1)*sz+(l.drop (i*sz)).length))).take (i*sz)=l.take (i*sz):=by
    grind
   have hD:(c.toList.take ((i+1)*sz)++(l.drop (i*sz)++c.toList.drop ((i+1)*sz+(l.drop (i*sz)).length))).drop (i*sz+r.length)=l.drop (i*sz)++c.toList.drop ((i+1)*sz+(l.drop (i*sz)).length):=by
    grind
   rw[hT,hD,<-aat,<-aat,acw (by simp;omega),aag (by simp;omega)]
 have e5:(0:Int)<=(i)+1:=by omega
 have e3:i<=n:=by omega
 have c3:((i:Int)+1).toNat=i+1:=by rfl
 have d1:¬(d=i+1):=by omega
 have e4:¬(d=i):=by omega
 have d5:¬((i:Int)=(n)):=by omega
 have d2:(i:Int)<=(n)+1:=by omega
 have e0:(n:Int)+1<=d:=by omega
 have c2:d<=9223372036854775807:=by unfold maxLen at a1;omega
 clear o a6 D E u c1 b0 e1 e2 T X A a5 s p B;rw[<-q];obtain⟨_,_,FG⟩:=b.f22;go_enter FG,Body2.n22_ntmps _;go_wp2_with (simp only[b2]);go_region_law_o (refine step_copy_runI rfl _ _ (ρ.t 24) (ρ.t 24) rfl _ _ (by simp[Act.eval,Act.put]) (by simp[Act.eval,Act.put]) (y _ _ _) ?_);go_wp2_with (at_builtin;refine wpList_copy_runI _ rfl _ _ (ρ.t 24) (ρ.t 24) rfl _ _ rfl rfl (G _ (λ _=>rfl) (λ _=>rfl) _ _) ?_);go_ret;refine⟨rfl,?_⟩;have h:=a8.out;grind
def Lw (b:Qo P ρ sz byt z)(c:D')(n d j g l:Nat)(w h:World)(i:Value)(x:n<=d)(o:d<=maxLen)(k:c=none->n=0/\d=0)(u:∀a,c=some a->a.spot=none)
  (e:∀r,(Builtin.append_ #[ρ.t 24,ρ.t 24] r #[.slice c n d,.slice (some ⟨j,g,none⟩) 1 l]).run P w= .ok i h):
  Calls P (ρ.f 22) #[.slice c n d,Φi n,.slice (some ⟨j,g,none⟩) 1 l] w λ s m=>s= .returned i/\m=h:=by
 have q:=b.t24;have v:=b.z9;obtain⟨_,_,p⟩:=b.f22;go_enter p,Body2.n22_ntmps _;cases c with
 | none=>
  go_wp2_with (at_builtin;refine Lib.wpList_append_run _ rfl _ _ _ _ rfl _ _ rfl rfl _ _ (e _) ?_);go_ret;simp
 | some a=>
  go_wp2_with (at_builtin;refine Lib.wpList_append_run _ rfl _ _ _ _ rfl _ _ rfl rfl _ _ (e _) ?_);all_goals (go_ret;simp)
def Qp (l:Qo P ρ sz byt z)(g n a2 i vb r vc:Nat)(y:Array Value)(e:TypeId)(q:G')(w:World)(hi:i<n)(hn:n=a2)(c5:(n+1)*byt<=140737488355328)
  (hg:w.heap[g]?=some (.cells y e (0,0))) (f9:y.size=a2*sz) (h1:∀x∈y.toList.take (n*sz),x.oneCell'=true)
  (g9:q.length=sz) (c6:∀j v,q[j]?=some v->w.cell? ⟨vb,r+j,none⟩=some v) (d7:∀v∈q,v.oneCell'=true):
  Calls P (ρ.f 22) #[.slice (some ⟨g,0,none⟩) n a2,Φi i,.slice (some ⟨vb,r,none⟩) 1 vc] w λ e1 w'=>∃G,e1= .returned (.slice (some ⟨w.heap.size,0,none⟩) (n+1) G)/\n+1<=G/\G<=maxLen/\
   Below w.heap.size w w'/\w.heap.size<w'.heap.size/\w.drawn<=w'.drawn/\∃o:Array Value,w'.heap[w.heap.size]?=some (.cells o (ρ.t 9) (0,0))/\o.size=G*sz/\o.toList.take ((n+1)*sz)=(y.toList.take (n*sz)).take (i*sz)++q++(y.toList.take (n*sz)).drop (i*sz):=by
 have d8:=l.mixed;have t0:=l.t0;have a0:=l.a0;have z0:=l.z0;have v0:=l.v0;have t3:=l.t3;have a3:=l.a3;have z3:=l.z3;have v3:=l.v3;have t4:=l.t4;have a4:=l.a4;have z4:=l.z4;have v4:=l.v4;have f2:=l.t24;have g5:=l.a24;have f6:=l.z24;have f1:=l.v24;have z9:=l.z9;have v9:=l.v9;have u0:=abv l.t0;have u3:=abv l.t3;have u4:=abv l.t4;have g2:=abv l.t24;obtain⟨i0,b9,c3,b0,d6⟩:=l.i9;have a8:(P.info? (ρ.t 9)).map (·.size)=some sz:=by rw[b9];simp[c3]
 subst hn;obtain⟨p,H⟩:∃p,p=y.toList.take (n*sz):=⟨_,rfl⟩;have c7:(i+1)*sz<=n*sz:=aaC _ hi;have e1:(i+1)*sz=i*sz+sz:=abf _ _;have e2:(n+1)*sz=n*sz+sz:=abf _ _;have g6:=l.pos;have d5:=l.bpos;have e9:n+1<=(n+1)*byt:=ace _ d5;have R:p.length=n*sz:=by rw[H];simp;omega
 have B:∀t v,p[t]?=some v->w.cell? ⟨g,t,none⟩=some v:=by
  intro t v hv;have ht:t<n*sz:=by rw[<-R];exact(aap.1 hv).1
  rw[H,acU ht]at hv;simp at hv;simp[World.cell?,hg,hv]
 have g3:g<w.heap.size:=(aaA.1 hg).1;have e0:0<q.length:=by omega
 have f7:vb<w.heap.size:=by
  have:=c6 0 _ (aai e0);exact World.block_lt_of_cell? w ⟨vb,r+0,none⟩ this
 have a7:(n:Int)+1-(i:Int)=((n+1-i:Nat):Int):=by omega
 have a5:i+(n+1-i)=n+1:=by omega
 have f4:(n:Int)<(n:Int)+1:=by omega
 have X:(Builtin.firstCells i0.size i (.slice (some ⟨g,0,none⟩) i n)).run P w.drew= .ok (p.take (i*sz)).toArray w.drew:=by
  rw[c3];exact run_firstCells_some w.drew sz i ⟨g,0,none⟩ i n (p.take (i*sz)) (by rw[aaE];omega) (λ j v A=>by
   rw[adl,aaT];rw[List.getElem?_take]at A;split at A
   .exact B j v A
   .cases A)
 obtain⟨G,hG⟩:∃G,G=grownCap w (n+1) n (ρ.t 9):=⟨_,rfl⟩;obtain⟨m,K⟩:∃m:Array Value,m=(p.take (i*sz)).toArray++Builtin.zeroCells z.cells (n+1-i)++Builtin.zeroCells z.cells (G-(n+1)):=⟨_,rfl⟩;have Z:n+1<=G:=by rw[hG];exact grownCap_ge w _ _ _
 have a9:G<=maxLen:=by rw[hG];exact aen w (n+1) n (ρ.t 9) (by unfold maxLen;omega)
 have d9:∀E,(Builtin.append_ #[(ρ.t 24),(ρ.t 3)] E #[.slice (some ⟨g,0,none⟩) i n,Φi ((n:Int)+1-(i:Int))]).run P w=
   .ok (.slice (some ⟨w.heap.size,0,none⟩) (n+1) G) (w.drew.alloc (.cells m (ρ.t 9))):=λ E=>by
  have h:=Lib.run_append_grow_zeros w (ρ.t 24) (ρ.t 3) E (ρ.t 9) i0 _ .i64 .i64 l.t24 l.t3 b9 d6 (some ⟨g,0,none⟩) i n (p.take (i*sz)) X (n+1-i) (by omega) (by omega) (by omega) (by omega) (by rw[b0];have:=aaC byt (show n+1-i<=n+1 by omega);omega) (by rw[b0,a5];exact growslice_fits (by omega) c5);rw[a5]at h;rw[a7,K,hG];exact h
 have d3:m.size=G*sz:=by
  rw[K];have d4:∀k,(Builtin.zeroCells z.cells k).size=k*sz:=λ k=>by simp[Builtin.zeroCells,l.zc]
  simp only[Array.size_append,List.size_toArray,aaE,R,d4,adM];have:(n+1)*sz<=G*sz:=aaC _ Z;omega
 have f8:(n+1)*sz<=G*sz:=aaC _ Z;obtain⟨Q,a1⟩:∃Q,Q=w.drew.alloc (.cells m (ρ.t 9)):=⟨_,rfl⟩;have F:Q.heap[w.heap.size]?=some (.cells m (ρ.t 9) (0,0)):=by
  rw[a1];show(w.heap.push _)[w.heap.size]?=_;rw[Array.getElem?_push,if_pos rfl]
 have s:∀k,k<w.heap.size->Q.heap[k]?=w.heap[k]?:=λ k hk=>by
  rw[a1];show(w.heap.push _)[k]?=_;rw[Array.getElem?_push,if_neg (by omega)]
 have b5:=λ b j hb=>World.cell?_of_block (a:=⟨b,j,none⟩) (s b hb);have hN:∀j,j<(n+1)*sz->(Q.cell? ⟨w.heap.size,j,none⟩).isSome=true:=λ j A=>by
  rw[World.cell?];grind
 have d2:∀j,Q.frozen? ⟨w.heap.size,j,none⟩=false:=λ j=>by rw[World.frozen?,F];rfl
 have b4:∀(c:World),(∀x,c.cell? x=Q.cell? x)->(∀x,c.frozen? x=Q.frozen? x)->∀E dc,(Builtin.copy_ #[(ρ.t 24),(ρ.t 24)] E #[.slice (some ⟨w.heap.size,i*sz,none⟩) (n+1-i) dc,.slice (some ⟨vb,r,none⟩) 1 vc]).run P c= .ok (goInt ((1:Nat):Int)) (c.setCells w.heap.size (i*sz) q):=λ c Y b7 E dc=>
  jr c _ _ E (ρ.t 9) w.heap.size (i*sz) (n+1-i) dc ⟨vb,r,none⟩ 1 vc 1 q l.t24 a8 (by grind) (by grind)
   (λ j v A=>by rw[adl];grind)
   (λ j A=>by grind) (λ j A=>by grind) d7
 have d0:g≠w.heap.size:=by omega
 have b2:(p.drop (i*sz)).length=(n-i)*sz:=by rw[abb,R,adM]
 have T:∀(c:World),(∀x,c.cell? x=(Q.setCells w.heap.size (i*sz) q).cell? x)->(∀x,c.frozen? x=(Q.setCells w.heap.size (i*sz) q).frozen? x)->∀E dc sc,(Builtin.copy_ #[(ρ.t 24),(ρ.t 24)] E #[.slice (some ⟨w.heap.size,(i+1)*sz,none⟩) (n-i) dc,.slice (some ⟨g,i*sz,none⟩) (n-i) sc]).run P c= .ok (goInt ((n-i:Nat):Int)) (c.setCells w.heap.size ((i+1)*sz) (p.drop (i*sz))):=λ c Y b7 E dc sc=>
  jr c _ _ E (ρ.t 9) w.heap.size ((i+1)*sz) (n-i) dc ⟨g,i*sz,none⟩ (n-i) sc (n-i) (p.drop (i*sz)) l.t24 a8 (by simp) b2
   (λ j v A=>by
    rw[adl,Y,World.cell?_setCells_out _ _ _ _ _ (λ h _=>absurd h d0)];grind)
   (λ j A=>by rw[Y];exact isSome_setCells _ _ _ _ (λ t ht=>hN _ (by omega)) _ (hN _ (by grind)))
   (λ j A=>by rw[b7,World.frozen?_setCells];grind) (λ v hv=>h1 v (H▸aca hv))
 have g7:¬(G=i):=by omega
 have e7:¬(G=i+1):=by omega
 have g0:¬(n=i):=by omega
 have e8:G<=9223372036854775807:=by unfold maxLen at a9;omega
 have e5:n<=9223372036854775807:=by omega
 subst a1;have c8:∀x,((w.alloc _).drew).cell? x=(w.drew.alloc (.cells m (ρ.t 9))).cell? x:=λ x=>rfl;have c9:∀x,((w.alloc _).drew).frozen? x=(w.drew.alloc (.cells m (ρ.t 9))).frozen? x:=λ x=>rfl;have d1:∀x,(((w.alloc _).drew.setCells _ (i*sz) q).drew).cell? x=((w.drew.alloc (.cells m (ρ.t 9))).setCells w.heap.size _ _).cell? x:=λ x=>rfl;have e3:∀x,(((w.alloc _).drew.setCells _ (i*sz) q).drew).frozen? x=((w.drew.alloc (.cells m (ρ.t 9))).setCells w.heap.size _ _).frozen? x:=λ x=>rfl;have f3:IntKind.i64.wrap ((i)+1)=(i)+1:=by rw[adS];omega
 have a6:(0:Int)<=(i)+1:=by omega
 have h0:i<=n:=by omega
 have f0:((i:Int)+1).toNat=i+1:=by rfl
 have g1:(i:Int)<=(n):=by omega
 have g4:¬((i:Int)=(n)):=by omega
 have b8:Aside (Below w.heap.size w ((((w.alloc (.cells m (ρ.t 9))).drew.setCells w.heap.size (i*sz) q).drew).setCells w.heap.size ((i+1)*sz) (p.drop (i*sz)))/\w.heap.size<((((w.alloc (.cells m (ρ.t 9))).drew.setCells w.heap.size (i*sz) q).drew).setCells w.heap.size ((i+1)*sz) (p.drop (i*sz))).heap.size/\
   w.drawn<=((((w.alloc (.cells m (ρ.t 9))).drew.setCells w.heap.size (i*sz) q).drew).setCells w.heap.size ((i+1)*sz) (p.drop (i*sz))).drawn/\∃o:Array Value,((((w.alloc (.cells m (ρ.t 9))).drew.setCells w.heap.size (i*sz) q).drew).setCells w.heap.size ((i+1)*sz) (p.drop (i*sz))).heap[w.heap.size]?=some (.cells o (ρ.t 9) (0,0))/\
   o.size=G*sz/\o.toList.take ((n+1)*sz)=p.take (i*sz)++q++p.drop (i*sz)):=by
  have a6:((w.alloc _).drew).heap[w.heap.size]?=some _:=F;have u:∀k,k<w.heap.size->((w.alloc _).drew).heap[k]?=w.heap[k]?:=s;have D:((w.alloc (.cells m (ρ.t 9))).drew).heap.size=w.heap.size+1:=by
   simp
  have b6:((w.alloc (.cells m (ρ.t 9))).drew).os=w.os:=rfl;have b3:((w.alloc (.cells m (ρ.t 9))).drew).tape=w.tape:=rfl;have c0:((w.alloc (.cells m (ρ.t 9))).drew).output=w.output:=rfl;have c4:w.drawn<=((w.alloc (.cells m (ρ.t 9))).drew).drawn:=ads _;generalize (w.alloc _).drew=W2 at a6 u D b6 b3 c0 c4⊢;obtain⟨c1,S1,e4⟩:=bQ q (i*sz) _ _ a6 (by omega);generalize g8:W2.setCells _ _ _=W3 at S1⊢;have S2:=S1.trans (eR.drew S1.here);have e6:c1.size=G*sz:=by
   have:=aak List.length e4;grind
  obtain⟨c2,S3,b1⟩:=bQ (p.drop (i*sz)) ((i+1)*sz) _ _ S2.here (by grind);have d:=S2.trans S3;refine⟨⟨d.os.trans b6,d.tape.trans b3,d.output.trans c0,by rw[d.size,D];simp,λ k hk=>(d.block k (by omega)).trans (u k hk)⟩,by rw[d.size,D];simp,aax c4 d.drawn,c2,d.here,?_,?_⟩
  .have:=aak List.length b1;grind
  .have hR:m.toList.take (i*sz)=p.take (i*sz):=by
    grind
   have f5:(p.take (i*sz)).length=i*sz:=by grind
   have hT:c1.toList.take ((i+1)*sz)=p.take (i*sz)++q:=by
    grind
   rw[b1,hT,<-aat,acw (by simp;omega),aag (by simp;omega)]
 rw[<-H];obtain⟨_,_,FG⟩:=l.f22;clear a7 a5 X K hG d3 F s b5 hN d2 B b2 e1 e2 c7 R;go_enter FG,Body2.n22_ntmps _;go_wp2_with (first
  |(at_builtin;refine Lib.wpList_append_run _ rfl _ _ _ _ rfl _ _ rfl rfl _ _ (d9 _) ?_)
  |(at_builtin;refine wpList_copy_runI _ rfl _ _ (ρ.t 24) (ρ.t 24) rfl _ _ rfl rfl (b4 _ c8 c9 _ _) ?_)
  |(at_builtin;refine wpList_copy_runI _ rfl _ _ (ρ.t 24) (ρ.t 24) rfl _ _ rfl rfl (T _ (λ _=>rfl) (λ _=>rfl) _ _ _) ?_))
 go_region_law_o (refine step_copy_runI rfl _ _ _ _ rfl _ _ (by simp[Act.eval,Act.put]) (by simp[Act.eval,Act.put]) (T _ d1 e3 _ (G-(i+1)) (n-i)) ?_);go_wp2;go_ret;refine⟨G,rfl,Z,a9,?_⟩;rw[<-H];exact b8.out
def Sz (c:Qo P ρ sz byt z)(c2:P.cellsOf (ρ.t 9)=sz){n i r vc:Nat}{A:D'}{K Y:G'}{H:Heap}(hi:i<=n)(hn:(n+1)*byt<=140737488355328)(c0:Y.length=sz)(hv:Cells H A 0 Y)(e2:1<=vc):
  dJ P (ρ.f 22) [.slice none 0 0,Φi i,.slice A 1 vc] 0 (ρ.t 9) n K false H ⟨false,[(false,[.row r (ρ.t 9)])]⟩ (λ _ m zs _=>m=n+1/\zs=K.take (i*sz)++Y++K.drop (i*sz)):=by
 refine⟨fN.mI c.f22 rfl,λ w B s hs hB hr=>?_⟩;obtain⟨T,d5,d⟩:=hr;simp at T d5 d;have d7:=T;obtain⟨c3,E⟩:=T;rw[c2]at c3 E;have b5:=c.pos;have a9:=c.bpos;have e0:n+1<=(n+1)*byt:=ace _ a9;obtain⟨vb,vo,rfl,y⟩:∃b o,A=some ⟨b,o,none⟩/\∀t v,Y[t]?=some v->H b (o+0+t)=some v/\v.oneCell'=true:=by
  rcases hv with h | h
  .grind
  grind
 have a2:∀j v,Y[j]?=some v->w.cell? ⟨vb,vo+j,none⟩=some v:=λ j v hj=>by
  have:=(y j v hj);exact(hs _ _ _ this.1).cell this.2
 have a7:∀v∈Y,v.oneCell'=true:=λ v hv=>by
  obtain⟨j,hj,e⟩:=aaM hv;exact(y j v (by grind)).2
 have b0:=a2 0 _ (aai (by omega));have d0:=(y 0 _ (aai (by omega))).1;obtain⟨tA,kA,c9,d3⟩:∃tA kA,w.shape? vb=some (tA,kA)/\kA≠0:=by
  rw[World.cell?]at b0;cases hb:w.heap[vb]? with
  | none=>grind
  | some ob=>
   rw[hb]at b0;cases ob with
   | cells cs t fz=>
    refine⟨t,cs.size,by simp[World.shape?,hb],?_⟩;grind
   | _=>simp at b0
 have a4:∀(p:World) (v:Value),bV w p H H s.ownBlock->fH P p B H ⟨v,ρ.t 9,n+1,K.take (i*sz)++Y++K.drop (i*sz)⟩->(∀g,v.ownBlock=some g->w.heap.size<=g\/s.ownBlock=some g)->
   ∃v' H' nr ys,Ending.returned v= .returned v'/\Fits ⟨false,[(false,[.row r (ρ.t 9)])]⟩ ((λ _ m zs _=>m=n+1/\zs=K.take (i*sz)++Y++K.drop (i*sz)) ys) v' H' nr/\
    bV w p H H' s.ownBlock/\(false=true->fH P p B H' ⟨s,ρ.t 9,n,ys⟩)/\
    (∀r∈nr,fH P p B H' r/\∀g,r.s.ownBlock=some g->w.heap.size<=g\/(false=false/\s.ownBlock=some g))/\bg nr:=by
  intro p v hg hv hb;refine⟨v,H,[⟨v,ρ.t 9,n+1,K.take (i*sz)++Y++K.drop (i*sz)⟩],[],rfl,?_,hg,by simp,?_,?_⟩
  .exact⟨_,_,rfl,rfl,v,rfl,rfl,rfl,rfl,rfl⟩
  .grind
  .exact abz _ _
 have Q:∀x∈K.take (i*sz)++Y++K.drop (i*sz),x.oneCell'=true:=by
  grind
 have d9:∀g,w.heap.size<=g->∀o,H g o=none:=λ g hg o=>by
  cases h:H g o with
  | none=>rfl
  | some v=>
   have:=(hs g o v h).lt;omega
 have D:∀(p:World) (o:Option _),(∀k,k<w.heap.size->o≠some k->p.heap[k]?=w.heap[k]?)->(∀g,o=some g->∀k,H g k=none)->ct H p:=by
  intro p o hk hf b k v hv;have b4:=hs b k v hv;refine b4.keep (hk b b4.lt λ e=>?_);grind
 rcases Nat.eq_or_lt_of_le hi with c7 | b3
 .subst c7;obtain⟨i0,d2,d4,c5,d1⟩:=c.i9;have b7:=λ ty=>run_append_own_at (P:=P) w B _ ty _ _ z _ _ c.t24 d2 d1 d4 c5 c.zc b5 s i K (by grind) ⟨vb,vo,none⟩ 1 vc _ (by grind) (λ k u hu=>by rw[adl];grind) a7 (by simp[maxLen];omega) hn hB;obtain⟨v',p,r1,r2,r3,r4,r5⟩:=b7 (ρ.t 24);have b2:∀ty,(Builtin.append_ #[ρ.t _,ρ.t _] ty #[s,.slice _ 1 _]).run P w= .ok _ _:=λ ty=>r1;have a3:Calls P (ρ.f 22) #[s,Φi i,.slice (some ⟨vb,vo,none⟩) 1 vc] w λ e1 w1=>e1= .returned v'/\w1=p:=by
   rcases E with⟨rfl,h0⟩ |⟨g,a8,b1,rfl,b9,hb,b8,Z,a6,a1⟩
   .subst h0;exact Lw c _ 0 0 _ _ _ w _ _ (aaB _) (abi _) (λ _=>⟨rfl,rfl⟩) (λ _ h=>by grind) b2
   .exact Lw c _ i _ _ _ _ w _ _ b8 Z (λ h=>by grind) (λ a h=>by grind) b2
  refine a3.mono ?_;rintro e w1 ⟨rfl,rfl⟩;have l:∀k,k<w.heap.size->s.ownBlock≠some k->w1.heap[k]?=w.heap[k]?:=λ k hk a0=>r3.block k hk (λ e=>a0 e.symm);refine a4 _ _ ⟨⟨r3.os,r3.tape,r3.output,r3.size,l,qK r1⟩,Heap.le_refl _,λ _ _ _ _=>rfl,D _ _ l d⟩ (T' ⟨Q,λ g hg=>?_⟩) (λ g hg=>?_)
  .grind
  grind
 .rcases E with⟨rfl,h0⟩ |⟨g,a8,b1,rfl,b9,hb,b8,Z,a6,a1⟩
  .omega
  have d8:vb≠g:=by
   rintro rfl;rw[d _ rfl]at d0;grind
  have X:∀x∈b1.toList.take (n*sz),x.oneCell'=true:=by grind
  rcases abR n a8 with q | q
  .refine(Ny c g n _ i _ _ _ _ _ _ _ _ w b3 q Z hb a6 X c0 d8 a2 a7 c9 d3).mono ?_;rintro e p ⟨rfl,R,hS,b6,c1⟩;have l:∀k,k<w.heap.size->(some g)≠some k->p.heap[k]?=w.heap[k]?:=λ k hk a0=>hS.block k λ h=>a0 (by grind);exact a4 _ _ ⟨⟨hS.os,hS.tape,hS.output,by rw[hS.size];simp,l,hS.drawn⟩,Heap.le_refl _,λ _ _ _ _=>rfl,D _ (some g) l d⟩
    ⟨(T' (.inr ⟨g,a8,R,rfl,b9,hS.here,q,Z,T' (by grind)⟩)),Q,d⟩ (λ g h=> .inr h)
  .refine(Qp c g n _ i _ _ _ _ _ _ w b3 (by omega) hn hb a6 X c0 a2 a7).mono ?_;rintro e p ⟨G,rfl,c6,c4,F,c8,d6,R,hh,b6,c1⟩;have l:∀k,k<w.heap.size->(some g)≠some k->p.heap[k]?=w.heap[k]?:=λ k hk _=>F.block k hk;exact a4 _ _ ⟨⟨F.os,F.tape,F.output,Nat.le_of_lt c8,l,d6⟩,Heap.le_refl _,λ _ _ _ _=>rfl,D _ _ l d⟩
    ⟨(T' (.inr ⟨w.heap.size,G,R,rfl,hB,hh,c6,c4,T' (by grind)⟩)),Q,λ g' a5=>by
     have e:some _=some _:=a5;grind⟩ (λ g' a5=>by
     have e:some _=some _:=a5;grind)
end
end
end Go.Vc
