/- A part of the proof. -/
import Derived.Test.YtnkineaffgkicaaGreatDoorH9
import Derived.Test.YtnkineaffgkicaaGreatDoorProg
set_option maxHeartbeats 0
set_option maxRecDepth 100000
set_option linter.unusedVariables false
set_option linter.defProp false
namespace Go.Vc
open Go Go.RowKit
def Gj:tN Go.Proofs.Tryz.prog tab (List.range 634)=true:=by kernel_rfl
def tO:cE Go.Proofs.Tryz.prog tab:=by
 intro t i h;have a:t<634:=by
  unfold tab at h;split at h
  .assumption
  .simp at h
 exact wi Gj t (List.mem_range.2 a) i h
abbrev M:Nat:=140737488355328
abbrev ΦQ(c:Bool)(x y:Prop):Prop:=(c=true->x)/\(c=false->y)
abbrev J(c:Prop)[Decidable c](x y:Prop):Prop:=(decide c=true->x)/\(decide c=false->y)
abbrev V(c:Prop)[Decidable c](x y:Prop):Prop:=((!decide c)=true->x)/\((!decide c)=false->y)
abbrev O(n:Nat):Int:=↑n
abbrev I(n:Int):Value:=.int .i64 n
abbrev S(a:D')(n c:Nat):Value:=.slice a n c
abbrev ΦT(s:ByteArray):Value:=.string s
abbrev ΦB(s:Bool):Value:=.bool s
abbrev ΦG(l:G'):Value:=.agg ⟨l⟩
abbrev ΦR(x:Int):Prop:=ae .i64 x
abbrev N(x:Int):Nat:=x.toNat
abbrev L(x:G'):Nat:=x.length
abbrev ΦX(a:D')(i:Int)(n:Nat)(K:Prop):Prop:=cD a/\0<=i/\i<(↑n:Int)/\K
abbrev ΦY(i:Int)(n:Nat)(K:Prop):Prop:=0<=i/\i<(↑n:Int)/\K
abbrev U(h:Heap)(x:G')(n:Nat)(K:D'->Nat->Heap->Prop):Prop:=∀(a:D')(c:Nat)(k:Heap),Heap.le h k->Cells k a 0 x->n<=c->K a c k
@[reducible] def aQ:(b:List aI)->{R S:Type}->bz b R->bz b S->(R->S->Prop)->Prop
 |[],_,_,p,k,K=>K p k
 | .int _::b,_,_,p,k,K=>∀n:Int,aQ b (p n) (k n) K
 | .bool::b,_,_,p,k,K=>∀n:Bool,aQ b (p n) (k n) K
 | .str::b,_,_,p,k,K=>∀n:ByteArray,aQ b (p n) (k n) K
 | .sl::b,_,_,p,k,K=>∀(a:D')(n c:Nat),aQ b (p a n c) (k a n c) K
 | .mp::b,_,_,p,k,K=>∀n:Option Nat,aQ b (p n) (k n) K
 | .val::b,_,_,p,k,K=>∀n:Value,aQ b (p n) (k n) K
 | .cells::b,_,_,p,k,K=>∀n:G',aQ b (p n) (k n) K
 | .row _ _::b,_,_,p,k,K=>∀(n:Nat)(x:G'),aQ b (p n x) (k n x) K
@[reducible] def PL:List aI->Type->Type
 |[],R=>R
 | .int _::l,R=>Int->PL l R
 | .bool::l,R=>Bool->PL l R
 | .str::l,R=>ByteArray->PL l R
 | .sl::l,R=>D'->Nat->Nat->PL l R
 | .mp::l,R=>Option Nat->PL l R
 | .row _ _::l,R=>Nat->G'->PL l R
 | _::l,R=>Value->PL l R
@[reducible] def aW:(b:List aI)->{R S:Type}->PL b R->PL b S->(R->S->Prop)->Prop
 |[],_,_,p,k,K=>K p k
 | .int _::b,_,_,p,k,K=>∀n:Int,aW b (p n) (k n) K
 | .bool::b,_,_,p,k,K=>∀n:Bool,aW b (p n) (k n) K
 | .str::b,_,_,p,k,K=>∀n:ByteArray,aW b (p n) (k n) K
 | .sl::b,_,_,p,k,K=>∀(a:D')(n c:Nat),aW b (p a n c) (k a n c) K
 | .mp::b,_,_,p,k,K=>∀n:Option Nat,aW b (p n) (k n) K
 | .row _ _::b,_,_,p,k,K=>∀(n:Nat)(x:G'),aW b (p n x) (k n x) K
 | .val::b,_,_,p,k,K=>∀n:Value,aW b (p n) (k n) K
 | .cells::b,_,_,p,k,K=>∀n:Value,aW b (p n) (k n) K
@[reducible] def aR:(r:List (Bool×List aI))->{R S:Type}->bo r R->bo r S->(R->S->Prop)->Prop
 |[],_,_,p,k,K=>K p k
 |(_,ls)::r,_,_,p,k,K=>aQ ls p k λ p k=>aR r p k K
@[reducible] def eQ:(b:List aI)->(G'->Prop)->bz b Prop->Prop
 |[],p,k=>p []/\k
 | .int q::b,p,k=>∃n:Int,eQ b (λ l=>p (.int q n::l)) (k n)
 | .bool::b,p,k=>∃n:Bool,eQ b (λ l=>p (.bool n::l)) (k n)
 | .str::b,p,k=>∃n:ByteArray,eQ b (λ l=>p (.string n::l)) (k n)
 | .sl::b,p,k=>∃(a:D')(n c:Nat),eQ b (λ l=>p (.slice a n c::l)) (k a n c)
 | _,_,_=>False
abbrev Φi(n:Int):Value:=.int .i64 n
abbrev Φu(n:Int):Value:=.int .u16 n
abbrev ZB:=af Go.Proofs.Tryz.prog
abbrev ZC:=dJ Go.Proofs.Tryz.prog
abbrev ZD:=ph Go.Proofs.Tryz.prog
abbrev ZE:List aI:=[.int .i64]
abbrev ZF:List aI:=[.int .i64,.int .i64,.str]
abbrev ZG:List aI:=[.row 0 0,.int .i64]
abbrev ZH:List aI:=[.int .i64,.sl,.int .i64,.int .i64,.int .i64,.int .i64]
abbrev ZI:List aI:=[.sl,.int .i64,.int .i64,.sl]
abbrev ZJ:List aI:=[.int .i64,.int .i64,.int .i64,.int .i64,.int .i64,.int .i64,.str]
abbrev ZK:List aI:=[.int .i64,.int .i64]
abbrev ZL:List aI:=[.int .i64,.row 0 0,.row 0 0]
abbrev ZM:List aI:=[.sl]
abbrev ZN:List aI:=[.row 80 3,.row 81 107]
abbrev Xl:List aI:=[.row 76 3,.row 77 107]
abbrev Xm:List aI:=[.row 78 3,.row 79 107]
abbrev Xn:List aI:=[.sl,.sl,.int .i64,.int .i64,.sl]
abbrev Xo:List aI:=[.row 0 0,.int .i64,.int .i64]
abbrev Xq:List aI:=[.int .i64,.str,.int .i64]
abbrev Xr:List aI:=[.str]
abbrev Xs:List aI:=[.int .i64,.int .i64,.sl]
abbrev Xt:List aI:=[.bool]
abbrev Xu:List aI:=[.sl,.str,.sl]
abbrev Xv:List aI:=[.int .i64,.sl]
abbrev Xw:List aI:=[.int .i64,.int .i64,.int .i64,.sl]
abbrev Xx:List aI:=[.int .i64,.str,.row 0 0,.sl,.row 0 0,.row 0 0]
abbrev Xy:List aI:=[.int .i64,.int .i64,.int .i64,.row 0 0]
abbrev Xz:List aI:=[.int .u16]
abbrev XA:List aI:=[.row 0 0,.int .i64,.sl,.sl,.row 0 0]
abbrev XB:List aI:=[.sl,.sl,.row 93 575]
abbrev XC:List aI:=[.sl,.sl,.row 94 575]
abbrev XD:List aI:=[.bool,.int .i64,.int .i64]
abbrev XE:List aI:=[.sl,.sl,.row 39 575]
abbrev XF:List aI:=[.sl,.sl,.row 32 575]
abbrev XG:List aI:=[.row 0 0,.row 0 0,.int .i64,.int .i64]
abbrev XH:List aI:=[.row 0 0,.sl]
abbrev XI:List aI:=[.sl,.sl]
abbrev XJ:List aI:=[.sl,.int .i64]
abbrev XK:List aI:=[.row 0 0,.row 0 0,.int .i64]
abbrev XL:List aI:=[.row 0 0,.sl,.int .i64]
abbrev XM:List aI:=[.str,.sl,.sl,.sl,.sl,.sl]
abbrev XN:List aI:=[.row 0 0]
abbrev XP:List aI:=[.str,.sl,.sl,.sl,.sl]
abbrev XQ:List aI:=[.int .i64,.int .i64,.row 50 53,.int .i64,.sl,.sl]
abbrev XR:List aI:=[.int .i64,.int .i64,.row 41 53,.int .i64,.sl,.sl]
abbrev XS:List aI:=[.int .i64,.int .i64,.row 52 53,.int .i64,.sl,.sl]
abbrev XT:List aI:=[.int .i64,.int .i64,.int .i64,.row 0 0,.int .i64,.sl,.sl]
abbrev XU:List aI:=[.int .i64,.int .i64,.row 80 53,.int .i64,.sl,.sl]
abbrev XV:List aI:=[.int .i64,.int .i64,.int .i64,.row 0 0,.int .i64,.sl,.row 0 0]
abbrev XW:List aI:=[.int .i64,.str,.sl,.sl,.sl,.sl,.row 0 0]
abbrev XX:List aI:=[.int .i64,.int .i64,.int .i64,.int .i64,.str,.sl]
abbrev XY:List aI:=[.int .i64,.int .i64,.row 69 53,.int .i64,.sl,.sl]
abbrev XZ:List aI:=[.int .i64,.int .i64,.row 70 53,.int .i64,.sl,.sl]
abbrev Yc:List aI:=[.int .i64,.int .i64,.row 71 53,.int .i64,.sl,.sl]
abbrev Yd:List aI:=[.int .i64,.int .i64,.row 72 53,.int .i64,.sl,.sl]
abbrev Ye:List aI:=[.int .i64,.int .i64,.row 73 53,.int .i64,.sl,.sl]
abbrev Yf:List aI:=[.int .i64,.int .i64,.row 74 53,.int .i64,.sl,.sl]
abbrev Yg:List aI:=[.int .i64,.int .i64,.int .i64,.row 0 0,.int .i64,.sl,.sl,.int .i64,.int .i64,.row 0 0,.int .i64,.sl,.sl]
abbrev Yh:List aI:=[.int .i64,.str,.sl,.int .i64,.int .i64,.sl,.int .i64,.sl,.str,.sl,.sl,.sl,.sl,.int .i64,.str,.int .i64]
abbrev Yi:List aI:=[.int .i64,.int .i64,.row 56 53,.int .i64,.sl,.sl]
abbrev Yj:List aI:=[.int .i64,.int .i64,.int .i64,.sl,.int .i64,.sl,.sl,.int .i64,.int .i64,.sl,.int .i64,.sl,.sl]
abbrev Yk:List aI:=[.int .i64,.int .i64,.int .i64,.sl,.int .i64,.sl,.sl]
abbrev Yl:List aI:=[.sl,.sl,.sl]
abbrev Ym:List aI:=[.int .i64,.sl,.int .i64]
abbrev Yn:List aI:=[.int .i64,.int .i64,.int .i64]
abbrev Yo:List aI:=[.sl,.sl,.row 0 0]
abbrev Yp:List aI:=[.int .i64,.int .i64,.str,.row 0 0,.int .i64,.int .i64,.sl,.int .i64,.sl,.str,.sl,.sl,.sl,.sl,.int .i64,.str,.int .i64]
abbrev Yq:List aI:=[.int .u16,.int .u16,.int .u16,.int .u16,.int .u16,.int .u16,.int .u16,.int .u16]
abbrev Yr:List aI:=[.int .u16,.int .u16,.int .u16,.int .u16,.int .u16,.int .u16,.int .u16,.int .u16,.int .u16]
abbrev Ys:List aI:=[.int .i64,.int .i64,.row 17 53,.int .i64,.sl,.sl]
abbrev aeV:List aI:=[.int .i64,.int .i64,.sl,.int .i64,.int .i64,.int .i64,.str,.int .i64,.int .i64,.int .i64]
abbrev ZO:cj:=⟨false,[(false,[.bool])]⟩
abbrev ZP:cj:=⟨false,[(false,[.int .i64])]⟩
abbrev ZQ:cj:=⟨true,[(false,[.mp]),(false,[.bool])]⟩
abbrev ZR:cj:=⟨true,[(false,[.mp]),(false,[.int .i64])]⟩
abbrev ZT:cj:=⟨false,[(false,[.sl])]⟩
abbrev ZU:cj:=⟨false,[(true,[.int .i64,.int .i64,.str])]⟩
abbrev ZV:cj:=⟨true,[]⟩
abbrev ZW:cj:=⟨true,[(true,[.int .i64,.int .i64]),(false,[.bool])]⟩
abbrev ZX:cj:=⟨false,[(false,[.row 37 133])]⟩
abbrev ZY:cj:=⟨false,[(true,[.sl,.sl])]⟩
abbrev Yt:cj:=⟨false,[(false,[.row 28 3])]⟩
abbrev Yu:cj:=⟨false,[(false,[.row 36 3])]⟩
abbrev Yv:cj:=⟨false,[(false,[.row 14 3])]⟩
abbrev Yw:cj:=⟨false,[(false,[.row 15 3])]⟩
abbrev Yx:cj:=⟨false,[(false,[.row 20 3])]⟩
abbrev Yy:cj:=⟨false,[(true,[.int .i64,.int .i64,.sl])]⟩
abbrev Yz:cj:=⟨false,[(true,[.str,.row 47 87,.sl,.sl,.sl])]⟩
abbrev YA:cj:=⟨false,[(true,[.str,.row 44 87,.sl,.sl,.sl])]⟩
abbrev YB:cj:=⟨false,[(false,[.row 60 46])]⟩
abbrev YC:cj:=⟨false,[(true,[.str,.sl,.sl,.sl,.sl])]⟩
abbrev YD:cj:=⟨false,[(true,[.int .i64,.str,.int .i64])]⟩
abbrev YE:cj:=⟨false,[(false,[.str])]⟩
abbrev YF:cj:=⟨true,[(false,[.int .i64]),(false,[.int .i64])]⟩
abbrev YG:cj:=⟨false,[(false,[.row 67 241])]⟩
abbrev YH:cj:=⟨false,[(false,[.row 69 3])]⟩
abbrev YI:cj:=⟨false,[(false,[.row 63 46])]⟩
abbrev YJ:cj:=⟨false,[(false,[.row 64 46])]⟩
abbrev YK:cj:=⟨true,[(true,[.int .i64,.int .i64,.sl]),(false,[.bool])]⟩
abbrev YL:cj:=⟨false,[(false,[.row 34 75])]⟩
abbrev YM:cj:=⟨false,[(false,[.row 23 142])]⟩
abbrev YN:cj:=⟨true,[(false,[.sl]),(false,[.int .i64])]⟩
abbrev YO:cj:=⟨true,[(true,[.str,.sl,.sl,.sl,.sl]),(false,[.int .i64])]⟩
abbrev YP:cj:=⟨true,[(true,[.int .i64,.str,.int .i64]),(false,[.bool])]⟩
abbrev YQ:cj:=⟨false,[(false,[.row 81 53])]⟩
abbrev YR:cj:=⟨false,[(false,[.row 79 75])]⟩
abbrev YS:cj:=⟨false,[(true,[.int .i64,.int .i64,.sl,.int .i64,.sl,.sl])]⟩
abbrev YT:cj:=⟨true,[(true,[.int .i64,.int .i64,.sl,.int .i64,.sl,.sl]),(false,[.int .i64])]⟩
abbrev YU:cj:=⟨false,[(true,[.int .i64,.int .i64,.row 57 53,.int .i64,.sl,.sl])]⟩
abbrev YV:cj:=⟨true,[(false,[.int .i64]),(false,[.sl])]⟩
abbrev YW:cj:=⟨false,[(false,[.row 68 241])]⟩
abbrev YX:cj:=⟨false,[(false,[.row 35 3])]⟩
abbrev YY:cj:=⟨false,[(false,[.row 19 3])]⟩
abbrev YZ:cj:=⟨false,[(false,[.row 91 107])]⟩
abbrev Zc:cj:=⟨false,[(false,[.row 92 3])]⟩
abbrev Zd:cj:=⟨false,[(false,[.row 99 241])]⟩
abbrev Ze:cj:=⟨false,[(false,[.row 149 133])]⟩
abbrev Zf:cj:=⟨false,[(true,[.int .i64,.int .i64])]⟩
abbrev Zg:cj:=⟨true,[(false,[.row 150 142]),(false,[.int .i64])]⟩
abbrev Zh:cj:=⟨false,[(true,[.str,.sl,.sl,.row 43 68,.sl])]⟩
abbrev Zi:cj:=⟨false,[(true,[.str,.sl,.sl,.row 44 68,.sl])]⟩
abbrev Zj:cj:=⟨false,[(true,[.int .i64,.str,.sl,.int .i64,.int .i64,.sl,.int .i64,.sl,.str,.sl,.sl,.sl,.sl,.int .i64,.str,.int .i64])]⟩
abbrev Zk:cj:=⟨false,[(true,[.int .i64,.int .i64,.sl,.int .i64,.int .i64,.int .i64,.str,.int .i64,.int .i64,.int .i64])]⟩
abbrev Zl:cj:=⟨false,[(true,[.str,.sl,.sl,.row 83 68,.sl])]⟩
abbrev aeW:cj:=⟨false,[(true,[.int .i64,.int .i64,.row 18 53,.int .i64,.sl,.sl])]⟩
abbrev aoM:cj:=⟨true,[(true,[.int .i64,.int .i64,.sl,.int .i64,.sl,.sl]),(true,[.int .i64,.int .i64,.sl,.int .i64,.sl,.sl]),(false,[.sl]),(false,[.bool])]⟩
abbrev api:cj:=⟨false,[(false,[.row 41 107])]⟩
abbrev C(s:cj)(f:FuncId)(a:G')(h:Heap)(K:Heap->bo s.parts Prop):Prop:=∃p:bo s.parts (Heap->Prop),af Go.Proofs.Tryz.prog f a h s p/\∀x:Heap,Heap.le h x->aR s.parts p (K x) λ p k=>p x->k
abbrev ZZ(s:cj)(f:FuncId)(a:G')(k:Nat)(e:TypeId)(n:Nat)(b:G')(w:Bool)(h:Heap)(K:Heap->G'->bo s.parts Prop):Prop:=∃p:G'->bo s.parts (Heap->Prop),dJ Go.Proofs.Tryz.prog f a k e n b w h s p/\∀x:Heap,Heap.le h x->∀y,aR s.parts (p y) (K x y) λ p k=>p x->k
abbrev tR(s:cj)(f:FuncId)(a:G')(h:Heap)(o:aU)(K:Heap->aU->bo s.parts Prop):Prop:=∃p:bo s.parts (Heap->aU->Prop),LX Go.Proofs.Tryz.prog f a h o s p/\∀x:Heap,Heap.le h x->∀y:aU,aR s.parts p (K x y) λ p k=>p x y->k
abbrev tS(l:List aI)(s:cj)(f:FuncId)(a:List BA)(e:TypeId)(n:List BC)(h:Heap)(o:aU)(K:Heap->aU->bz l (bo s.parts Prop)):Prop:=∃p:bz l (bo s.parts (Heap->aU->Prop)),ph Go.Proofs.Tryz.prog f a e n h o l s p/\∀x:Heap,Heap.le h x->∀y:aU,aQ l p (K x y) λ p k=>aR s.parts p k λ p k=>p x y->k
abbrev W(l:List aI)(h:Heap)(a:PL l (Heap->Prop)->Prop)(K:PL l (Heap->Prop)->PL l Nat->Heap->PL l Prop):Prop:=∃(i:PL l (Heap->Prop))(m:PL l Nat),a i/\∀x:Heap,Heap.le h x->aW l i (K i m x) λ p k=>p x->k
abbrev vb(l:List aI)(h:Heap)(a:PL l (Heap->aU->Prop)->Prop)(K:PL l (Heap->aU->Prop)->PL l Nat->Heap->aU->PL l Prop):Prop:=∃(i:PL l (Heap->aU->Prop))(m:PL l Nat),a i/\∀x:Heap,Heap.le h x->∀y:aU,aW l i (K i m x y) λ p k=>p x y->k
abbrev ΦE(l:List aI)(h:Heap)(a:D')(j:Nat)(K:bz l Prop):Prop:=eQ l (Cells h a j) K
abbrev ΦF(l:List aI)(x:G')(j k:Nat)(K:bz l Prop):Prop:=eQ l (λ c=>win x j k=c) K
def Wq:Nat->List Nat->IA×List Nat
 | 0,l=>(.fin,l)
 | _,[]=>(.fin,[])
 | n+1,j::l=>match j with
  | 0=>(.done,l)
  | 1=>(.fin,l)
  | _=>match j%2 with
   | 0=>let r:=Wq n l;(.take (j/2-1) r.1,r.2)
   | _=>let r:=Wq n l;let q:=Wq n r.2;(.alt (j/2-1) r.1 q.1,q.2)
def mem:List Nat->Nat->Bool
 |[],_=>false
 | a::l,n=>match Nat.beq a n with
  | true=>true
  | false=>mem l n
def lI{b:Type}(d:b):List (Nat×b)->Nat->b
 |[],_=>d
 |(a,x)::l,n=>match Nat.beq a n with
  | true=>x
  | false=>lI d l n
def wj{a:Type}(l:List (Nat×a)):Nat->Option a:=lI none (l.map λ x=>(x.1,some x.2))
def ir(a b:List Nat)(n:Nat):Option Bool:=match mem a n with
 | true=>some true
 | false=>match mem b n with
  | true=>some false
  | false=>none
abbrev ag(n:Nat):Item:=.slot n false [.int .i64]
def aj(l:List Nat)(s:List (Nat×List Nat))(t:List (Nat×List Item)):fI:={res:=λ _=>none,lend:=mem l,sch:=λ n=>(Wq 999 (lI [0] s n)).1,lt:=lI [] t,kz:=Gh}
def bE:=aj [] [] []
def ΦD{c:Prop}[Decidable c]{x y:Prop}(f:c->x)(g:¬c->y):(decide c=true->x)/\(decide c=false->y):=⟨λ h=>f (aab h),λ h=>g (aac h)⟩
def mixed:Go.Proofs.Tryz.prog.follows .mixedOrders=true:=by kernel_rfl
def ΦP(P:Program)(f:FuncId)(k:Func->Prop):Prop:=match P.funcs[f]? with
 | some g=>match g.name== "runtime.NumGoroutine" with
  | true=>False
  | false=>k g
 | none=>False
def yZ{P:Program}{f:FuncId}{k:Func->Prop}(h:ΦP P f k):∃g,P.funcs[f]?=some g/\(g.name== "runtime.NumGoroutine")=false/\k g:=by
 unfold ΦP at h;split at h
 .split at h
  .exact h.elim
  .exact⟨_,by assumption,by assumption,h⟩
 .exact h.elim
def ΦK(e:Nat)(i:fI){f:FuncId}{b:G'}{H:Heap}{c:cj}{a:bo c.parts (Heap->Prop)}(d:bo c.parts (Heap->Prop)->Prop)(h:d a)(j:ΦP Go.Proofs.Tryz.prog f (λ g=>TG Go.Proofs.Tryz.prog tab i g b e H c a)=d a:=by kernel_rfl):af Go.Proofs.Tryz.prog f b H c a:=by
 obtain⟨g,l,k,m⟩:=yZ (j▸h);exact uJ mixed tO l k m
def DM(e:Nat)(i:fI){f:FuncId}{b:G'}{k:Nat}{q:TypeId}{m:Nat}{d:G'}{H:Heap}{a:G'->Heap->Prop}(c:(G'->Heap->Prop)->Prop)(h:c a)(n:ΦP Go.Proofs.Tryz.prog f (λ g=>OL Go.Proofs.Tryz.prog tab i g b k q m d e H a)=c a:=by kernel_rfl)(j:k<b.length:=by simp):dJ Go.Proofs.Tryz.prog f b k q m d true H ⟨true,[]⟩ a:=by
 obtain⟨g,o,l,p⟩:=yZ (n▸h);exact yW mixed tO o l j p
def RY(e:Nat)(p:fI){f:FuncId}{b:G'}{k:Nat}{q:TypeId}{m:Nat}{i:G'}{H:Heap}{c:cj}{a:bo c.parts (Heap->Prop)}(d:bo c.parts (Heap->Prop)->Prop)(h:d a)(r:ΦP Go.Proofs.Tryz.prog f (λ g=>OK Go.Proofs.Tryz.prog tab p g b k q m i e H c a)=d a:=by kernel_rfl)(l:k<b.length:=by simp):dJ Go.Proofs.Tryz.prog f b k q m i false H c (λ _=>a):=by
 obtain⟨g,n,j,o⟩:=yZ (r▸h);exact Ja mixed tO n j l o
def uL(k e:Nat)(p:fI){f:FuncId}{c:List BA}{t:TypeId}{j:List BC}{H:Heap}{a:aU}{d:List aI}{i:cj}{b:bz d (bo i.parts (Heap->aU->Prop))}(l:bz d (bo i.parts (Heap->aU->Prop))->Prop)(q:oI j c)(h:l b)(r:ΦP Go.Proofs.Tryz.prog f (λ g=>ON Go.Proofs.Tryz.prog tab p g c k t j e H a d i b)=l b:=by kernel_rfl):ph Go.Proofs.Tryz.prog f c t j H a d i b:=by
 obtain⟨g,n,m,o⟩:=yZ (r▸h);exact Jd mixed tO n m q o
def Vs(e:Nat)(j:fI){f:FuncId}{c:G'}{H:Heap}{a:aU}{d:cj}{b:bo d.parts (Heap->aU->Prop)}(i:bo d.parts (Heap->aU->Prop)->Prop)(h:i b)(k:ΦP Go.Proofs.Tryz.prog f (λ g=>OO Go.Proofs.Tryz.prog tab j g c e H a d b)=i b:=by kernel_rfl):LX Go.Proofs.Tryz.prog f c H a d b:=by
 obtain⟨g,m,l,n⟩:=yZ (k▸h);exact Je mixed tO m l n
def abv:=@Go.run_underlying
def abL:=@Go.WideShapes.add_plain
def abS:=@Go.Sem.run_bind
def acd:=@Go.Calls.mono
def acu:=@Go.Result.andThen_ok
def acB:=@Go.Sem.run_pure
def adj:=@Go.heap_alloc_new
def adl:=@Go.Addr.add_lit
def adH:=@Go.run_sliceBound
def adI:=@Go.RowKit.Below.refl
def adS:=@Go.IntKind.wrap_i64
def adU:=@Go.mem_ready
def aem:=@Go.calls_of_wp
def aen:=@Go.grownCap_le_maxLen
def aet:=@Go.World.ownsRow_nil
def aeu:=@Go.run_loadCellsFrom
end Go.Vc
namespace Go.Vc
open Go Go.Proofs
def mix:Go.Proofs.Tryz.prog.follows .mixedOrders=true:=by kernel_rfl
instance (k:IntKind)(e:Int):Decidable (ae k e):=by cases k<;>(unfold ae;exact inferInstance)
def idxOf {T:Type}(p:T->Bool):Int->List T->Int
 | _,[]=> -1
 | i,x::r=>if p x then i else idxOf p (i+1) r
def eU {T:Type}(p:T->Bool):∀(l:List T) (i:Int),0<=i->(0<=idxOf p i l↔l.any p=true)
 |[],i,h=>by simp[idxOf]
 | x::r,i,h=>by
  have:=eU p r (i+1) (by omega);unfold idxOf;grind
def za {T:Type}(p:T->Bool):∀(l:List T) (i:Int),0<=i->0<=idxOf p i l->idxOf p i l<i+l.length
 |[],i,h0,h=>by simp[idxOf]at h
 | x::r,i,h0,h=>by
  simp[idxOf]at h⊢;split at h
  .grind
  .have:=za p r _ (by omega) h;omega
def kP (P:Program)(T:Type)[Rep T](H:Heap)(f:FuncId)(q:Value)(p:T->Bool):Prop:=
 ∀(a:Heap) (c:G') (t:T),Heap.le H a->Rep.rel a c t->af P f [.agg ⟨c⟩,q] a fg (λ b _=>b=p t)
end Go.Vc
namespace Go.Vc
open Go
structure aO where
 vals:List az
 p:bc
 lin:I'
deriving DecidableEq
structure Kd where
 key:List az
 t:aO
deriving DecidableEq
structure Rw where
 vals:List az
 lin:I'
deriving DecidableEq
structure cT where
 p:bc
 ids:I'
deriving DecidableEq
instance:Rep aO where
 sz:=4
 byt:=64
 rel H vs v:=∃A n c B m d,vs=[.slice A n c,.int .i64 v.p.lo,.int .i64 v.p.hi,.slice B m d]/\Sl H A n c v.vals/\ae .i64 v.p.lo/\ae .i64 v.p.hi/\Sl H B m d v.lin
 mono:=λ hle ⟨A,n,c,B,m,d,h1,h2,h3,h4,h5⟩=>⟨A,n,c,B,m,d,h1,h2.mono hle,h3,h4,h5.mono hle⟩
 len:=λ ⟨A,n,c,B,m,d,h1,_⟩=>by simp[h1]
 pos:=by decide
 bpos:=by decide
 one:=λ ⟨A,n,c,B,m,d,h1,_⟩=>by rw[h1];simp[Value.oneCell']
instance:Rep Kd where
 sz:=5
 byt:=88
 rel H vs v:=∃E k e A n c B m d,vs=[.slice E k e,.slice A n c,.int .i64 v.t.p.lo,.int .i64 v.t.p.hi,.slice B m d]/\Sl H E k e v.key/\Sl H A n c v.t.vals/\ae .i64 v.t.p.lo/\ae .i64 v.t.p.hi/\Sl H B m d v.t.lin
 mono:=λ hle ⟨E,k,e,A,n,c,B,m,d,h1,h0,h2,h3,h4,h5⟩=>⟨E,k,e,A,n,c,B,m,d,h1,h0.mono hle,h2.mono hle,h3,h4,h5.mono hle⟩
 len:=λ ⟨E,k,e,A,n,c,B,m,d,h1,_⟩=>by simp[h1]
 pos:=by decide
 bpos:=by decide
 one:=λ ⟨E,k,e,A,n,c,B,m,d,h1,_⟩=>by rw[h1];simp[Value.oneCell']
instance:Rep Rw where
 sz:=2
 byt:=48
 rel H vs v:=∃A n c B m d,vs=[.slice A n c,.slice B m d]/\Sl H A n c v.vals/\Sl H B m d v.lin
 mono:=λ hle ⟨A,n,c,B,m,d,h1,h2,h3⟩=>⟨A,n,c,B,m,d,h1,h2.mono hle,h3.mono hle⟩
 len:=λ ⟨A,n,c,B,m,d,h1,_⟩=>by simp[h1]
 pos:=by decide
 bpos:=by decide
 one:=λ ⟨A,n,c,B,m,d,h1,_⟩=>by rw[h1];simp[Value.oneCell']
instance:Rep cT where
 sz:=3
 byt:=40
 rel H vs v:=∃A n c,vs=[.int .i64 v.p.lo,.int .i64 v.p.hi,.slice A n c]/\ae .i64 v.p.lo/\ae .i64 v.p.hi/\Sl H A n c v.ids
 mono:=λ hle ⟨A,n,c,h1,h2,h3,h4⟩=>⟨A,n,c,h1,h2,h3,h4.mono hle⟩
 len:=λ ⟨A,n,c,h1,_⟩=>by simp[h1]
 pos:=by decide
 bpos:=by decide
 one:=λ ⟨A,n,c,h1,_⟩=>by rw[h1];simp[Value.oneCell']
end Go.Vc
namespace Go.Vc
variable {a:Int}{b d:List bc}{c:bc}
abbrev iv:Int:=1099511627776
def dm (p:bc):Bool:=decide (0<=p.lo)&&decide (p.lo<p.hi)&&decide (p.hi<=iv)
def fo:dm c=true↔0<=c.lo/\c.lo<c.hi/\c.hi<=iv:=by simp[dm,aeo]
def uO (p:bc)(t:Int):Bool:=dm p&&decide (p.lo<=t)&&decide (t<p.hi)
def aY:uO c a=true↔(0<=c.lo/\c.lo<c.hi/\c.hi<=iv)/\c.lo<=a/\a<c.hi:=by simp[uO,dm,aeo]
def aP (l:List bc)(t:Int):Bool:=l.any λ p=>uO p t
def fp:aP [] a=false:=rfl
def aH:aP (c::b) a=(uO c a||aP b a):=rfl
def kp:aP (b++d) a=(aP b a||aP d a):=by simp[aP]
def cI:Int->List bc->Bool
 | _,[]=>true
 | h,p::r=>dm p&&decide (h<p.lo)&&cI p.hi r
def Po (l:List bc):Bool:=cI (-1) l
def aM:cI a (c::b)=true↔(0<=c.lo/\c.lo<c.hi/\c.hi<=iv)/\a<c.lo/\cI c.hi b=true:=by
 simp[cI,dm,aeo]
def zd {k:Int}:∀{l:List bc},cI a l=true->k<=a->cI k l=true
 |[],_,_=>rfl
 | p::r,h1,h2=>by
  rw[aM]at h1⊢;grind
def jx {t:Int}:∀{l:List bc} {h:Int},cI h l=true->aP l t=true->h<t
 |[],_,_,h=>by simp[aP]at h
 | p::r,h,h1,a=>by
  rw[aM]at h1;rw[aH,abW]at a;rcases a with a | a
  .rw[aY]at a;omega
  .have:=jx h1.2.2 a;omega
def mK:∀{l:List bc} {h:Int},cI h l=true->∀p∈l,h<p.lo/\0<=p.lo/\p.lo<p.hi/\p.hi<=iv
 | q::r,h,h1,p,a=>by
  rw[aM]at h1;rcases aaw.1 a with rfl | a
  .omega
  .have:=mK h1.2.2 p a;omega
def KX:∀{a b:List bc} {h k:Int},cI h a=true->cI k b=true->(∀t,aP a t=aP b t)->a=b
 |[],[],_,_,_,_,_=>rfl
 |[],q::s,_,k,_,hb,he=>by
  rw[aM]at hb;have:=he q.lo;rw[fp,aH,aY.2 (by omega)]at this;grind
 | p::r,[],h,_,ha,_,he=>by
  rw[aM]at ha;have:=he p.lo;rw[fp,aH,aY.2 (by omega)]at this;grind
 | p::r,q::s,h,k,ha,hb,he=>by
  rw[aM]at ha hb;have f:∀(x y:bc) (u v:List _),(0<=x.lo/\x.lo<x.hi/\x.hi<=iv)->(0<=y.lo/\y.lo<y.hi/\y.hi<=iv)->cI x.hi u=true->cI y.hi v=true->(∀t,aP (x::u) t=aP (y::v) t)->y.lo<=x.lo:=by
   intro x y u v z n g j e;have c:=e x.lo;rw[aH,aY.2 (by omega),abE]at c;have c:=c.symm;rw[aH,abW]at c;rcases c with c | c
   .rw[aY]at c;omega
   .have:=jx j c;omega
  have i:=Int.le_antisymm (f q p s r hb.1 ha.1 hb.2.2 ha.2.2 λ t=>(he t).symm) (f p q r s ha.1 hb.1 ha.2.2 hb.2.2 he);have d:∀(x y:bc) (u v:List _),(0<=x.lo/\x.lo<x.hi/\x.hi<=iv)->(0<=y.lo/\y.lo<y.hi/\y.hi<=iv)->x.lo=y.lo->cI x.hi u=true->cI y.hi v=true->(∀t,aP (x::u) t=aP (y::v) t)->y.hi<=x.hi:=by
   intro x y u v z n C g j e;rcases Int.lt_or_le x.hi y.hi with l | A
   .have c:=e x.hi;rw[aH,aH,show uO y _=true from aY.2 (by omega),abE,abW]at c;rcases c with c | c
    .rw[aY]at c;omega
    .have:=jx g c;omega
   grind
  have B:=Int.le_antisymm (d q p s r hb.1 ha.1 i.symm hb.2.2 ha.2.2 λ t=>(he t).symm) (d p q r s ha.1 hb.1 i ha.2.2 hb.2.2 he);obtain rfl:p=q:=by cases p;simp_all
  refine aak _ (KX ha.2.2 hb.2.2 λ t=>?_);have c:=he t;rw[aH,aH]at c;cases o:aP r t with
  | true=>
   have:=jx ha.2.2 o;have m:uO p t=false:=by rw[<-abZ,aY];omega
   grind
  | false=>
   cases w:aP s t with
   | false=>rfl
   | true=>
    have:=jx hb.2.2 w;have m:uO p t=false:=by rw[<-abZ,aY];omega
    grind
def nQ {m:Int}:∀{x y:List bc} {h:Int},cI h x=true->(∀p∈x,p.hi<=m)->h<=m->cI m y=true->cI h (x++y)=true
 |[],y,h,_,_,h2,h3=>zd h3 h2
 | p::r,y,h,h1,h2,h3,h4=>by
  rw[aM]at h1;rw[aby,aM];exact⟨h1.1,h1.2.1,nQ h1.2.2 (λ q a=>h2 q (abQ _ a)) (h2 p acr) h4⟩
def sB:Int->Int->List bc->List bc
 | lo,hi,[]=>[⟨lo,hi⟩]
 | lo,hi,q::r=>if q.lo<=hi then sB (min lo q.lo) (max hi q.hi) r else⟨lo,hi⟩::q::r
def ins (p:bc):List bc->List bc
 |[]=>[p]
 | q::r=>if q.hi<p.lo then q::ins p r else sB p.lo p.hi (q::r)
def Gr:∀{l:List bc} {lo hi h:Int},cI h l=true->h<lo->0<=lo->lo<hi->hi<=iv->(∀q∈l,lo<=q.hi)->
  cI h (sB lo hi l)=true/\∀t,aP (sB lo hi l) t=(uO ⟨lo,hi⟩ t||aP l t)
 |[],lo,hi,h,_,h1,h2,h3,h4,_=>⟨by rw[sB,aM];exact⟨⟨h2,h3,h4⟩,h1,rfl⟩,λ t=>by rfl⟩
 | q::r,lo,hi,h,hn,h1,h2,h3,h4,h5=>by
  rw[aM]at hn;rw[sB];split
  .obtain⟨a,b⟩:=Gr (l:=r) (lo:=min lo q.lo) (hi:=max hi q.hi) (h:=h) (zd hn.2.2 (by omega)) (by omega) (by omega) (by omega) (by omega)
    (λ x c=>by grind)
   refine⟨a,λ t=>?_⟩;rw[b,aH,<-Bool.or_assoc];congr 1;rw[aaH,abW,aY,aY,aY];grind
  .refine⟨?_,λ t=>rfl⟩;rw[aM,aM];grind
def KY {p:bc}(a:0<=p.lo/\p.lo<p.hi/\p.hi<=iv):∀{l:List bc} {h:Int},cI h l=true->h<p.lo->
  cI h (ins p l)=true/\∀t,aP (ins p l) t=(uO p t||aP l t)
 |[],h,_,h1=>⟨by rw[ins,aM];exact⟨a,h1,rfl⟩,λ t=>rfl⟩
 | q::r,h,hn,h1=>by
  have b:=hn;rw[aM]at hn;rw[ins];split
  .rename_i c;obtain⟨e,f⟩:=KY a hn.2.2 c;refine⟨by rw[aM];grind,λ t=>?_⟩;rw[aH,aH];grind
  .obtain⟨e,f⟩:=Gr b h1 a.1 a.2.1 a.2.2 (λ x d=>by
    rcases aaw.1 d with rfl | d
    .omega
    .have:=mK hn.2.2 x d;omega)
   simp_all
def fq:List bc->List bc->List bc
 | acc,[]=>acc
 | acc,p::r=>fq (if dm p then ins p acc else acc) r
def norm (l:List bc):List bc:=fq [] l
def lK:∀{l acc:List bc},Po acc=true->Po (fq acc l)=true/\∀t,aP (fq acc l) t=(aP acc t||aP l t)
 |[],acc,h=>⟨h,λ t=>by simp[fq,aP]⟩
 | p::r,acc,h=>by
  rw[fq];cases d:dm p with
  | true=>
   have a:=fo.1 d;obtain⟨e,f⟩:=KY a h (by omega);obtain⟨b,c⟩:=lK (l:=r) (acc:=ins p _) e;refine⟨b,λ t=>?_⟩;rw[if_pos rfl,c,f,aH,Bool.or_comm (uO p t),Bool.or_assoc]
  | false=>
   obtain⟨b,c⟩:=lK (l:=r) (acc:=acc) h;refine⟨b,λ t=>?_⟩;rw[if_neg (by simp),c,aH,show uO p t=false by simp[uO,d],abh]
def bW (l:List bc):Po (norm l)=true:=(lK (acc:=[]) rfl).1
def fu (l:List bc)(t:Int):aP (norm l) t=aP l t:=by rw[norm,(lK (acc:=[]) rfl).2];rfl
def DO (c:Po b=true)(e:Po d=true)(h:∀t,aP b t=aP d t):b=d:=KX c e h
def Jg (h:∀t,aP b t=aP d t):norm b=norm d:=DO (bW b) (bW d) λ t=>by rw[fu,fu,h]
def wq:∀(l:List bc) (a b:Int),(sB a b l).length<=l.length+1
 |[],a,b=>by simp[sB]
 | q::r,a,b=>by
  rw[sB];split
  .have:=wq r (min a q.lo) (max b q.hi);grind
  simp
def nR (p:bc):∀(l:List bc),(ins p l).length<=l.length+1
 |[]=>by simp[ins]
 | q::r=>by
  rw[ins];split
  .have:=nR p r;grind
  .exact wq _ _ _
def pP:∀(l a:List bc),(fq a l).length<=a.length+l.length
 |[],a=>by simp[fq]
 | p::r,a=>by
  rw[fq];have b:=pP r (if dm p then ins p a else a);have c:(if dm p then ins p a else a).length<=a.length+1:=by
   split
   .exact nR p _
   simp
  grind
def gD (l:List bc):(norm l).length<=l.length:=by have:=pP l [];simpa[norm]using this
def Rt:bc->List bc->List bc
 | q,[]=>[q]
 | q,p::r=>if p.lo<=q.hi then Rt ⟨q.lo,max q.hi p.hi⟩ r else q::Rt p r
def uP:List bc->List bc
 |[]=>[]
 | q::r=>Rt q r
def DP:∀{l:List bc} {q:bc} {h:Int},(∀p∈q::l,0<=p.lo/\p.lo<p.hi/\p.hi<=iv)->(q::l).Pairwise (λ a b=>a.lo<=b.lo)->h<q.lo->
  cI h (Rt q l)=true/\∀t,aP (Rt q l) t=aP (q::l) t
 |[],q,h,h1,_,h3=>⟨by rw[Rt,aM];exact⟨h1 q acr,h3,rfl⟩,λ t=>rfl⟩
 | p::r,q,h,h1,h2,h3=>by
  have f:=(aaz.1 h2).1 p acr;rw[Rt];split
  .obtain⟨e,d⟩:=DP (l:=r) (q:=⟨q.lo,max q.hi p.hi⟩) (h:=h) (λ x c=>by
    grind) (aaz.2 ⟨λ x c=>(aaz.1 h2).1 x (abQ _ c),(aaz.1 (aaz.1 h2).2).2⟩) h3
   refine⟨e,λ t=>?_⟩;rw[d,aH,aH,aH,<-Bool.or_assoc];congr 1;rw[aaH,abW,aY,aY,aY];grind
  .obtain⟨e,d⟩:=DP (l:=r) (q:=p) (h:=q.hi) (λ x c=>h1 x (abQ _ c)) (aaz.1 h2).2 (by omega);refine⟨by rw[aM];grind,λ t=>?_⟩;rw[aH,d];rfl
def Gs (g:d.Perm (b.filter dm))(n:d.Pairwise (λ a c=>a.lo<=c.lo)):uP d=norm b:=by
 have e:∀t,aP d t=aP b t:=λ t=>by
  rw[aaH];simp[aP];constructor
  .grind
  .rintro⟨p,o,i⟩;exact⟨p,g.mem_iff.2 (abc.2 ⟨o,by simp[uO]at i;grind⟩),i⟩
 have f:∀p∈d,0<=p.lo/\p.lo<p.hi/\p.hi<=iv:=λ p h=>fo.1 (abc.1 (g.mem_iff.1 h)).2;cases d with
 | nil=>exact(DO (bW b) rfl λ t=>by rw[fu,<-e];rfl).symm
 | cons q r=>
  obtain⟨j,k⟩:=DP (h:= -1) f n (by grind);exact DO j (bW b) λ t=>by rw[uP,k,e,fu]
end Go.Vc
namespace Go.Vc
variable {a:List bc}{b c:bc}
def gh (a b:bc):bc:=⟨max a.lo b.lo,min a.hi b.hi⟩
def nT (a b:bc):Bool:=dm a&&dm b&&decide (max a.lo b.lo<min a.hi b.hi)
def nU:nT b c=true↔(0<=b.lo/\b.lo<b.hi/\b.hi<=iv)/\(0<=c.lo/\c.lo<c.hi/\c.hi<=iv)/\max b.lo c.lo<min b.hi c.hi:=by
 simp[nT,fo,aeo]
def uT (p:bc)(b:List bc):List bc:=(b.filter (nT p)).map (gh p)
def Cg:uT b (c::a)=(if nT b c then gh b c::uT b a else uT b a):=by
 unfold uT;grind
def KZ {p:bc}{t:Int}:∀{b:List bc},aP (uT p b) t=(uO p t&&aP b t)
 |[]=>by simp[uT,aP]
 | q::r=>by
  rw[Cg,aH,Bool.and_or_distrib_left,<-KZ (b:=r)];split
  .rename_i h;rw[nU]at h;rw[aH];congr 1;rw[aaH,aah,aY,aY,aY];simp[gh];omega
  .rename_i h;rw[nU]at h;have:(uO p t&&uO q t)=false:=by
    rw[<-abZ,aah,aY,aY];omega
   grind
def ze {p:bc}:∀{b:List bc} {h k:Int},cI h b=true->(k<p.lo\/k<=h)->cI k (uT p b)=true
 |[],_,_,_,_=>rfl
 | q::r,h,k,h1,h2=>by
  rw[aM]at h1;rw[Cg];split
  .rename_i a;rw[nU]at a;rw[aM];simp[gh];refine y' ?_;exact ze h1.2.2 (by omega)
  .exact ze h1.2.2 (by omega)
def Sb (d:c∈uT b a):c.hi<=b.hi:=by
 simp[uT]at d;obtain⟨q,-,rfl⟩:=d;simp[gh];omega
def nV (a b:List bc):List bc:=a.flatMap λ p=>uT p b
def jY (a b:List bc):List bc:=nV (norm a) (norm b)
def zf {b:List bc}{t:Int}:∀{a:List bc},aP (nV a b) t=(aP a t&&aP b t)
 |[]=>by rfl
 | p::r=>by
  rw[nV,abe,kp,KZ,aH,Bool.and_or_distrib_right];congr 1;exact zf
def wu {b:List bc}(c:Po b=true):∀{a:List bc} {h:Int},cI h a=true->cI h (nV a b)=true
 |[],_,_=>rfl
 | p::r,h,h1=>by
  rw[aM]at h1;exact nQ (m:=p.hi) (ze c (.inl h1.2.1)) (λ x d=>Sb d) (by omega) (wu c h1.2.2)
def zg (a b:List bc)(t:Int):aP (jY a b) t=(aP a t&&aP b t):=by rw[jY,zf,fu,fu]
def Ch (a b:List bc):Po (jY a b)=true:=wu (bW b) (bW a)
def fR:Nat->List bc->List bc->List bc
 | 0,_,_=>[]
 | n+1,p::a,q::b=>(if nT p q then[gh p q]else[])++(if p.hi<q.hi then fR n a (q::b)else fR n (p::a) b)
 | _+1,_,_=>[]
def zh {t:Int}:∀{n:Nat} {a b:List bc} {h k:Int},a.length+b.length<=n->cI h a=true->cI k b=true->aP (fR n a b) t=(aP a t&&aP b t)
 | 0,a,b,_,_,h,_,_=>by
  rw[aal (by omega:a.length=0)];rfl
 | n+1,[],b,_,_,_,_,_=>rfl
 | n+1,p::a,[],_,_,_,_,_=>by simp[fR,aP]
 | n+1,p::a,q::b,h,k,hl,ha,hb=>by
  have f:=ha;have c:=hb;rw[aM]at ha hb;have i:aP (if nT p q then[gh p q]else[]) t=(uO p t&&uO q t):=by
   split
   .rw[aH,fp,ade,aaH,aah,aY,aY,aY];simp[gh];omega
   .rename_i j;rw[nU]at j;rw[fp];symm;rw[<-abZ,aah,aY,aY];omega
  rw[fR,kp,i];split
  .rw[zh (by grind) ha.2.2 c];simp[aH];have l:uO p t=true->aP b t=false:=by
    intro d;cases e:aP b t with
    | false=>rfl
    | true=>have:=jx hb.2.2 e;rw[aY]at d;omega
   grind
  .rw[zh (by grind) f hb.2.2];simp[aH];have l:uO q t=true->aP a t=false:=by
    intro d;cases g:aP a t with
    | false=>rfl
    | true=>have:=jx ha.2.2 g;rw[aY]at d;omega
   grind
def Gt (a b:List bc):norm (fR ((norm a).length+(norm b).length) (norm a) (norm b))=jY a b:=
 DO (bW _) (Ch a b) λ t=>by rw[fu,zh (aaB _) (bW a) (bW b),zg,fu,fu]
def cut:Int->Int->List bc->List bc
 | t,hi,[]=>if t<hi then[⟨t,hi⟩]else[]
 | t,hi,q::r=>if q.hi<=t\/hi<=q.lo then cut t hi r else(if t<q.lo then[⟨t,q.lo⟩]else[])++cut q.hi hi r
def xN {c:Int}(d:c<=iv):∀{b:List bc} {t k h:Int},cI h b=true->0<=t->k<t->
  (∀u,aP (cut t c b) u=(decide (t<=u)&&decide (u<c)&& !aP b u))/\cI k (cut t c b)=true/\∀p∈cut t c b,p.hi<=c
 |[],t,k,h,_,h2,h3=>by
  rw[cut];split
  .refine⟨λ u=>?_,by rw[aM];exact⟨⟨h2,T' d⟩,h3,rfl⟩,by simp⟩;rw[aH,fp,ade,Bool.not_false,aaH,aY,aah];grind
  .refine⟨λ u=>?_,rfl,by simp⟩;rw[fp];grind
 | q::r,t,k,h,hb,h2,h3=>by
  rw[aM]at hb;rw[cut];have i:∀u,aP r u=true->q.hi<u:=λ u l=>jx hb.2.2 l;split
  .obtain⟨e,f,g⟩:=xN d (b:=r) (t:=t) (k:=k) hb.2.2 h2 h3;refine⟨λ u=>?_,f,g⟩;rw[aH];have n:decide (t<=u)=true->decide (u<c)=true->uO q u=false:=by
    intro a b;rw[aad]at a b;rw[<-abZ,aY];omega
   grind
  .obtain⟨e,f,g⟩:=xN d (b:=r) (t:=q.hi) (k:=q.lo) hb.2.2 (by omega) (by omega);refine⟨λ u=>?_,?_,?_⟩
   .rw[kp,e,aH];have j:aP (if t<q.lo then[⟨t,q.lo⟩]else[]) u=(decide (t<=u)&&decide (u<q.lo)):=by
     split
     .rw[aH,fp,ade,aaH,aY,aah];grind
     .rw[fp];grind
    rw[j];cases m:aP r u with
    | true=>
     grind
    | false=>
     rw[aaH];simp[<-abZ,aY];omega
   .split
    .rw[List.singleton_append,aM];grind
    .exact(xN d (b:=r) (t:=q.hi) (k:=k) hb.2.2 (by omega) (by omega)).2.1
   grind
def iI (a b:List bc):List bc:=a.flatMap λ p=>cut p.lo p.hi b
def sC {b:List bc}(c:Po b=true):∀{a:List bc} {h:Int},cI h a=true->cI h (iI a b)=true/\∀t,aP (iI a b) t=(aP a t&& !aP b t)
 |[],_,_=>⟨rfl,λ t=>rfl⟩
 | p::r,h,h1=>by
  rw[aM]at h1;obtain⟨d,e⟩:=sC c h1.2.2;obtain⟨f,i,g⟩:=xN h1.1.2.2 (b:=b) (t:=p.lo) (k:=h) c h1.1.1 h1.2.1;rw[iI,abe];refine⟨nQ (m:=p.hi) i g (by omega) d,λ t=>?_⟩;rw[kp,f,aH,Bool.and_or_distrib_right];congr 1
  .congr 1;rw[aaH,aah,aY,aad,aad];omega
  .exact e t
def diff (a b:List bc):List bc:=iI (norm a) (norm b)
def Pp (a b:List bc):Po (diff a b)=true:=(sC (bW b) (bW a)).1
def Sc (a b:List bc)(t:Int):aP (diff a b) t=(aP a t&& !aP b t):=by rw[diff,(sC (bW b) (bW a)).2,fu,fu]
end Go.Vc
namespace Go.Vc
variable {a:List bc}{b c:bc}
def DQ:∀{l:List bc} {h:Int},cI h l=true->l≠[]->h+2*l.length<=iv
 |[],_,_,h=>absurd rfl h
 | p::r,h,h1,_=>by
  rw[aM]at h1;cases r with
  | nil=>grind
  | cons q s=>have:=DQ h1.2.2 (by simp);grind
def Sd (h:Po a=true):a.length*16<=140737488355328:=by
 by_cases b:a=[]
 .grind
 .have:=DQ h b;grind
def Gu (h:Po a=true):a.length<=549755813889:=by
 by_cases b:a=[]
 .grind
 .have:=DQ h b;grind
def nW:∀(n:Nat) (a b:List bc),(fR n a b).length<=n
 | 0,_,_=>by simp[fR]
 | n+1,[],_=>by simp[fR]
 | n+1,_::_,[]=>by simp[fR]
 | n+1,p::a,q::b=>by
  have d:=nW n a (q::b);have c:=nW n (p::a) b;rw[fR];grind
end Go.Vc
