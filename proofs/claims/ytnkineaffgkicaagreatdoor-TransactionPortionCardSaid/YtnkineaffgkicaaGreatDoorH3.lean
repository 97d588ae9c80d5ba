/- A part of the proof. -/
import Derived.Test.YtnkineaffgkicaaGreatDoorH2
import Derived.OrdersHeld
set_option maxHeartbeats 0
set_option maxRecDepth 100000
set_option linter.unusedVariables false
set_option linter.defProp false
set_option linter.unusedSectionVars false
namespace Go.Vc
open Go Go.RowKit
section
variable {a:Value}{b c:Nat}{d:World}{e:Option Nat}
def bz:List aI->Type->Type
 |[],R=>R
 | .int _::ls,R=>Int->bz ls R
 | .bool::ls,R=>Bool->bz ls R
 | .str::ls,R=>ByteArray->bz ls R
 | .sl::ls,R=>D'->Nat->Nat->bz ls R
 | .mp::ls,R=>Option Nat->bz ls R
 | .val::ls,R=>Value->bz ls R
 | .cells::ls,R=>G'->bz ls R
 | .row _ _::ls,R=>Nat->G'->bz ls R
structure cj where
 kz:Bool
 parts:List (Bool×List aI)
def bo:List (Bool×List aI)->Type->Type
 |[],R=>R
 |(_,ls)::r,R=>bz ls (bo r R)
structure cP where
 s:Value
 e:TypeId
 n:Nat
 xs:G'
def vT:(d:List aI)->{R:Type}->bz d R->List cP->(G'->List cP->R->Prop)->Prop
 |[],_,p,a,K=>K [] a p
 | .int k::d,_,p,a,K=>∃n:Int,vT d (p n) a λ f a q=>K (.int k n::f) a q
 | .bool::d,_,p,a,K=>∃b:Bool,vT d (p b) a λ f a q=>K (.bool b::f) a q
 | .str::d,_,p,a,K=>∃s:ByteArray,vT d (p s) a λ f a q=>K (.string s::f) a q
 | .sl::d,_,p,a,K=>∃A n c,vT d (p A n c) a λ f a q=>K (.slice A n c::f) a q
 | .mp::d,_,p,a,K=>∃A,vT d (p A) a λ f a q=>K (.map A::f) a q
 | .val::d,_,p,a,K=>∃v:Value,v.oneCell'=true/\vT d (p v) a λ f a q=>K (v::f) a q
 | .cells::_,_,_,_,_=>False
 | .row _ e::d,_,p,a,K=>∃r g,a=r::g/\r.e=e/\vT d (p r.n r.xs) g λ f a q=>K (r.s::f) a q
def xJ (a:Bool)(b:G'):Option Value:=
 match a,b with
 | true,b=>some (.agg ⟨b⟩)
 | false,[v]=>some v
 | false,_=>none
def Iy:(b:List (Bool×List aI))->{R:Type}->bo b R->List cP->(G'->List cP->R->Prop)->Prop
 |[],_,p,a,K=>K [] a p
 |(g,ls)::b,_,p,a,K=>vT ls p a λ d a q=>∃v,xJ g d=some v/\Iy b q a λ c a q=>K (v::c) a q
def Fits (c:cj)(a:bo c.parts (Heap->Prop))(v:Value)(H:Heap)(e:List cP):Prop:=
 Iy c.parts a e λ d b q=>b=[]/\(if c.kz then v= .tuple ⟨d⟩else d=[v])/\q H
def yl:Value->Bool
 | .tuple _=>true
 | _=>false
def seen (w:World)(b o:Nat)(v:Value):Prop:=match yl v with
 | false=>w.cell? ⟨b,o,none⟩=some v
 | true=>∃a t c,w.heap[b]?=some (.cells a t c)/\a.size=o
def qL (h:a.oneCell'=true):yl a=false:=by
 cases a<;>first | rfl | simp[Value.oneCell']at h
def seen.keep {w:World}{v:Value}(h:seen w b c v)(k:d.heap[b]?=w.heap[b]?):seen d b c v:=by
 unfold seen at*;split at h
 .exact(World.cell?_of_block (a:=⟨b,c,none⟩) k).trans h
 grind
def seen.cell {w:World}(h:seen w b c a)(d:a.oneCell'=true):w.cell? ⟨b,c,none⟩=some a:=by
 unfold seen at h;rw[qL d]at h;grind
def seen.of {w:World}(h:w.cell? ⟨b,c,none⟩=some a)(d:a.oneCell'=true):seen w b c a:=by
 unfold seen;rw[qL d];grind
def seen.lt {w:World}(h:seen w b c a):b<w.heap.size:=by
 unfold seen at h;split at h
 .exact World.block_lt_of_cell? w _ h
 grind
def ct (H:Heap)(w:World):Prop:=∀b o v,H b o=some v->seen w b o v
def fN (P:Program)(f:FuncId):Prop:=∃a,P.funcs[f]?=some a/\a.body.isSome=true/\(a.name== "runtime.NumGoroutine")=false
structure KF (w w':World)(H H':Heap):Prop where
 below:Below w.heap.size w w'
 le:Heap.le H H'
 ef:∀b,b<w.heap.size->∀o,H' b o=H b o
 snap:ct H' w'
 drawn:w.drawn<=w'.drawn
def Dd (P:Program)(w a:World)(b:Heap)(r:cP):Prop:=
 a.ownsRow w.heap.size r.e (P.cellsOf r.e) r.s r.n r.xs/\(∀x∈r.xs,x.oneCell'=true)/\∀g,r.s.ownBlock=some g->∀o,b g o=none
def bg (a:List cP):Prop:=a.Pairwise λ r b=>∀g,r.s.ownBlock=some g->b.s.ownBlock≠some g
def af (P:Program)(f:FuncId)(b:G')(H:Heap)(h:cj)(a:bo h.parts (Heap->Prop)):Prop:=
 fN P f/\∀w,ct H w->Calls P f b.toArray w λ e g=>∃v d c,e= .returned v/\Fits h a v d c/\KF w g H d/\
  (∀r∈c,Dd P w g d r)/\bg c
structure OB (w w':World)(g:Option Nat):Prop where
 os:w'.os=w.os
 tape:w'.tape=w.tape
 output:w'.output=w.output
 size:w.heap.size<=w'.heap.size
 block:∀k,k<w.heap.size->g≠some k->w'.heap[k]?=w.heap[k]?
 drawn:w.drawn<=w'.drawn
structure ns (w w':World)(g:Nat->Prop):Prop where
 os:w'.os=w.os
 tape:w'.tape=w.tape
 output:w'.output=w.output
 size:w.heap.size<=w'.heap.size
 block:∀k,k<w.heap.size->¬g k->w'.heap[k]?=w.heap[k]?
 drawn:w.drawn<=w'.drawn
structure W0 where
 w:World
 g:Nat->Prop
def W0.nw (a:W0)(b:Nat):Prop:=a.w.heap.size<=b\/a.g b
def W0.ef {c:W0}(h:¬c.nw b):b<c.w.heap.size/\¬c.g b:=⟨by
 rcases abR b c.w.heap.size with a | a
 .grind
 .exact absurd (.inl a) h,λ a=>h (.inr a)⟩
structure kJ (w:World)(w0:W0)(e:TypeId)(sz:Nat)(v:Value)(n:Nat)(xs:G'):Prop where
 row:w.ownsRow 0 e sz v n xs
 nw:∀g,v.ownBlock=some g->w0.nw g
def kJ.cells {w:World}{c:W0}{e:TypeId}{b:Nat}{v:Value}{n:Nat}{a:G'}(h:kJ w c e b v n a){g:Nat}(d:v.ownBlock=some g):∀j u,a[j]?=some u->w.cell? ((⟨g,0,none⟩:Addr).add j)=some u:=h.row.cells d
def kJ.lt {w:World}{b:W0}{e:TypeId}{c:Nat}{v:Value}{n:Nat}{d:G'}(h:kJ w b e c v n d):∀k,v.ownBlock=some k->b.nw k/\k<w.heap.size:=λ k a=>⟨h.nw k a,(h.row.lt k a).2⟩
def kJ.kept {w d:World}{a:Option Nat}{g:W0}{e:TypeId}{c:Nat}{v:Value}{n:Nat}{f:G'}(h:kJ w g e c v n f)(i:w.grownBy d a)(b:v.ownBlock=none\/v.ownBlock≠a):kJ d g e c v n f:=⟨h.row.kept i b,h.nw⟩
def kJ.nil (w:World)(b:W0)(e:TypeId)(a:Nat):kJ w b e a (.slice none 0 0) 0 []:=⟨World.ownsRow_nil w 0 e a,λ g h=>by simp[Value.ownBlock]at h⟩
def iZ {w:World}{e:TypeId}{n:Nat}{d:G'}(h:w.ownsRow b e c a n d):w.ownsRow 0 e c a n d:=by
 refine⟨h.1,?_⟩;rcases h.2 with h |⟨g,i,f,j,_,h⟩
 .grind
 grind
def ns.grown {w c:World}{g:Nat->Prop}(h:ns d w g)(b:w.grownBy c e)(j:w.drawn<=c.drawn)(l:∀k,e=some k->d.heap.size<=k\/g k):ns d c g:=
 ⟨b.os.trans h.os,b.tape.trans h.tape,b.output.trans h.output,aax h.size b.size,λ k i f=>(b.block k (abY i h.size) (λ a=>by grind)).trans (h.block k i f),aax h.drawn j⟩
def OB.set {w:World}(h:OB w d e):ns w d (λ b=>e=some b):=⟨h.os,h.tape,h.output,h.size,h.block,h.drawn⟩
def ns.opt {w:World}(h:ns w d (λ b=>e=some b)):OB w d e:=⟨h.os,h.tape,h.output,h.size,h.block,h.drawn⟩
structure bV (w w':World)(H H':Heap)(g:Option Nat):Prop where
 below:OB w w' g
 le:Heap.le H H'
 ef:∀b,b<w.heap.size->g≠some b->∀o,H' b o=H b o
 snap:ct H' w'
def fH (P:Program)(a:World)(B:Nat)(b:Heap)(r:cP):Prop:=
 a.ownsRow B r.e (P.cellsOf r.e) r.s r.n r.xs/\(∀x∈r.xs,x.oneCell'=true)/\∀g,r.s.ownBlock=some g->∀o,b g o=none
def dJ (P:Program)(f:FuncId)(b:G')(k:Nat)(e:TypeId)(n:Nat)(o:G')(a:Bool)(H:Heap)(j:cj)(c:G'->bo j.parts (Heap->Prop)):Prop:=
 fN P f/\∀(w:World) (B:Nat) (s:Value),ct H w->B<=w.heap.size->fH P w B H ⟨s,e,n,o⟩->Calls P f (b.set k s).toArray w λ m h=>∃v d i l,m= .returned v/\Fits j (c l) v d i/\
  bV w h H d s.ownBlock/\(a=true->fH P h B d ⟨s,e,n,l⟩)/\
  (∀r∈i,fH P h B d r/\∀g,r.s.ownBlock=some g->w.heap.size<=g\/(a=false/\s.ownBlock=some g))/\bg i
def OC (P:Program)(t:TypeId)(v:Value):Prop:=∃k e,P.underlying t=some (.map k e)/\((∃q a,P.underlying k=some (.int q)/\v= .int q a)\/∃s,P.underlying k=some .string/\v= .string s)
def UK (P:Program):XO->Obj->Prop
 | .row e n c,ob=>∃f,ob= .cells f e (0,0)/\n<=c/\c<=maxLen/\f.size=c*P.cellsOf e
 | .mp t es,ob=>∃d a,ob= .map d a/\d.toList.map (λ e=>(e.key,e.val))=es/\(∀p∈es,OC P t p.1)/\(∀e∈d.toList,e.born<a)/\(d.toList.map (·.born)).Nodup
 | .Tt t d a,ob=>ob= .map d a/\(∀p∈CX d,OC P t p.1)/\(∀e∈d.toList,e.born<a)/\(d.toList.map (·.born)).Nodup
 | .it b a seen f,ob=>ob= .mapIter (some b) a seen a/\∀e,f=some e->seen.back?=some e.born
def BI (P:Program):XO->Nat->Prop
 | .row e n _,t=>n*P.cellsOf e<=t
 | .mp _ _,_=>True
 | .Tt _ _ _,_=>True
 | .it _ _ _ _,_=>True
inductive BC where
 | v (x:Value)
 | row (e:TypeId) (n:Nat) (xs:G')
inductive BA where
 | v (x:Value)
 | me
 | lx (p j:Nat)
def BA.val (a:Nat)(b:G'):BA->Value
 | .v x=>x
 | .me=> .pointer (some ⟨a,0,none⟩)
 | .lx p j=>match b[p]? with
  | some (.slice (some ⟨g,0,none⟩) _ _)=> .pointer (some ⟨g,j,none⟩)
  | _=>undef
def dN:List BC->G'->List cP
 | .row e n xs::cs,y::ys=>⟨y,e,n,xs⟩::dN cs ys
 | .v _::cs,_::ys=>dN cs ys
 | _,_=>[]
def tn:List BC->G'->Prop
 |[],[]=>True
 | .v x::cs,y::ys=>(y=x/\x.oneCell'=true)/\tn cs ys
 | .row _ _ _::cs,_::ys=>tn cs ys
 | _,_=>False
def Names (a:Option Nat)(c:List cP)(O:aU)(b:Nat):Prop:=a=some b\/(∃r∈c,r.s.ownBlock=some b)\/O b≠none
structure Iz (P:Program)(w:World)(H:Heap)(a:Nat)(t:TypeId)(ys:G')(nr:List cP)(O:aU):Prop where
 box:w.heap[a]?=some (.cells ⟨ys⟩ t (0,0))
 hid:∀o,H a o=none
 rows:∀r∈nr,fH P w 0 H r
 ne:∀r∈nr,r.s.ownBlock≠some a
 apart:bg nr
 opn:∀b x,O b=some x->(∃ob,w.heap[b]?=some ob/\UK P x ob)/\∀t,BI P x t->H b t=none
 opn2:∀b,O b≠none->b≠a/\∀r∈nr,r.s.ownBlock≠some b
def ph (P:Program)(f:FuncId)(d:List BA)(t:TypeId)(e:List BC)(H:Heap)(O:aU)(s:List aI)(k:cj)(h:bz s (bo k.parts (Heap->aU->Prop))):Prop:=
 fN P f/\∀(w:World) (a:Nat) (c:G'),ct H w->tn e c->Iz P w H a t c (dN e c) O->Calls P f (d.map (BA.val a c)).toArray w λ y j=>∃v i l g n,y= .returned v/\
  (vT s h n λ x r q=>x=g/\Iy k.parts q r λ u m p=>m=[]/\(if k.kz then v= .tuple ⟨u⟩else u=[v])/\p i l)/\
  ns w j (Names (some a) (dN e c) O)/\Heap.le H i/\(∀b,b<w.heap.size->¬Names (some a) (dN e c) O b->∀o,i b o=H b o)/\ct i j/\Iz P j i a t g n l/\
  (∀b,Names (some a) n l b->w.heap.size<=b\/Names (some a) (dN e c) O b)
def Wy (P:Program)(w:World)(H:Heap)(O:aU):Prop:=∀b x,O b=some x->(∃a,w.heap[b]?=some a/\UK P x a)/\∀t,BI P x t->H b t=none
def LX (P:Program)(f:FuncId)(c:G')(H:Heap)(O:aU)(h:cj)(a:bo h.parts (Heap->aU->Prop)):Prop:=
 fN P f/\∀(w:World),ct H w->Wy P w H O->Calls P f c.toArray w λ k e=>∃v d g,k= .returned v/\
  (Iy h.parts a [] λ i j p=>j=[]/\(if h.kz then v= .tuple ⟨i⟩else i=[v])/\p d g)/\
  ns w e (Names none [] O)/\Heap.le H d/\(∀b,b<w.heap.size->¬Names none [] O b->∀o,d b o=H b o)/\ct d e/\Wy P e d g/\
  (∀b,g b≠none->w.heap.size<=b\/O b≠none)
def nt:(d:List aI)->{R:Type}->bz d R->St->(List S1->St->R->Prop)->Prop
 |[],_,p,a,K=>K [] a p
 | .int k::d,_,p,a,K=>∀n:Int,nt d (p n) a λ f a q=>K (.v (.int k n)::f) a q
 | .bool::d,_,p,a,K=>∀b:Bool,nt d (p b) a λ f a q=>K (.b b::f) a q
 | .str::d,_,p,a,K=>∀s:ByteArray,nt d (p s) a λ f a q=>K (.v (.string s)::f) a q
 | .sl::d,_,p,a,K=>∀A n c,nt d (p A n c) a λ f a q=>K (.v (.slice A n c)::f) a q
 | .mp::d,_,p,a,K=>∀A:Option Nat,nt d (p A) a λ f a q=>K (.v (.map A)::f) a q
 | .val::d,_,p,a,K=>∀v:Value,nt d (p v) a λ f a q=>K (.v v::f) a q
 | .cells::_,_,_,_,_=>False
 | .row i e::d,_,p,a,K=>if da a i then∀n g,nt d (p n g) (aq a i (.row e n g)) λ f a q=>K (.own i::f) a q else False
def AQ:(b:List (Bool×List aI))->{R:Type}->bo b R->St->(List (Bool×List S1)->St->R->Prop)->Prop
 |[],_,p,a,K=>K [] a p
 |(g,ls)::b,_,p,a,K=>nt ls p a λ c a q=>AQ b q a λ r a q=>K ((g,c)::r) a q
def Fk (a:Bool)(r:List (Bool×List S1)):Option SV:=
 match a,r with
 | true,r=>some (.kz r)
 | false,[(g,cs)]=>jJ g cs
 | false,_=>none
def S1.asInt (k:IntKind):S1->Option Int
 | .v (.int k' n)=>if k=k' then some n else none
 | _=>none
def S1.OD:S1->Option ByteArray
 | .v (.string s)=>some s
 | _=>none
def S1.Tx:S1->Option (D'×Nat×Nat)
 | .v (.slice A n c)=>some (A,n,c)
 | _=>none
def S1.Tz:S1->Option (Option Nat)
 | .v (.map A)=>some A
 | _=>none
def S1.ym (c:S1):Option Value:=match c.UJ with
 | true=>c.SZ
 | false=>none
def ja (a:St)(e:TypeId):S1->Option (Nat×G'×St)
 | .own k=>match gK a k with
  | some (.row e' n xs)=>if e'=e then some (n,xs,aq a k .dead)else none
  | _=>none
 | .sub k l m _=>match l with
  | 0=>match gK a k with
   | some (.row e' n xs)=>if e'=e then some (m,yf xs n m,aq a k .dead)else none
   | _=>none
  | _+1=>none
 | .v (.slice none 0 0)=>some (0,[],a)
 | _=>none
def dx:(a:List aI)->{R:Type}->bz a R->List S1->St->Option (R×St)
 |[],_,p,cs,st=>match cs with
  |[]=>some (p,st)
  | _::_=>none
 | .int k::a,_,p,cs,st=>match cs with
  |[]=>none
  | c::cs=>match c.asInt k with
   | some n=>dx a (p n) cs st
   | none=>none
 | .bool::a,_,p,cs,st=>match cs with
  |[]=>none
  | c::cs=>match c.Rr with
   | some b=>dx a (p b) cs st
   | none=>none
 | .str::a,_,p,cs,st=>match cs with
  |[]=>none
  | c::cs=>match c.OD with
   | some s=>dx a (p s) cs st
   | none=>none
 | .sl::a,_,p,cs,st=>match cs with
  |[]=>none
  | c::cs=>match c.Tx with
   | some (A,n,c)=>dx a (p A n c) cs st
   | none=>none
 | .mp::a,_,p,cs,st=>match cs with
  |[]=>none
  | c::cs=>match c.Tz with
   | some A=>dx a (p A) cs st
   | none=>none
 | .val::a,_,p,cs,st=>match cs with
  |[]=>none
  | c::cs=>match c.ym with
   | some v=>dx a (p v) cs st
   | none=>none
 | .cells::_,_,_,_,_=>none
 | .row _ e::a,_,p,cs,st=>match cs with
  |[]=>none
  | c::cs=>match ja st e c with
   | some (n,xs,st)=>dx a (p n xs) cs st
   | none=>none
def AR:(a:List (Bool×List aI))->{R:Type}->bo a R->List SV->St->Option (R×St)
 |[],_,p,[],st=>some (p,st)
 |(g,ls)::a,_,p,x::xs,st=>match g,Fi st x with
  | true,.agg cs=>match dx ls p cs st with
   | some (q,st)=>AR a q xs st
   | none=>none
  | false,.one c=>match dx ls p [c] st with
   | some (q,st)=>AR a q xs st
   | none=>none
  | _,_=>none
 | _,_,_,_,_=>none
def De (b:S1->Heap->(Value->Heap->Prop)->Prop):List S1->Heap->(G'->Heap->Prop)->Prop
 |[],H,K=>K [] H
 | x::xs,H,K=>b x H λ v d=>De b xs d λ c a=>K (v::c) a
def Fl (d:St):Nat->S1->Heap->(Value->Heap->Prop)->Prop
 | 0,x,H,K=>match x.SZ with
  | some v=>K v H
  | none=>False
 | n+1,x,H,K=>match x with
  | .loc i b=>match kg d i with
   | some (.box _ cs)=>if CZ cs then De (Fl d n) cs H λ e f=>∀g a,Heap.le f a->Cells a (some ⟨g,0,none⟩) 0 e->K (.pointer (some ⟨g,b,none⟩)) a
    else False
   | _=>False
  | .own i=>match kg d i with
   | some (.row _ n xs)=>∀A c a,Heap.le H a->Cells a A 0 xs->Ol n c->K (.slice A n c) a
   | _=>False
  | x=>match x.SZ with
   | some v=>K v H
   | none=>False
def OE (a:St)(x:S1)(H:Heap)(K:Value->Heap->Prop):Prop:=Fl a 4 x H K
def OF (b:St)(a:List S1)(H:Heap)(K:G'->Heap->Prop):Prop:=De (OE b) a H K
def Tb (d:St)(x:SV)(H:Heap)(K:Value->Heap->Prop):Prop:=
 match x with
 | .one x=>OE d x H K
 | .agg e=>OF d e H λ a c=>K (.agg ⟨a⟩) c
 | .Fh f b=>OF d b H λ a c=>K (.func (.func f) #[] ⟨a⟩) c
 | .kz _=>False
def KG (b:St):List SV->Heap->(G'->Heap->Prop)->Prop
 |[],H,K=>K [] H
 | x::xs,H,K=>Tb b x H λ v d=>KG b xs d λ c a=>K (v::c) a
def Tc (a:St)(i:Nat)(K:St->Prop):Prop:=
 match gK a i with
 | some (.row _ n xs)=>∀A c b,Heap.le a.H b->Cells b A 0 xs->Ol n c->K (aq {a with H:=b} i (.Ff A n c))
 | some (.Ff _ _ _)=>K a
 | _=>False
def gQ (K:St->Prop):List Nat->St->Prop
 |[],st=>K st
 | i::is,st=>Tc st i λ a=>gQ K is a
def BJ:List S1->List Nat
 |[]=>[]
 | .own i::cs=>i::BJ cs
 | _::cs=>BJ cs
def SV.kJ:SV->List Nat
 | .one x=>BJ [x]
 | .agg b=>BJ b
 | .Fh _ a=>BJ a
 | .kz _=>[]
def BK:List SV->List Nat
 |[]=>[]
 | x::xs=>x.kJ++BK xs
def partOf (a:fh)(t:TypeId):Bool×List aI:=
 match a t with
 | some i=>(i.agg,fM a 9 t)
 | none=>(false,[.val])
def Vb (b:fh)(a:TypeId->Option (List TypeId))(t:TypeId):cj:=
 match a t with
 | some c=>⟨true,c.map (partOf b)⟩
 | none=>⟨false,[partOf b t]⟩
inductive Item where
 | slot (d:Nat) (agg:Bool) (ls:List aI)
 | box (i:Nat) (t:TypeId) (ls:List aI)
 | arr (i:Nat) (t:TypeId)
 | im (i:Nat) (e:TypeId)
inductive IA where
 | done
 | fin
 | take (j:Nat) (r:IA)
 | alt (j:Nat) (r:IA) (rest:IA)
def tk:List Nat->IA->IA
 |[],r=>r
 | j::js,r=> .take j (tk js r)
def IA.ids:IA->List Nat
 | .alt j _ a=>j::a.ids
 | _=>[]
structure fI where
 res:Nat->Option cj
 lend:Nat->Bool
 sch:Nat->IA
 lt:Nat->List Item
 kz:TypeId->Option (List TypeId)
 mt:FuncId->Option Bool:=λ _=>none
 opn:Bool:=false
 oap:Nat->Bool:=λ _=>false
 bx:Option Nat->FuncId->Option (List aI):=λ _ _=>none
 tr:Nat->Bool:=λ _=>false
 pbx:Nat->Bool:=λ _=>false
 oc:FuncId->Bool:=λ _=>false
 mo:Bool:=false
 wr:Nat->Bool:=λ _=>false
 kb:Nat->Option Bool:=λ _=>none
 pa:Nat->List Nat:=λ _=>[]
 bxr:Nat->Option (FuncId->Option (List aI)):=λ _=>none
 bxt:Nat->List Nat:=λ _=>[]
def fI.mm (a:fI):Bool:=a.opn&&a.mo
def fI.at (a:fI)(id:Nat):fI:=match a.bxr id with
 | some g=>{a with bx:=λ _ f=>g f}
 | none=>a
def fI.Wz (a:fI):Option Nat->Bool
 | some d=>a.oap d
 | none=>false
def rJ (b:fh)(a:fI)(d:Option Tmp)(t:TypeId):cj:=
 match d with
 | some d=>match a.res d with
  | some s=>s
  | none=>Vb b a.kz t
 | none=>Vb b a.kz t
def rK (a:cj)(d:Option Tmp)(r:List (Bool×List S1))(b:St)(K:St->Prop):Prop:=
 match Fk a.kz r with
 | some x=>K (aK b d x)
 | none=>False
def Df (P:Program)(c:cj)(e:St)(d:Option Tmp)(f:FuncId)(b:G')(K:St->Prop):Prop:=
 ∃a:bo c.parts (Heap->Prop),af P f b e.H c a/\∀h,Heap.le e.H h->
  AQ c.parts a {e with H:=h} λ r g q=>q h->rK c d r g K
def OG (a:fI)(d:Option Tmp):Bool:=match d with
 | some d=>a.lend d
 | none=>false
def yp:List SV->Nat->Option (Nat×Nat)
 |[],_=>none
 | .one (.own i)::_,k=>some (k,i)
 | _::xs,k=>yp xs (k+1)
def KH (P:Program)(s:Bool)(g:cj)(j:St)(d:Option Tmp)(f:FuncId)(h:List SV)(b:Bool)(K:St->Prop):Prop:=
 match yp h 0 with
 | none=>False
 | some (k,i)=>match gK j i with
  | some (.row e n xs)=>match kI (h.set k (.one (.v (.slice none 0 0))))with
   | none=>match s with
    | true=>∃a:G'->bo g.parts (Heap->Prop),KG (aq j i .dead) (h.set k (.one (.v (.slice none 0 0)))) j.H (λ c p=>dJ P f c k e n xs b p g a)/\∀o m,
     AQ g.parts (a m) (aq j i (if b then .row e n m else .dead)) λ r l q=>q o->rK g d r l K
    | false=>False
   | some c=>∃a:G'->bo g.parts (Heap->Prop),dJ P f c k e n xs b j.H g a/\∀o,Heap.le j.H o->∀m,
     AQ g.parts (a m) {aq j i (if b then .row e n m else .dead)with H:=o} λ r l q=>q o->rK g d r l K
  | _=>False
def lD:List aI->List S1->St->Option (List BC×St)
 |[],[],st=>some ([],st)
 | .row _ e::ls,c::cs,st=>match ja st e c with
  | some (n,xs,st1)=>match lD ls cs st1 with
   | some (bs,st2)=>some (.row e n xs::bs,st2)
   | none=>none
  | none=>none
 | _::ls,c::cs,st=>match c.ym with
  | some x=>match lD ls cs st with
   | some (bs,st2)=>some (.v x::bs,st2)
   | none=>none
  | none=>none
 | _,_,_=>none
def pj:List SV->Option Nat
 |[]=>none
 | .one (.loc i 0)::_=>some i
 | _::xs=>pj xs
def posOf (k:Nat):List S1->Nat->Option Nat
 |[],_=>none
 | .own k'::cs,p=>if k'=k then some p else posOf k cs (p+1)
 | _::cs,p=>posOf k cs (p+1)
def TA (i:Nat)(a:List S1):SV->Option BA
 | .one (.loc k 0)=>if k=i then some .me else none
 | .one (.kH k j)=>match posOf k a 0 with
  | some p=>some (.lx p j)
  | none=>none
 | x=>match x.plain with
  | some v=>some (.v v)
  | none=>none
def Vd (i:Nat)(a:List S1):List SV->Option (List BA)
 |[]=>some []
 | x::xs=>match TA i a x with
  | some b=>match Vd i a xs with
   | some c=>some (b::c)
   | none=>none
  | none=>none
def OH (P:Program)(c:List aI)(g:cj)(b:St)(d:Option Tmp)(f:FuncId)(e:List SV)(K:St->Prop):Prop:=
 match pj e with
 | none=>False
 | some i=>match gK b i with
  | some (.box t cs0)=>match Vd i (cs0.map (mx b)) e with
   | none=>False
   | some k=>match lD c (cs0.map (mx b)) b with
    | none=>False
    | some (bcs,st1)=>∃a:bz c (bo g.parts (Heap->aU->Prop)),ph P f k t bcs b.H b.O c g a/\∀l,Heap.le b.H l->∀m,
     nt c a {aq st1 i (.box t (c.map λ _=>S1.any))with H:=l,O:=m} λ n j q=>AQ g.parts q (aq j i (.box t n)) λ r h p=>p l m->rK g d r h K
  | _=>False
def Ve (P:Program)(e:cj)(c:St)(d:Option Tmp)(f:FuncId)(b:G')(K:St->Prop):Prop:=
 ∃a:bo e.parts (Heap->aU->Prop),LX P f b c.H c.O e a/\∀h,Heap.le c.H h->∀i,
  AQ e.parts a {c with H:=h,O:=i} λ r g q=>q h i->rK e d r g K
def Vf (a:St)(d:Nat)(K:St->Prop):Prop:=
 match a.fr[d]? with
 | some (.one (.loc i 0))=>match gK a i with
  | some (.box t cs)=>match tl cs with
   | some c=>if CZ cs then∀g b,Heap.le a.H b->Cells b (some ⟨g,0,none⟩) 0 c->K (aK (aq {a with H:=b} i .dead) (some d) (.one (.lx (some ⟨g,0,none⟩) 0)))else False
   | none=>False
  | _=>False
 | _=>False
def BL (K:St->Prop):List Nat->St->Prop
 |[],st=>K st
 | d::ds,st=>Vf st d λ a=>BL K ds a
def Vg (a:List SV):List Nat:=match yp a 0 with
 | some (k,_)=>BK (a.set k (.one .un))
 | none=>[]
def Dg (P:Program)(h:fh)(g:fI)(t:TypeId)(i:St)(d:Option Tmp)(f:FuncId)(e:St->Option (List SV))(K:St->Prop):Prop:=
 match e i with
 | none=>False
 | some a=>match g.bx d f with
  | some n=>gQ (λ b=>match e b with
     | none=>False
     | some l=>if pj l=pj a then OH P n (rJ h g d t) b d f l K else False) (BK a) i
  | none=>match g.oc f with
   | true=>gQ (λ b=>match e b with
     | none=>False
     | some a=>match kI a with
       | some c=>Ve P (rJ h g d t) b d f c K
       | none=>False) (BK a) i
   | false=>match kI a with
   | some c=>Df P (rJ h g d t) i d f c K
   | none=>match g.mt f with
    | some k=>match OG g d with
      | true=>KH P true (rJ h g d t) i d f a k K
      | false=>gQ (λ b=>match e b with
        | none=>False
        | some a=>KH P false (rJ h g d t) b d f a k K) (Vg a) i
    | none=>match OG g d with
     | true=>∃j:bo (rJ h g d t).parts (Heap->Prop),KG i a i.H (λ c m=>af P f c m (rJ h g d t) j)/\
         ∀m,AQ (rJ h g d t).parts j i λ r b q=>q m->rK (rJ h g d t) d r b K
     | false=>gQ (λ b=>match e b with
       | none=>False
       | some a=>match kI a with
         | some c=>Df P (rJ h g d t) b d f c K
         | none=>False) (BK a) i
def OI (a:G')(n:Nat):Prop:=a.length=n
def Vh (a:G'):Nat:=a.length
def KI (d:fh)(b:St)(t:TypeId)(x y:SV)(K:St->Prop):Prop:=
 match d t with
 | none=>False
 | some i=>match y.cells with
  | none=>False
  | some a=>
   if a.length=i.size/\CZ a then match x with
    | .one (.loc o off)=>match gK b o with
     | some (.box t0 cs)=>if off+a.length<=cs.length then K (aq b o (.box t0 (cs.take off++a++cs.drop (off+a.length))))else False
     | some (.arr t0 xs)=>match off with
      | 0=>match tl a with
       | some c=>OI xs i.size/\K (aq b o (.arr t0 c))
       | none=>False
      | _+1=>False
     | _=>False
    | .one (.oS o j)=>match gK b o with
     | some (.arr t0 xs)=>match tl a with
      | some c=>Ol (jI j i.size) (Vh xs)/\K (aq b o (.arr t0 (av xs j c)))
      | none=>False
     | _=>False
    | .one (.kH o j)=>match gK b o with
     | some (.row e n xs)=>match tl a with
      | some c=>Ol (jI j i.size) (Vh xs)/\K (aq b o (.row e n (av xs j c)))
      | none=>False
     | _=>False
    | _=>False
   else False
def uy (b:St)(e:TypeId)(c:Nat)(x:SV)(K:Nat->G'->Prop):Prop:=
 match x with
 | .one (.own k)=>match kg b k with
  | some (.row e' m a)=>if e'=e then K m a else False
  | _=>False
 | .one (.v (.slice A m _))=>∃a,Cells b.H A 0 a/\OI a (LU m c)/\K m a
 | _=>False
def yq (p:Bool)(q:fh)(a:St)(d:Option Tmp)(t:TypeId)(s x:SV)(K:St->Prop):Prop:=
 match d with
 | none=>False
 | some d=>match q t with
  | none=>False
  | some i=>match i.ty with
   | .slice e=>match q e with
    | none=>False
    | some j=>if da a d/\0<j.size/\0<j.bytes then match p with
     | true=>match s with
      | .one (.v (.slice A n c))=>∃f,nq a.O A e n c/\Cells a.H A 0 f/\OI f (LU n j.size)/\uy a e j.size x λ m b=>
        Ol (LU (jI n m) j.bytes) 140737488355328/\∀g l o h,Heap.le a.H o->Cells o g 0 (cat f b)->Ol (jI n m) l->nq h g e (jI n m) l->KE a.O h A g->
         K (aK {a with H:=o,O:=h} (some d) (.one (.v (.slice g (jI n m) l))))
      | _=>False
     | false=>match s with
      | .one (.v (.slice none 0 0))=>uy a e j.size x λ m b=>
        Ol (LU m j.bytes) 140737488355328/\K (aK (aq a d (.row e m b)) (some d) (.one (.own d)))
      | .one (.own k)=>match gK a k with
       | some (.row e' n f)=>if e'=e then uy a e j.size x λ m b=>
         Ol (LU (jI n m) j.bytes) 140737488355328/\K (aK (aq (aq a k .dead) d (.row e (jI n m) (cat f b))) (some d) (.one (.own d)))else False
       | _=>False
      | _=>False
     else False
   | _=>False
def dE (z:G'):Nat->G'
 | 0=>[]
 | n+1=>z++dE z n
def Td (z:G')(n:Nat):G':=dE z n
def TD (a:G')(z:G')(n:Nat):Prop:=a=dE z n
def KJ (b:St)(d:Nat)(t:TypeId)(i:tj)(a:List S1)(K:St->Prop):Prop:=
 match i.ty with
 | .array _ _=>match tl a with
  | some c=>K (aK (aq b d (.arr t c)) (some d) (.one (.loc d 0)))
  | none=>False
 | _=>K (aK (aq b d (.box t a)) (some d) (.one (.loc d 0)))
def yr (e:St)(d:Nat)(t:TypeId)(b:List S1)(K:St->Prop):Prop:=
 match tl b with
 | some f=>if 0<b.length then∀g c a,Heap.le e.H a->Cells a (some ⟨g,0,none⟩) 0 f->Ol 1 c->
  K (aK (aq {e with H:=a} d (.Ff (some ⟨g,0,none⟩) 1 c)) (some d) (.one (.lx (some ⟨g,0,none⟩) 0)))else False
 | none=>False
def Dh (a:St)(d:Option Tmp)(e:TypeId)(j:tj)(x:SV)(K:St->Prop):Prop:=
 match d with
 | none=>match x with
  | .one (.own k)=>match gK a k with
   | some (.row e' n xs)=>if e'=e then K (aq a k (.row e n (Td j.zero n)))else False
   | _=>False
  | .one (.sub k l m sz)=>match gK a k with
   | some (.row e' n xs)=>if e'=e/\sz=j.size then K (aq a k (.row e n (av xs (LU l sz) (Td j.zero m))))else False
   | _=>False
  | _=>False
 | some _=>False
def IC (a:St)(d:Option Tmp)(e:TypeId)(j:tj)(x y:SV)(K:St->Prop):Prop:=
 match d with
 | none=>False
 | some d=>match x with
  | .one (.own k)=>match gK a k with
   | some (.row e' n xs)=>if e'=e/\0<j.size then uy a e j.size y λ m b=>Ol m n/\K (aK (aq a k (.row e n (av xs 0 b))) (some d) (.one (.v (.int .i64 (qI m)))))else False
   | _=>False
  | _=>False
def KK (a:St):Option Operand->Bool
 | none=>true
 | some x=>match ev a x with
  | some (.one (.v (.int _ _)))=>true
  | _=>false
def KL:Ty->Value->Bool
 | .int q,.int q' _=>q==q'
 | .string,.string _=>true
 | _,_=>false
def tp (c:List (Value×Value))(k:Value)(a:Bool)(z b:G'):Prop:=match cH c k with
 | some v=>xJ a b=some v
 | none=>b=z
def iC (P:Program)(o:fh)(H:fI)(g:St)(d:Option Tmp)(L:TypeId)(R:Op)(K:St->Prop):Prop:=
 match R with
 | .alloc t=>match d with
  | none=>False
  | some d=>match o t with
   | none=>False
   | some i=>if da g d then KJ g d t i (i.zero.map S1.v) K else False
 | .box t x=>match d with
  | none=>False
  | some d=>match o t with
   | none=>False
   | some i=>match ev g x with
    | none=>False
    | some x=>match x.cells with
     | none=>False
     | some u=>if da g d/\u.length=i.size/\CZ u then match H.pbx d with
      | true=>yr g d t u K
      | false=>KJ g d t i u K
      else False
 | .buildSlice t n z=>match d with
  | none=>False
  | some d=>match o t with
   | none=>False
   | some i=>match i.ty with
    | .slice e=>match o e with
     | none=>False
     | some j=>match lay g (λ f=>if f<n then some (f*j.size,j.size)else none) z.toList ((dE j.zero n).map S1.v)with
      | none=>False
      | some u=>gQ (λ g=>match lay g (λ f=>if f<n then some (f*j.size,j.size)else none) z.toList ((dE j.zero n).map S1.v)with
       | none=>False
       | some u=>match tl u with
        | none=>False
        | some F=>if da g d/\CZ u/\n*j.size<=16777216/\0<j.size/\0<j.bytes then K (aK (aq g d (.row e n F)) (some d) (.one (.own d)))else False) (BJ u) g
    | _=>False
 | .makeSlice t l c=>match d with
  | none=>False
  | some d=>match o t with
   | none=>False
   | some i=>match i.ty with
    | .slice e=>match o e with
     | none=>False
     | some j=>match ev g l with
      | some (.one (.v (.int _ l)))=>match ev g c with
       | some (.one (.v (.int _ c)))=>if da g d/\0<j.size/\0<j.bytes then
         Wo c l/\AO 0 l/\AO (Oy l (qI j.bytes)) 140737488355328/\∀J,TD J j.zero l.toNat->K (aK (aq g d (.row e l.toNat J)) (some d) (.one (.own d)))
        else False
       | _=>False
      | _=>False
    | _=>False
 | .store t a x=>match d with
  | some _=>False
  | none=>match ev g a with
   | none=>False
   | some a=>match ev g x with
    | none=>False
    | some x=>KI o g t a x K
 | .makeMap t r=>match d with
  | none=>False
  | some d=>match o t with
   | none=>False
   | some i=>match i.ty with
    | .map _ _=>match KK g r with
     | true=>∀b w,Tu g.O w b t->K (aK {g with O:=w} (some d) (.one (.v (.map (some b)))))
     | false=>False
    | _=>False
 | .lookup t m k Q=>match d with
  | none=>False
  | some d=>match o t with
   | none=>False
   | some i=>match i.ty with
    | .map E e=>match o E with
     | none=>False
     | some G=>match o e with
      | none=>False
      | some C=>match ev g m with
       | some (.one (.v (.map A)))=>match ev g k with
        | some (.one (.v kv))=>match KL G.ty kv with
         | true=>∃B,UU g.O A t B/\Iw (fM o 9 e) λ F u=>tp B kv C.agg C.zero F/\(if F.length=C.size then match jJ C.agg u with
           | some r=>match Q with
            | true=>K (aK g (some d) (.kz [(C.agg,u),(false,[.b (th B kv)])]))
            | false=>K (aK g (some d) r)
           | none=>False else False)
         | false=>False
        | _=>False
       | _=>False
    | _=>False
 | .mapUpdate t m k x=>match d with
  | some _=>False
  | none=>match o t with
   | none=>False
   | some i=>match i.ty with
    | .map E _=>match o E with
     | none=>False
     | some G=>match ev g m with
      | some (.one (.v (.map A)))=>match ev g k with
       | some (.one (.v kv))=>match KL G.ty kv with
        | true=>match ev g x with
         | some M=>match M.plain with
          | some T=>∃B,UW g.O A t B/\∀w,UX g.O w A t (fL B kv T)->K {g with O:=w}
          | none=>False
         | none=>False
        | false=>False
       | _=>False
      | _=>False
    | _=>False
 | .range t m=>match d with
  | none=>False
  | some d=>match o t with
   | none=>False
   | some i=>match i.ty with
    | .map _ _=>match ev g m with
     | some (.one (.v (.map A)))=>∃B,UW g.O A t B/\∀q h r w,Wv g.O w A t B q h r->K (aK {g with O:=w} (some d) (.one (.v (.pointer (some ⟨r,0,none⟩)))))
     | _=>False
    | _=>False
 | .next x b=>match d with
  | none=>False
  | some d=>match b with
   | true=>False
   | false=>match ev g x with
    | some (.one (.v (.pointer (some ⟨r,0,none⟩))))=>∃m h t q p I,g.O r=some (.it m h p I)/\g.O m=some (.Tt t q h)/\
      (Iu q p->K (aK g (some d) (.kz [(false,[.ff])])))/\
      ∀e w,CY e q p->Ww g.O w r m h p e->K (aK {g with O:=w} (some d) (.kz [(false,[.tt]),(false,[.v e.key]),(false,[.v e.val])]))
    | _=>False
 | .entry x=>match d with
  | none=>False
  | some d=>match ev g x with
   | some (.one (.v (.pointer (some ⟨r,0,none⟩))))=>match H.kz (1000000+d)with
    | some [E,et]=>match o E with
     | none=>False
     | some G=>match o et with
      | none=>False
      | some C=>∃m h t q p e,g.O r=some (.it m h p (some e))/\g.O m=some (.Tt t q h)/\UY e q/\
        Iw (fM o 9 E) λ F u=>isKey e (xJ G.agg F)/\Iw (fM o 9 et) λ S N=>isVal e (xJ C.agg S)/\K (aK g (some d) (.kz [(G.agg,u),(C.agg,N)]))
    | _=>False
   | _=>False
 | .call {callee:= .builtin .append,args,argTypes}=>match args.toList with
  |[s,x]=>match argTypes.toList with
   |[t,t']=>if t=t' then match ev g s with
    | none=>False
    | some s=>match ev g x with
     | none=>False
     | some x=>yq (H.Wz d) o g d t s x K
    else False
   | _=>False
  | _=>False
 | .call {callee:= .builtin .clear,args,argTypes}=>match args.toList with
  |[x]=>match argTypes.toList with
   |[t]=>match o t with
    | some i=>match i.ty with
     | .slice e=>match o e with
      | some j=>match ev g x with
       | some x=>Dh g d e j x K
       | none=>False
      | none=>False
     | _=>False
    | none=>False
   | _=>False
  | _=>False
 | .call {callee:= .builtin .copy,args,argTypes}=>match args.toList with
  |[x,y]=>match argTypes.toList with
   |[t,_]=>match o t with
    | some i=>match i.ty with
     | .slice e=>match o e with
      | some j=>match ev g x with
       | some x=>match ev g y with
        | some y=>IC g d e j x y K
        | none=>False
       | none=>False
      | none=>False
     | _=>False
    | none=>False
   | _=>False
  | _=>False
 | .call {callee:= .value f,args,.. }=>match ev g f with
  | some (.Fh f cap)=>Dg P o H L g d f (λ g=>match Iv g args.toList with
   | some D=>some (D++cap.map λ c=> .one (mx g c))
   | none=>none) K
  | some (.one (.v (.func (.func f) first cap)))=>match first.toList with
   |[]=>Dg P o H L g d f (λ g=>match Iv g args.toList with
    | some D=>some (D++cap.toList.map λ c=> .one (.v c))
    | none=>none) K
   | _=>False
  | _=>False
 | _=>False
def LY:Op->Bool
 | .alloc _ | .box _ _ | .buildSlice .. | .makeSlice .. | .store .. | .makeMap .. | .lookup .. | .mapUpdate .. | .range .. | .next .. | .entry .. =>false
 | .call {callee:= .builtin .append,.. } | .call {callee:= .builtin .clear,.. } | .call {callee:= .builtin .copy,.. } | .call {callee:= .value _,.. }=>false
 | _=>true
def TE (b:fh)(a:St)(d:Nat)(t:TypeId)(x:SV)(c:Option Operand)(K:St->Prop):Prop:=
 match b t with
 | none=>False
 | some i=>match i.ty with
  | .slice e=>match b e with
   | none=>False
   | some j=>match x with
    | .one (.own k)=>match gK a k with
     | some (.row e' n xs)=>match bound a c (qI n)with
      | some h=>if e'=e/\da a d then AO 0 h/\AO h (qI n)/\K (aK (aq (aq a k .dead) d (.row e h.toNat (yf xs n h.toNat))) (some d) (.one (.own d)))else False
      | none=>False
     | _=>False
    | .one (.v (.slice none 0 0))=>match bound a c 0 with
     | some h=>Wo h 0/\K (aK a (some d) (.one (.v (.slice none 0 0))))
     | none=>False
    | _=>False
  | _=>False
def RH (a:fI)(o:Oper):Option (Nat×TypeId×Operand×Option Operand):=match o.dst with
 | none=>none
 | some d=>match a.tr d with
  | true=>match o.op with
   | .slice t x none hi none=>some (d,t,x,hi)
   | _=>none
  | false=>none
def RI (a:fI)(o:Oper):Option (BinOp×TypeId×Operand×Operand×TypeId):=match o.dst with
 | none=>none
 | some d=>match a.wr d with
  | true=>match o.op with
   | .binOp b t x y u=>some (b,t,x,y,u)
   | _=>none
  | false=>none
def TF (c:St)(d:Option Tmp)(e:BinOp)(x y:SV)(K:St->Prop):Prop:=
 match x with
 | .one (.v (.int k a))=>match y with
  | .one (.v (.int k' b))=>if k=k' then match e with
   | .add=>K (aK c d (.one (.v (.int k (k.wrap (Is a b))))))
   | .sub=>K (aK c d (.one (.v (.int k (k.wrap (RC a b))))))
   | .mul=>K (aK c d (.one (.v (.int k (k.wrap (Oy a b))))))
   | _=>False
   else False
  | _=>False
 | _=>False
def yt (P:Program)(c:fh)(b:fI)(a:St)(o:Oper)(K:St->Prop):Prop:=
 match RH b o with
 | some (d,t,x,hi)=>match ev a x with
  | some x=>TE c a d t x hi K
  | none=>False
 | none=>match RI b o with
 | some (op,_,x,y,_)=>match ev a x with
  | none=>False
  | some x=>match ev a y with
   | none=>False
   | some y=>TF a o.dst op x y K
 | none=>match LY o.op with
 | true=>yj c a o.op λ r=>K (aK a o.dst r)
 | false=>iC P c b a o.dst o.type o.op K
inductive It where
 | op (i:Nat)
 | fork (i:Nat)
def tq (l:List Oper)(j:Nat):Option Tmp:=match l[j]? with
 | some o=>o.dst
 | none=>none
def WA (x v:Bool):Prop:=x=v
def Xj (v:Bool):SV:=match v with
 | true=> .one .tt
 | false=> .one .ff
def Wp (c:fI)(d:Option Tmp)(a:St)(K:St->Prop):Prop:=
 match d with
 | none=>K a
 | some d=>match c.kb d with
  | none=>K a
  | some v=>match a.fr[d]? with
   | some (.one (.b x))=>WA x v/\K (aK a (some d) (Xj v))
   | _=>K a
def Di (l:List Oper)(j:Nat)(a:St)(K:St->Prop):Prop:=
 match tq l j with
 | none=>K a
 | some d=>match a.fr[d]? with
  | some (.one (.b x))=>(x=true->K (aK a (some d) (.one .tt)))/\(x=false->K (aK a (some d) (.one .ff)))
  | some (.one (.v (.bool x)))=>(x=true->K (aK a (some d) (.one .tt)))/\(x=false->K (aK a (some d) (.one .ff)))
  | _=>K a
def BM (P:Program)(c:fh)(b:fI)(l:List Oper)(a:St)(o:Oper)(K:St->Prop):Prop:=
 match o.guard with
 | none=>yt P c b a o K
 | some (j,want)=>match tq l j with
  | none=>False
  | some d=>match a.fr[d]? with
   | some (.one .tt)=>match want with
    | true=>yt P c b a o K
    | false=>K (aK a o.dst (.one .un))
   | some (.one .ff)=>match want with
    | false=>yt P c b a o K
    | true=>K (aK a o.dst (.one .un))
   | some (.one .un)=>K (aK a o.dst (.one .un))
   | _=>False
def nu (P:Program)(d:fh)(c:fI)(l:List Oper)(K:St->Prop):List It->St->Prop
 |[],st=>K st
 | .op i::is,st=>match l[i]? with
  | some o=>BM P d c l st o λ a=>Wp c o.dst a λ b=>nu P d c l K is b
  | none=>False
 | .fork i::is,st=>Di l i st λ a=>nu P d c l K is a
def guards (l:List Oper)(i:Nat):Bool:=match l with
 |[]=>false
 | o::l=>match o.guard with
  | some (j,_)=>if i=j then true else guards l i
  | none=>guards l i
def qM (l:List Oper):List Nat->List It
 |[]=>[]
 | i::is=>match guards l i with
  | true=> .op i:: .fork i::qM l is
  | false=> .op i::qM l is
def cU:List Oper->List Nat
 |[]=>[]
 | o::l=>match o.dst with
  | some d=>d::cU l
  | none=>cU l
def cu:Code->Nat
 | .region id _ _=>id
 | .seq a _=>cu a
 | .cond _ a _=>cu a
 | .block _ c=>cu c
 | .loop c=>cu c
 | .scope c=>cu c
 | _=>0
def gu:List Item->List Nat
 |[]=>[]
 | .slot d _ _::is=>d::gu is
 | _::is=>gu is
def writes (d:fI):Code->List Nat
 | .region id ops _=>d.pa id++cU ops.toList
 | .seq a b=>writes d a++writes d b
 | .cond _ a b=>writes d a++writes d b
 | .block _ c=>writes d c
 | .loop c=>gu (d.lt (cu c))++writes d c
 | .scope c=>writes d c
 | _=>[]
def mc:List aI->List Nat
 |[]=>[]
 | .row i _::ls=>i::mc ls
 | _::ls=>mc ls
def gR:List Item->List Nat
 |[]=>[]
 | .slot _ _ ls::is=>mc ls++gR is
 | .box _ _ ls::is=>mc ls++gR is
 | .arr _ _::is=>gR is
 | .im _ _::is=>gR is
def ID (a:fI):List Nat->List Nat
 |[]=>[]
 | d::ds=>match a.res d with
  | some b=>b.parts.flatMap (λ x=>mc x.2)++ID a ds
  | none=>ID a ds
def Fm (a:fI):List Oper->List Nat
 |[]=>[]
 | o::os=>match o.op with
  | .call {callee:= .value (.func f),.. }=>match a.bx o.dst f with
   | some b=>mc b++Fm a os
   | none=>Fm a os
  | _=>Fm a os
def my (d:fI):Code->List Nat
 | .region id ops _=>cU ops.toList++ID d (cU ops.toList)++Fm (d.at id) ops.toList
 | .seq a b=>my d a++my d b
 | .cond _ a b=>my d a++my d b
 | .block _ c=>my d c
 | .loop c=>gR (d.lt (cu c))++my d c
 | .scope c=>my d c
 | _=>[]
def Fo:List Nat->List SV->List SV
 |[],fr=>fr
 | d::ds,fr=>Fo ds (fr.set d (.one .any))
def Fp:List Nat->List (Option ti)->List (Option ti)
 |[],L=>L
 | d::ds,L=>Fp ds (L.set d none)
def lock:List (Option ti)->List (Option ti)
 |[]=>[]
 | some (_,o)::L=>some (false,o)::lock L
 | none::L=>none::lock L
def unlock:List (Option ti)->List (Option ti)->List (Option ti)
 | some (true,_)::L,some (_,o)::L'=>some (true,o)::unlock L L'
 | _::L,x::L'=>x::unlock L L'
 | _,L'=>L'
def lE:List Item->List (Option ti)->List (Option ti)
 |[],L=>L
 | .slot _ _ _::is,L=>lE is L
 | .box i _ _::is,L=>lE is (L.set i (some (false,.dead)))
 | .arr i _::is,L=>lE is (L.set i (some (false,.dead)))
 | .im i _::is,L=>lE is (L.set i (some (false,.dead)))
def eH (b:fI)(c:Code)(a:List Item)(d:St)(H:Heap)(O:aU):St:=
 {fr:=Fo (gu a) (Fo (writes b c) d.fr),L:=lE a (Fp (gR a) (Fp (my b c) (lock d.L))),H:=H,O:=O}
def jk:List Item->Type->Type
 |[],R=>R
 | .slot _ _ ls::is,R=>bz ls (jk is R)
 | .box _ _ ls::is,R=>bz ls (jk is R)
 | .arr _ _::is,R=>G'->jk is R
 | .im _ _::is,R=>Nat->G'->jk is R
def allI:(b:List Item)->{R:Type}->jk b R->St->(St->R->Prop)->Prop
 |[],_,p,a,K=>K a p
 | .slot d g ls::b,_,p,a,K=>nt ls p a λ f a q=>match jJ g f with
  | some x=>allI b q (aK a (some d) x) K
  | none=>False
 | .box i t ls::b,_,p,a,K=>nt ls p a λ f a q=>allI b q (aq a i (.box t f)) K
 | .arr i t::b,_,p,a,K=>∀c,allI b (p c) (aq a i (.arr t c)) K
 | .im i e::b,_,p,a,K=>match kg a i with
  | some .dead=>∀n c,allI b (p n c) (aq a i (.row e n c)) K
  | _=>False
def jK:(a:List Item)->{R:Type}->jk a R->St->Option (R×St)
 |[],_,p,st=>some (p,st)
 | .slot d g ls::a,_,p,st=>match st.fr[d]? with
  | some x=>match g,Fi st x with
   | true,.agg cs=>match dx ls p cs st with
    | some (q,st)=>jK a q st
    | none=>none
   | false,.one c=>match dx ls p [c] st with
    | some (q,st)=>jK a q st
    | none=>none
   | _,_=>none
  | none=>none
 | .box i t ls::a,_,p,st=>match gK st i with
  | some (.box t' cs)=>if t'=t then match dx ls p (cs.map (mx st)) st with
   | some (q,st)=>jK a q st
   | none=>none
   else none
  | _=>none
 | .arr i t::a,_,p,st=>match gK st i with
  | some (.arr t' xs)=>if t'=t then jK a (p xs) st else none
  | _=>none
 | .im i e::a,_,p,st=>match gK st i with
  | some (.row e' n xs)=>if e'=e then jK a (p n xs) (aq st i .dead)else none
  | _=>none
def AS {A B C:Type}:(a:List aI)->bz a A->bz a B->(A->B->C)->bz a C
 |[],p,q,f=>f p q
 | .int _::a,p,q,f=>λ n=>AS a (p n) (q n) f
 | .bool::a,p,q,f=>λ n=>AS a (p n) (q n) f
 | .str::a,p,q,f=>λ n=>AS a (p n) (q n) f
 | .sl::a,p,q,f=>λ A n c=>AS a (p A n c) (q A n c) f
 | .mp::a,p,q,f=>λ n=>AS a (p n) (q n) f
 | .val::a,p,q,f=>λ n=>AS a (p n) (q n) f
 | .cells::a,p,q,f=>λ n=>AS a (p n) (q n) f
 | .row _ _::a,p,q,f=>λ n b=>AS a (p n b) (q n b) f
def Fq {A B:Type}:(a:List Item)->jk a A->jk a B->jk a (A×B)
 |[],p,q=>(p,q)
 | .slot _ _ ls::a,p,q=>AS ls p q (Fq a)
 | .box _ _ ls::a,p,q=>AS ls p q (Fq a)
 | .arr _ _::a,p,q=>λ b=>Fq a (p b) (q b)
 | .im _ _::a,p,q=>λ n b=>Fq a (p n b) (q n b)
def tu (a:St):List Nat->Bool
 |[]=>true
 | d::ds=>da a d&&tu a ds
def Zy (a b:Nat):Prop:=a<b
def BN:List aI->List S1->List Nat
 | .row _ _::ls,_::cs=>BN ls cs
 | _::ls,.own i::cs=>i::BN ls cs
 | _::ls,_::cs=>BN ls cs
 | _,_=>[]
def LZ:List Item->St->List Nat
 |[],_=>[]
 | .slot d _ ls::is,st=>(match st.fr[d]? with
  | some x=>match Fi st x with
   | .agg a=>BN ls a
   | .one c=>BN ls [c]
   | _=>[]
  | none=>[])++LZ is st
 | .box i _ ls::is,st=>(match gK st i with
  | some (.box _ a)=>BN ls (a.map (mx st))
  | _=>[])++LZ is st
 | .arr _ _::is,st=>LZ is st
 | .im _ _::is,st=>LZ is st
def HP (o:Bool):Type:=match o with
 | true=>Heap->aU->Prop
 | false=>Heap->Prop
def UL (o:Bool)(p:HP o)(H:Heap)(O:aU):Prop:=match o,p with
 | true,p=>p H O
 | false,p=>p H
def MP (o:Bool):Type:=match o with
 | true=>aU->Nat
 | false=>Nat
def Te (o:Bool)(m:MP o)(O:aU):Nat:=match o,m with
 | true,m=>m O
 | false,m=>m
def Vi (o:Bool)(K:aU->Prop):Prop:=match o with
 | true=>∀O,K O
 | false=>K ux
def Vj (o c:Bool)(b:List Item)(p:jk b (HP o×MP c))(m:Nat)(a:St):Prop:=
 gQ (λ a=>match jK b p a with
  | some (x,_)=>UL o x.1 a.H a.O/\Zy (Te c x.2 a.O) m
  | none=>False) (LZ b a) a
def yu (a:St):Op->Option Nat
 | .store _ x _=>match ev a x with
  | some (.one (.loc o _))=>some o
  | some (.one (.oS o _))=>some o
  | _=>none
 | _=>none
def yw (b:St)(o:Oper):Option (FuncId×List SV):=match o.op with
 | .call {callee:= .value f,args,.. }=>match ev b f with
  | some (.Fh f cap)=>match Iv b args.toList with
   | some a=>some (f,a++cap.map λ c=> .one (mx b c))
   | none=>none
  | some (.one (.v (.func (.func f) first cap)))=>match first.toList with
   |[]=>match Iv b args.toList with
    | some a=>some (f,a++cap.toList.map λ c=> .one (.v c))
    | none=>none
   | _=>none
  | _=>none
 | _=>none
def Fs (a:fI)(b:St)(o:Oper):Option Nat:=match yw b o with
 | some (f,as_)=>match a.bx o.dst f with
  | some _=>pj as_
  | none=>none
 | none=>none
def mz (W:List Nat):Nat->List (Option ti)->List (Option ti)
 | _,[]=>[]
 | i,none::L=>none::mz W (i+1) L
 | i,some (f,o)::L=>(match o with
  | .row _ _ _=>some (false,.dead)
  | o=>if W.contains i then some (false,.dead)else some (f,o))::mz W (i+1) L
def ny (W:List Nat)(a:St):St:={a with L:=mz W 0 a.L}
def rootOf (l:List Oper):Nat->Operand->Operand
 | 0,x=>x
 | n+1,x=>match x with
  | .tmp t=>match l.find? (λ o=>o.dst==some t)with
   | some o=>match o.op with
    | .fieldAddr _ y _=>rootOf l n y
    | .indexAddr _ y _=>rootOf l n y
    | .move y=>rootOf l n y
    | .assign y=>rootOf l n y
    | .nilCheck y=>rootOf l n y
    | _=>x
   | none=>x
  | x=>x
def waits (o:Oper)(i:Nat):Bool:=o.after.toList.any λ e=>e.on==i&&Region.binds .any e
def Dj (o:Oper):Bool:=match o.op with
 | .store _ _ _=>true
 | _=>false
def IE (l:List Oper)(o:Oper)(i:Nat):Bool:=waits o i||o.after.toList.any λ e=>Region.binds .any e&&match l[e.on]? with
 | some a=>waits a i
 | none=>false
def mA (a:List Oper)(o:Oper):List Oper->Nat->Bool
 |[],_=>true
 | x::l,i=>(Dj x||IE a o i)&&mA a o l (i+1)
def xK (l:List Oper):List Oper->Bool
 |[]=>true
 | o::os=>(!Dj o||mA l o l 0)&&xK l os
def late (l:List Oper)(o:Oper):Bool:=match Dj o with
 | true=>xK l l
 | false=>false
def OJ (l:List Oper)(t:Nat):Bool:=
 match l.find? (λ o=>o.dst==some t)with
 | some o=>match o.op with
  | .alloc _=>true
  | .box _ _=>true
  | _=>false
 | none=>false
def pk (l:List Oper)(a:St):List Oper->List Nat
 |[]=>[]
 | o::os=>match o.op with
  | .store _ x _=>match late l o with
   | true=>pk l a os
   | false=>match rootOf l 5 x with
    | .tmp t=>match OJ l t with
     | true=>t::pk l a os
     | false=>match ev a (.tmp t)with
      | some (.one (.loc o _))=>o::pk l a os
      | some (.one (.oS o _))=>o::pk l a os
      | _=>pk l a os
    | _=>pk l a os
  | _=>pk l a os
def tv (l:List Oper)(a:St):List Operand->List Nat
 |[]=>[]
 | x::xs=>match rootOf l 5 x with
  | .tmp t=>match OJ l t with
   | true=>t::tv l a xs
   | false=>match ev a (.tmp t)with
    | some (.one (.loc o _))=>o::tv l a xs
    | _=>tv l a xs
  | _=>tv l a xs
def Dk (a:fI)(l:List Oper)(b:St):List Oper->List Nat
 |[]=>[]
 | o::os=>match o.op with
  | .call {callee:= .value (.func f),args,.. }=>match a.bx o.dst f with
   | some _=>tv l b args.toList++Dk a l b os
   | none=>Dk a l b os
  | _=>Dk a l b os
def RJ (W:List Nat)(b:St)(a:Op):Bool:=match yu b a with
 | some o=>W.contains o
 | none=>true
def RM (a:fI)(W:List Nat)(b:St)(o:Oper):Bool:=match Fs a b o with
 | some i=>W.contains i
 | none=>true
def IF (b:fh)(W:List Nat)(l:List Oper)(a:St)(o:Oper)(K:St->Prop):Prop:=
 match o.guard with
 | none=>yj b (ny W a) o.op λ r=>K (aK a o.dst r)
 | some (j,want)=>match tq l j with
  | none=>False
  | some d=>match a.fr[d]? with
   | some (.one .tt)=>match want with
    | true=>yj b (ny W a) o.op λ r=>K (aK a o.dst r)
    | false=>K (aK a o.dst (.one .un))
   | some (.one .ff)=>match want with
    | false=>yj b (ny W a) o.op λ r=>K (aK a o.dst r)
    | true=>K (aK a o.dst (.one .un))
   | some (.one .un)=>K (aK a o.dst (.one .un))
   | _=>False
def yx (b:fI)(l:List Oper)(i:Nat)(a:St)(K:St->Prop):Prop:=
 Wp b (tq l i) a λ a=>match guards l i with
 | true=>Di l i a K
 | false=>K a
def Dl (b:Array Oper)(a:Array Bool)(j:Nat):Bool:=
 !a.getD j true&&match b[j]? with
 | some o=>o.after.toList.all λ e=> !Region.binds .any e||a.getD e.on false
 | none=>false
def Vk (a:Array Oper)(j:Nat):Bool:=match a[j]? with
 | some o=>LY o.op
 | none=>false
def jl (a:Array Oper):Bool->Nat->Array Bool->IA->Bool
 | _,_,listed,.done=>(Region.ready .any a listed).isEmpty
 | b,_,_,.fin=>b
 | _,0,_,.take _ _=>false
 | _,n+1,listed,.take j r=>match Dl a listed j&&Vk a j&&Region.free .any a listed j with
  | true=>jl a false n (listed.setIfInBounds j true) r
  | false=>false
 | _,0,_,.alt _ _ _=>false
 | b,n+1,listed,.alt j r rest=>match(b||Region.ready .any a listed==j::rest.ids)&&jl a false n (listed.setIfInBounds j true) r with
  | true=>jl a true (n+1) listed rest
  | false=>false
def mB (P:Program)(e:fh)(c:fI)(a:Array Oper)(W:List Nat)(K:St->Prop):IA->St->Prop
 | .done,st=>K st
 | .fin,_=>True
 | .take j r,st=>match a[j]? with
  | some o=>IF e W a.toList st o λ d=>yx c a.toList j d λ b=>mB P e c a W K r b
  | none=>False
 | .alt j r rest,st=>match rest with
  | .alt g h f=>(match a[j]? with
   | some o=>match late a.toList o||(RJ W st o.op&&RM c W st o)with
    | true=>BM P e c a.toList st o λ d=>yx c a.toList j d λ b=>mB P e c a W K r b
    | false=>False
   | none=>False)/\mB P e c a W K (.alt g h f) st
  | _=>match a[j]? with
   | some o=>match late a.toList o||(RJ W st o.op&&RM c W st o)with
    | true=>BM P e c a.toList st o λ d=>yx c a.toList j d λ b=>mB P e c a W K r b
    | false=>False
   | none=>False
def aeB:Nat->Nat->List Nat
 | 0,_=>[]
 | n+1,i=>i::aeB n (i+1)
def AT (P:Program)(h:fh)(d:fI):Code->(Exit->St->Prop)->St->Prop
 | .skip,K,f=>K .normal f
 | .label _,K,f=>K .normal f
 | .region id ops draw,K,f=>match draw with
  | false=>nu P h (d.at id) ops.toList (λ f=>BL (K .normal) (d.pa id) f) (qM ops.toList (aeB ops.toList.length 0)) f
  | true=>match Region.noSelect ops with
   | true=>match jl ops false ops.size (Array.replicate ops.size false) (d.sch id)with
    | true=>mB P h (d.at id) ops (pk ops.toList f ops.toList++Dk (d.at id) ops.toList f ops.toList++d.bxt id) (λ f=>BL (K .normal) (d.pa id) f) (d.sch id) f
    | false=>False
   | false=>False
 | .seq a b,K,f=>AT P h d a (λ e g=>match e with
   | .normal=>AT P h d b K g
   | e=>K e g) f
 | .cond c a b,K,f=>match ev f c with
  | some (.one .tt)=>AT P h d a K f
  | some (.one .ff)=>AT P h d b K f
  | some (.one (.b x))=>(x=true->AT P h d a K f)/\(x=false->AT P h d b K f)
  | some (.one (.v (.bool x)))=>(x=true->AT P h d a K f)/\(x=false->AT P h d b K f)
  | _=>False
 | .block id c,K,f=>AT P h d c (λ e g=>match e with
   | .exit j=>if j=id then K .normal g else K (.exit j) g
   | e=>K e g) f
 | .loop c,K,f=>∃(i:jk (d.lt (cu c)) (HP d.opn)) (k:jk (d.lt (cu c)) (MP d.mm)),
   gQ (λ f=>if tu f (gR (d.lt (cu c))++my d c)then
    match jK (d.lt (cu c)) (Fq (d.lt (cu c)) i k) f with
    | some (x,st2)=>UL d.opn x.1 f.H f.O/\
     ∀m,Heap.le f.H m->Vi d.opn λ l=>allI (d.lt (cu c)) (Fq (d.lt (cu c)) i k) (eH d c (d.lt (cu c)) st2 m l) λ n y=>UL d.opn y.1 m l->
      AT P h d c (λ e g=>match e with
       | .normal=>Vj d.opn d.mm (d.lt (cu c)) (Fq (d.lt (cu c)) i k) (Te d.mm y.2 l) g
       | e=>K e {g with L:=unlock st2.L g.L}) n
    | none=>False
    else False) (LZ (d.lt (cu c)) f) f
 | .scope c,K,f=>AT P h d c (λ e g=>match e with
   | .goto _=>False
   | e=>K e g) f
 | .exit id,K,f=>K (.exit id) f
 | .ret,K,f=>K .ret f
 | _,_,_=>False
def IG (c:fh)(b:St):ResultVar->Option SV
 | .tmp t=>match b.fr[t]? with
  | some x=>some (Fi b x)
  | none=>none
 | .cell a t=>match b.fr[a]? with
  | some (.one (.loc o 0))=>match kg b o with
   | some (.box _ cs)=>match c t with
    | some i=>if cs.length=i.size then jJ i.agg (cs.map (mx b))else none
    | none=>none
   | _=>none
  | _=>none
def mf (a:fh)(b:St):List ResultVar->Option (List SV)
 |[]=>some []
 | r::rs=>match IG a b r with
  | some x=>match mf a b rs with
   | some c=>some (x::c)
   | none=>none
  | none=>none
def RN:List aI->List S1->List Nat
 | .row _ _::ls,_::cs=>RN ls cs
 | _::ls,.own i::cs=>i::RN ls cs
 | _::ls,_::cs=>RN ls cs
 | _,_=>[]
def RO:List (Bool×List aI)->List SV->List Nat
 |(_,ls)::ps,x::xs=>(match x.cells with
  | some a=>RN ls a
  | none=>[])++RO ps xs
 | _,_=>[]
def KM (f:fh)(d:List ResultVar)(c:cj)(b:bo c.parts (Heap->Prop))(a:St):Prop:=
 if c.kz=(d.length !=1)then match mf f a d with
 | none=>False
 | some e=>gQ (λ a=>match mf f a d with
  | none=>False
  | some e=>match AR c.parts b e a with
   | some (q,_)=>q a.H
   | none=>False) (RO c.parts e) a
 else False
def Vl (f:fh)(c:List ResultVar)(b:cj)(a:bo b.parts (Heap->Prop))(e:Exit)(d:St):Prop:=
 match e with
 | .normal=>KM f c b a d
 | .ret=>KM f c b a d
 | _=>False
def vU:Value->SV
 | .agg a=> .agg (a.toList.map S1.v)
 | .pointer (some ⟨b,o,none⟩)=> .one (.lx (some ⟨b,o,none⟩) 0)
 | x=> .one (.v x)
def Om (a:G')(n b:Nat)(H:Heap):St:=
 {fr:=a.map vU++List.replicate (n-a.length) (.one .un),L:=List.replicate (n+b) none,H:=H,O:=ux}
def TG (P:Program)(f:fh)(h:fI)(e:Func)(d:G')(a:Nat)(H:Heap)(g:cj)(b:bo g.parts (Heap->Prop)):Prop:=
 match e.body with
 | none=>False
 | some c=>AT P f h c (Vl f e.results.toList g b) (Om d e.ntmps a H)
def Ft (b:G')(k n a:Nat)(e:TypeId)(m:Nat)(c:G')(H:Heap):St:=
 {fr:=(b.map vU).set k (.one (.own (n+a)))++List.replicate (n-b.length) (.one .un),L:=List.replicate (n+a) none++[some (true,.row e m c)],H:=H,O:=ux}
def OK (P:Program)(g:fh)(i:fI)(f:Func)(d:G')(k:Nat)(e:TypeId)(m:Nat)(j:G')(a:Nat)(H:Heap)(h:cj)(b:bo h.parts (Heap->Prop)):Prop:=
 match f.body with
 | none=>False
 | some c=>AT P g i c (Vl g f.results.toList h b) (Ft d k f.ntmps a e m j H)
def Fu (b:G')(k n a:Nat)(s:Value)(e:TypeId)(m:Nat)(c:G')(H:Heap):St:=
 {fr:=(b.map vU).set k (.one (.Rq (n+a) s))++List.replicate (n-b.length) (.one .un),L:=List.replicate (n+a) none++[some (true,.row e m c)],H:=H,O:=ux}
def Zz (a b:Value):Prop:=a=b
def Xk (a b:Nat):Prop:=a=b
def Fv (c:List ResultVar)(k i:Nat)(s:Value)(e:TypeId)(m:Nat)(a:G'->Heap->Prop)(b:St):Prop:=
 match c with
 | _::_=>False
 |[]=>match b.fr[k]? with
  | some (.one (.Rq i' s'))=>if i'=i then match kg b i with
   | some (.row e' n ys)=>if e'=e then Zz s' s/\Xk n m/\a ys b.H else False
   | _=>False
   else False
  | _=>False
def Vm (b:List ResultVar)(k i:Nat)(s:Value)(e:TypeId)(m:Nat)(a:G'->Heap->Prop)(d:Exit)(c:St):Prop:=
 match d with
 | .normal=>Fv b k i s e m a c
 | .ret=>Fv b k i s e m a c
 | _=>False
def OL (P:Program)(i:fh)(g:fI)(f:Func)(d:G')(k:Nat)(e:TypeId)(m:Nat)(h:G')(a:Nat)(H:Heap)(b:G'->Heap->Prop):Prop:=
 match f.body with
 | none=>False
 | some c=>∀s,AT P i g c (Vm f.results.toList k (f.ntmps+a) s e m b) (Fu d k f.ntmps a s e m h H)
def po:List BC->Nat->List S1
 |[],_=>[]
 | .v x::cs,k=> .v x::po cs k
 | .row _ _ _::cs,k=> .own k::po cs (k+1)
def Fw:List BC->List (Option ti)
 |[]=>[]
 | .v _::cs=>Fw cs
 | .row e n xs::cs=>some (true,.row e n xs)::Fw cs
def BO:List BC->Nat->Nat
 | .row _ _ _::cs,p+1=>BO cs p+1
 | .v _::cs,p+1=>BO cs p
 | _,_=>0
def oI (a:List BC):List BA->Prop
 |[]=>True
 | .lx p _::as_=>(match a[p]? with
  | some (.row _ n _)=>0<n
  | _=>False)/\oI a as_
 | _::as_=>oI a as_
def WB (N a:Nat)(b:List BC):BA->SV
 | .v x=>vU x
 | .me=> .one (.me N a)
 | .lx p j=> .one (.kH (N+1+BO b p) j)
def OM (c:List BA)(n b a:Nat)(t:TypeId)(d:List BC)(H:Heap)(O:aU):St:=
 {fr:=c.map (WB (n+b) a d)++List.replicate (n-c.length) (.one .un),L:=List.replicate (n+b) none++some (true,.box t (po d (n+b+1)))::Fw d,H:=H,O:=O}
def Dm (h:fh)(f:List ResultVar)(k N a:Nat)(t:TypeId)(j:List aI)(e:cj)(d:bz j (bo e.parts (Heap->aU->Prop)))(c:St):Prop:=
 if e.kz=(f.length !=1)then match mf h c f with
 | none=>False
 | some g=>gQ (λ c=>match mf h c f with
  | none=>False
  | some g=>match c.fr[k]? with
   | some (.one (.me i b))=>match kg c i with
    | some (.box t' cs)=>if i=N/\t'=t then Xk b a/\(match dx j d (cs.map (mx c)) c with
     | some (q,st2)=>match AR e.parts q g st2 with
      | some (p,_)=>p c.H c.O
      | none=>False
     | none=>False)else False
    | _=>False
   | _=>False) (RO e.parts g) c
 else False
def Vn (g:fh)(f:List ResultVar)(k N a:Nat)(t:TypeId)(d:List aI)(c:cj)(b:bz d (bo c.parts (Heap->aU->Prop)))(e:Exit)(h:St):Prop:=
 match e with
 | .normal=>Dm g f k N a t d c b h
 | .ret=>Dm g f k N a t d c b h
 | _=>False
def ON (P:Program)(h:fh)(l:fI)(f:Func)(e:List BA)(k:Nat)(t:TypeId)(g:List BC)(b:Nat)(H:Heap)(O:aU)(i:List aI)(j:cj)(d:bz i (bo j.parts (Heap->aU->Prop))):Prop:=
 match f.body with
 | none=>False
 | some c=>∀a,AT P h l c (Vn h f.results.toList k (f.ntmps+b) a t i j d) (OM e f.ntmps b a t g H O)
def Dn (f:fh)(d:List ResultVar)(c:cj)(b:bo c.parts (Heap->aU->Prop))(a:St):Prop:=
 if c.kz=(d.length !=1)then match mf f a d with
 | none=>False
 | some e=>gQ (λ a=>match mf f a d with
  | none=>False
  | some e=>match AR c.parts b e a with
   | some (q,_)=>q a.H (pf a.O)
   | none=>False) (RO c.parts e) a
 else False
def Dp:List (Bool×List aI)->Bool
 |[]=>true
 |(_,ls)::r=>(mc ls).isEmpty&&Dp r
def Vo (f:fh)(c:List ResultVar)(b:cj)(a:bo b.parts (Heap->aU->Prop))(e:Exit)(d:St):Prop:=
 match e with
 | .normal=>Dn f c b a d
 | .ret=>Dn f c b a d
 | _=>False
def OO (P:Program)(g:fh)(h:fI)(e:Func)(d:G')(a:Nat)(H:Heap)(O:aU)(f:cj)(b:bo f.parts (Heap->aU->Prop)):Prop:=
 match e.body with
 | none=>False
 | some c=>if Dp f.parts then AT P g h c (Vo g e.results.toList f b) {Om d e.ntmps a H with O:=O}else False
end
section
section
variable (ρ:Nat->Nat)(σ:Nat->Value)
def S1.rel:S1->Value->Prop
 | .any,_=>True
 | .un,y=>y=undef
 | .v x,y=>y=x
 | .b x,y=>y= .bool x
 | .tt,y=>y= .bool true
 | .ff,y=>y= .bool false
 | .loc i off,y=>y= .pointer (some ⟨ρ i,off,none⟩)
 | .oS i j,y=>y= .pointer (some ⟨ρ i,j,none⟩)
 | .lx A j,y=>∃b o,A=some ⟨b,o,none⟩/\y= .pointer (some ⟨b,o+j,none⟩)
 | .kH i j,y=>∃g n c,σ i= .slice (some ⟨g,0,none⟩) n c/\y= .pointer (some ⟨g,j,none⟩)
 | .own i,y=>y=σ i
 | .sub i l m sz,y=>∃A n c,σ i= .slice A n c/\l+m<=n/\y= .slice (eM A c l sz) m (c-l)
 | .Rq i s,y=>y=σ i/\y=s
 | .me i bk,y=>y= .pointer (some ⟨ρ i,0,none⟩)/\ρ i=bk
def bO:List S1->G'->Prop
 |[],[]=>True
 | c::cs,y::ys=>c.rel ρ σ y/\bO cs ys
 | _,_=>False
def oT:List (Bool×List S1)->G'->Prop
 |[],[]=>True
 |(true,c)::cs,y::ys=>(∃a:Array Value,y= .agg a/\bO ρ σ c a.toList)/\oT cs ys
 |(false,c)::cs,y::ys=>bO ρ σ c [y]/\oT cs ys
 | _,_=>False
def SV.rel:SV->Value->Prop
 | .one x,y=>x.rel ρ σ y
 | .agg cs,y=>∃a:Array Value,y= .agg a/\bO ρ σ cs a.toList
 | .Fh f cap,y=>∃a:Array Value,y= .func (.func f) #[] a/\bO ρ σ cap a.toList
 | .kz cs,y=>∃a:Array Value,y= .tuple a/\oT ρ σ cs a.toList
end
def S1.refs (d:Nat):S1->Prop
 | .loc i _=>i=d
 | .oS i _=>i=d
 | .kH i _=>i=d
 | .own i=>i=d
 | .sub i _ _ _=>i=d
 | .Rq i _=>i=d
 | .me i _=>i=d
 | _=>False
def dI (d:Nat)(a:List S1):Prop:=∃c∈a,c.refs d
def SV.refs (d:Nat):SV->Prop
 | .one x=>x.refs d
 | .agg b=>dI d b
 | .Fh _ a=>dI d a
 | .kz b=>∃x∈b,dI d x.2
def bL.refs (d:Nat):bL->Prop
 | .box _ a=>dI d a
 | _=>False
structure St.eN (st:St)(d:Nat):Prop where
 fr:∀(j:Nat) (x:SV),st.fr[j]?=some x->¬x.refs d
 obj:∀(j:Nat) (f:Bool) (o:bL),st.L[j]?=some (some (f,o))->¬o.refs d
def dj (P:Program)(w0:W0)(w:World)(H:Heap)(ρ:Nat->Nat)(σ:Nat->Value)(i:Nat):bL->Prop
 | .box t d=>∃b:Array Value,w.heap[ρ i]?=some (.cells b t (0,0))/\bO ρ σ d b.toList/\w0.nw (ρ i)/\∀o,H (ρ i) o=none
 | .arr t a=>w.heap[ρ i]?=some (.cells ⟨a⟩ t (0,0))/\(∀x∈a,x.oneCell'=true)/\w0.nw (ρ i)/\∀o,H (ρ i) o=none
 | .row e n a=>kJ w w0 e (P.cellsOf e) (σ i) n a/\(∀x∈a,x.oneCell'=true)/\∀g,(σ i).ownBlock=some g->∀o,H g o=none
 | .Ff A n c=>σ i= .slice A n c
 | .dead=>True
def dy (ρ:Nat->Nat)(σ:Nat->Value)(i:Nat):bL->Option Nat
 | .box _ _=>some (ρ i)
 | .arr _ _=>some (ρ i)
 | .row _ _ _=>(σ i).ownBlock
 | _=>none
def OP (P:Program)(w0:W0)(w:World)(H:Heap)(b:Nat)(x:XO):Prop:=
 w0.nw (b)/\(∃a,w.heap[b]?=some a/\UK P x a)/\∀t,BI P x t->H b t=none
structure Good (P:Program)(w0:W0)(H0:Heap)(st:St)(a:Act)(w:World)(ρ:Nat->Nat)(σ:Nat->Value):Prop where
 defers:a.defers=[]
 size:a.tmps.size=st.fr.length
 fr:∀(i:Nat) (x:SV),st.fr[i]?=some x->x.rel ρ σ (a.tmps.getD i undef)
 below:ns w0.w w w0.g
 le:Heap.le H0 st.H
 ef:∀b,¬w0.nw b->∀o,st.H b o=H0 b o
 snap:ct st.H w
 obj:∀i f o,st.L[i]?=some (some (f,o))->dj P w0 w st.H ρ σ i o
 sep:∀i j f f' o o' g,i≠j->st.L[i]?=some (some (f,o))->st.L[j]?=some (some (f',o'))->dy ρ σ i o=some g->dy ρ σ j o'≠some g
 nr:∀d,st.L[d]?=some none->st.eN d
 sl:∀i,∃A n c,σ i= .slice A n c
 opn:∀b x,st.O b=some x->OP P w0 w st.H b x/\∀i f o,st.L[i]?=some (some (f,o))->dy ρ σ i o≠some b
section
variable {ρ:Nat->Nat}{σ:Nat->Value}
theorem cX:∀{b:List S1} {a:G'},bO ρ σ b a->b.length=a.length
 |[],[],_=>rfl
 | _::_,_::_,h=>by simp[cX h.2]
 |[],_::_,h=>h.elim
 | _::_,[],h=>h.elim
theorem jm:∀{c b:List S1} {d a:G'},bO ρ σ c d->bO ρ σ b a->bO ρ σ (c++b) (d++a)
 |[],_,[],_,_,h'=>h'
 | _::_,_,_::_,_,h,h'=>⟨h.1,jm h.2 h'⟩
 |[],_,_::_,_,h,_=>h.elim
 | _::_,_,[],_,h,_=>h.elim
theorem kC:∀{b:List S1} {a:G'} (k:Nat),bO ρ σ b a->bO ρ σ (b.take k) (a.take k)
 |[],[],k,_=>by grind
 | _::_,_::_,0,_=>by simp[bO]
 | _::_,_::_,k+1,h=>⟨h.1,kC k h.2⟩
 |[],_::_,_,h=>h.elim
 | _::_,[],_,h=>h.elim
theorem kD:∀{b:List S1} {a:G'} (k:Nat),bO ρ σ b a->bO ρ σ (b.drop k) (a.drop k)
 |[],[],k,_=>by grind
 | _::_,_::_,0,h=>h
 | _::_,_::_,k+1,h=>kD k h.2
 |[],_::_,_,h=>h.elim
 | _::_,[],_,h=>h.elim
theorem Fx:∀{b:List S1} {a:G'} {k:Nat} {c:S1},bO ρ σ b a->b[k]?=some c->∃y,a[k]?=some y/\c.rel ρ σ y
 | c::_,y::_,0,_,h,e=>⟨y,rfl,by simp at e;subst e;exact h.1⟩
 | _::_,_::_,k+1,_,h,e=>by
  obtain⟨y,d,f⟩:=Fx (k:=k) h.2 (by simpa using e);grind
 |[],[],_,_,_,e=>by grind
 |[],_::_,_,_,h,_=>h.elim
 | _::_,[],_,_,h,_=>h.elim
theorem sk:∀(a:G'),bO ρ σ (a.map S1.v) a
 |[]=>trivial
 | _::a=>⟨rfl,sk a⟩
theorem S1.qN {c:S1}{x y:Value}(h:c.SZ=some x)(a:c.rel ρ σ y):y=x:=by
 cases c;case lx A j=>
  simp[S1.SZ]at h;split at h
  .obtain⟨d,f,e,b⟩:=a;grind
  grind
 all_goals (simp[S1.SZ]at h<;>subst h<;>exact a)
theorem fO:∀{d:List S1} {a b:G'},tl d=some a->bO ρ σ d b->b=a
 |[],a,[],h,_=>by simp[tl]at h;grind
 | c::d,a,y::b,h,hr=>by
  simp[tl]at h;split at h
  .rename_i x g;split at h
   .rename_i f e;simp at h;subst h;rw[S1.qN g hr.1,fO e hr.2]
   grind
  grind
 |[],_,_::_,_,h=>h.elim
 | _::_,_,[],_,h=>h.elim
theorem S1.nA {c:S1}{b:Bool}{y:Value}(h:c.Rr=some b)(a:c.rel ρ σ y):y= .bool b:=by
 cases c<;>simp only[S1.Rr]at h<;>try (simp at h;done)
 case v x=>
  cases x<;>simp at h;subst h;exact a
 all_goals (simp at h;subst h;exact a)
theorem S1.Dq (b:∀i,∃A n c,σ i= .slice A n c){c:S1}{y:Value}(h:c.UJ=true)(a:c.rel ρ σ y):y.oneCell'=true:=by
 cases c<;>simp[S1.UJ]at h<;>simp only[S1.rel]at a<;>try (simp at h;done)
 case v x=>cases x<;>simp at h<;>subst a<;>rfl
 case own i=>obtain⟨A,n,c,e⟩:=b i;subst a;rw[e];rfl
 case kH i j=>obtain⟨g,n,c,_,e⟩:=a;subst e;rfl
 case sub i l m sz=>obtain⟨A,n,c,_,_,e⟩:=a;subst e;rfl
 case Rq i s=>obtain⟨A,n,c,e⟩:=b i;rw[a.1,e];rfl
 case me i bk=>rw[a.1];rfl
 all_goals (subst a;rfl)
theorem kK (a:∀i,∃A n c,σ i= .slice A n c):∀{d:List S1} {b:G'},CZ d=true->bO ρ σ d b->∀y∈b,y.oneCell'=true
 |[],[],_,_=>by simp
 | c::d,y::b,h,hr=>by
  simp[CZ]at h;intro z e;rcases aaw.1 e with rfl | e
  .exact S1.Dq a h.1 hr.1
  .exact kK a h.2 hr.2 z e
 |[],_::_,_,h=>h.elim
 | _::_,[],_,h=>h.elim
end
section
variable {P:Program}{w0:W0}{w:World}{H0:Heap}{st:St}{a:Act}{ρ:Nat->Nat}{σ:Nat->Value}
theorem cC {i:Nat}{o:bL}(h:kg st i=some o):∃f,st.L[i]?=some (some (f,o)):=by
 unfold kg at h;grind
theorem aT {i:Nat}{o:bL}(h:gK st i=some o):st.L[i]?=some (some (true,o)):=by
 unfold gK at h;grind
theorem bw {d:Nat}(h:da st d=true):st.L[d]?=some none:=by
 unfold da at h;grind
theorem yy (a:∀i f o,st.L[i]?=some (some (f,o))->dj P w0 w st.H ρ σ i o){c:S1}{y:Value}(h:c.rel ρ σ y):(mx st c).rel ρ σ y:=by
 cases c<;>simp[mx]<;>try exact h
 case own i=>
  split
  .rename_i A n c hg;obtain⟨f,d⟩:=cC hg;have:=a _ _ _ d;simp[dj]at this;simp[S1.rel]at h⊢;grind
  grind
 case Rq i s=>
  split
  .rename_i A n c hg;obtain⟨f,d⟩:=cC hg;have:=a _ _ _ d;simp[dj]at this;simp[S1.rel]at h⊢;grind
  .exact h.1
 case me i b=>exact h.1
theorem gT (a:∀i f o,st.L[i]?=some (some (f,o))->dj P w0 w st.H ρ σ i o):∀{c:List S1} {b:G'},bO ρ σ c b->bO ρ σ (c.map (mx st)) b
 |[],[],_=>trivial
 | _::_,_::_,h=>⟨yy a h.1,gT a h.2⟩
 |[],_::_,h=>h.elim
 | _::_,[],h=>h.elim
theorem yz (a:∀i f o,st.L[i]?=some (some (f,o))->dj P w0 w st.H ρ σ i o):∀{c:List (Bool×List S1)} {b:G'},oT ρ σ c b->oT ρ σ (c.map λ x=>(x.1,x.2.map (mx st))) b
 |[],[],_=>trivial
 |(true,_)::_,_::_,h=>by
  obtain⟨⟨g,e,j⟩,d⟩:=h;exact⟨⟨g,e,gT a j⟩,yz a d⟩
 |(false,_)::_,_::_,h=>⟨gT a h.1,yz a h.2⟩
 |[],_::_,h=>h.elim
 |(true,_)::_,[],h=>h.elim
 |(false,_)::_,[],h=>h.elim
theorem tw (a:∀i f o,st.L[i]?=some (some (f,o))->dj P w0 w st.H ρ σ i o){x:SV}{y:Value}(h:x.rel ρ σ y):(Fi st x).rel ρ σ y:=by
 cases x<;>simp[Fi];case one x=>exact yy a h
 case agg cs=>obtain⟨b,e,c⟩:=h;exact⟨b,e,gT a c⟩
 case Fh f cap=>obtain⟨b,e,c⟩:=h;exact⟨b,e,gT a c⟩
 case kz cs=>obtain⟨b,e,c⟩:=h;exact⟨b,e,yz a c⟩
theorem BP {c:S1}{d:Nat}(h:(mx st c).refs d):c.refs d:=by
 cases c<;>simp[mx]at h<;>try exact h
 all_goals
  split at h
  .exact h.elim
  .exact h
theorem uz {b:List S1}{d:Nat}(h:dI d (b.map (mx st))):dI d b:=by
 obtain⟨c,g,e⟩:=h;obtain⟨f,a,rfl⟩:=aaO.1 g;exact⟨f,a,BP e⟩
theorem Ma {x:SV}{d:Nat}(h:(Fi st x).refs d):x.refs d:=by
 cases x<;>simp only[SV.refs];case one x=>exact BP h
 case agg cs=>exact uz h
 case Fh f cap=>exact uz h
 case kz cs=>
  obtain⟨x,c,b⟩:=h;obtain⟨y,a,rfl⟩:=aaO.1 c;exact⟨y,a,uz b⟩
theorem RP (v:Value):(UZ v).rel ρ σ v:=by
 cases v<;>simp[UZ];case bool b=>cases b<;>rfl
 case agg cs=>exact⟨cs,rfl,sk _⟩
 all_goals rfl
theorem qO {d:Nat}{b:G'}(h:dI d (b.map S1.v)):False:=by
 obtain⟨c,e,a⟩:=h;obtain⟨x,_,rfl⟩:=aaO.1 e;exact a
theorem OQ {v:Value}{d:Nat}(h:(UZ v).refs d):False:=by
 cases v<;>simp[UZ]at h;case bool b=>cases b<;>exact h
 case agg cs=>exact qO h
 all_goals exact h
variable (hg:Good P w0 H0 st a w ρ σ)
include hg
theorem aE {x:Operand}{r:SV}(h:ev st x=some r):r.rel ρ σ (a.eval x):=by
 cases x<;>simp only[ev]at h;case tmp t=>
  split at h
  .rename_i x b;simp at h;subst h;exact tw hg.obj (hg.fr _ _ b)
  grind
 case const v=>simp at h;subst h;exact RP v
 case func f=>simp at h;subst h;exact⟨#[],rfl,trivial⟩
 grind
omit hg in
theorem dK {x:Operand}{r:SV}(h:ev st x=some r){d:Nat}(e:st.eN d):¬r.refs d:=by
 cases x<;>simp only[ev]at h;case tmp t=>
  split at h
  .rename_i x b;simp at h;subst h;exact λ a=>e.fr _ _ b (Ma a)
  grind
 case const v=>simp at h;subst h;exact OQ
 case func f=>simp at h;subst h;rintro⟨c,g,_⟩;grind
 grind
theorem KN:∀{c:List Operand} {b:List SV},Iv st c=some b->b.length=c.length/\∀(k:Nat) (r:SV) (x:Operand),b[k]?=some r->c[k]?=some x->r.rel ρ σ (a.eval x)
 |[],b,h=>by simp[Iv]at h;grind
 | x::c,b,h=>by
  simp[Iv]at h;split at h
  .rename_i r i;split at h
   .rename_i g d;simp at h;subst h;obtain⟨m,j⟩:=KN d;refine T' λ k l n f e=>?_;cases k with
    | zero=>simp at f e;subst f e;exact aE hg i
    | succ k=>grind
   grind
  grind
end
end
section
def Mb (P:Program)(q:EK)(t:TypeId):Prop:=
 match q with
 | .int=>∃a,P.underlying t=some (.int a)
 | .bool=>P.underlying t=some .bool
 | .str=>P.underlying t=some .string
structure yA (P:Program)(t:TypeId)(i:tj):Prop where
 und:match i.ty with
  | .int k=>P.underlying t=some (.int k)
  | .bool=>P.underlying t=some .bool
  | .string=>P.underlying t=some .string
  | .slice e=>P.underlying t=some (.slice e)
  | .struct fs=>∃F:Array Field,P.underlying t=some (.struct F)/\F.toList.map (λ f=>(f.offset,f.type))=fs/\∀f∈F.toList,∃inf,P.info? f.type=some inf
  | .array n e=>P.underlying t=some (.array n e)
  | .map k e=>P.underlying t=some (.map k e)
  | .ptr e=>P.underlying t=some (.pointer e)
  | .func=>∃a b c,P.underlying t=some (.func a b c)
  | .other=>True
 agg:∀w,(isAgg t).run P w= .ok i.agg w
 info:∃inf z,P.info? t=some inf/\inf.size=i.size/\inf.bytes=i.bytes/\inf.zero=some z/\z.cells=⟨i.zero⟩
 zlen:i.zero.length=i.size
 zform:∀inf z,P.info? t=some inf->inf.zero=some z->(i.agg=true↔∃cs,z= .agg cs)
 zone:∀z∈i.zero,z.oneCell'=true
 zagg:i.agg=true↔((∃fs,i.ty= .struct fs)\/∃n e,i.ty= .array n e)
 eq:i.eqk≠[]->∃F:Array Field,P.underlying t=some (.struct F)/\P.eqGuardType P.depth t=false/\P.stoodInHeld t=false/\
  F.toList.length=i.eqk.length/\∀(k:Nat) (f:Field) (q:EK),F.toList[k]?=some f->i.eqk[k]?=some q->f.offset=k/\f.name≠ "_"/\
   Mb P q f.type
def cE (P:Program)(Γ:fh):Prop:=∀t i,Γ t=some i->yA P t i
section
variable {P:Program}{t:TypeId}{i:tj}
theorem yA.eh (h:yA P t i)(w:World):(sizeOf t).run P w= .ok i.size w:=by
 obtain⟨c,z,b,a,_⟩:=h.info;simp[sizeOf,typeInfo,b,a]
theorem yA.yB (h:yA P t i)(w:World):∃z,(zeroValue t).run P w= .ok z w/\z.cells=⟨i.zero⟩:=by
 obtain⟨d,z,b,_,_,a,c⟩:=h.info;exact⟨z,by simp[zeroValue,typeInfo,b,a],c⟩
theorem aL {P:Program}{t:TypeId}{d:TypeDesc}(h:P.underlying t=some d)(w:World):(underlying t).run P w= .ok d w:=by
 simp[underlying,h]
end
theorem add_plain (b o n:Nat):(⟨b,o,none⟩:Addr).add n=⟨b,o+n,none⟩:=by
 unfold Addr.add;simp
theorem run_loadCellsFrom {P:Program}(w:World)(b o:Nat):∀(n i:Nat) (c:G') (a:Array Value),c.length=n->
  (∀k y,c[k]?=some y->w.cell? ⟨b,o+i+k,none⟩=some y)->(loadCellsFrom ⟨b,o,none⟩ i n a).run P w= .ok (a++⟨c⟩) w
 | 0,i,c,a,hl,_=>by
  have:=aal hl;subst this;rfl
 | n+1,i,[],a,hl,_=>by grind
 | n+1,i,y::c,a,hl,h=>by
  have d:=h 0 y rfl;simp at d;simp[loadCellsFrom,add_plain,d];rw[run_loadCellsFrom w b o n _ c _ (by grind) (λ k z e=>by
   have:=h (k+1) z (by grind);grind)]
  simp
theorem run_loadCells {P:Program}(w:World)(b o:Nat)(a:G')(h:∀k y,a[k]?=some y->w.cell? ⟨b,o+k,none⟩=some y):
  (loadCells ⟨b,o,none⟩ a.length).run P w= .ok ⟨a⟩ w:=by
 unfold loadCells;rw[run_loadCellsFrom w b o _ 0 _ _ rfl (by grind)];simp
def tx (g:Bool)(a:G'):Value:=if g then .agg ⟨a⟩else a.headD undef
theorem eO {P:Program}{t:TypeId}{i:tj}(hT:yA P t i)(w:World)(b o:Nat)(a:G')
  (h:∀k y,a[k]?=some y->w.cell? ⟨b,o+k,none⟩=some y) (d:a.length=i.size) (c:i.agg=true\/a.length=1):
  (loadVar t ⟨b,o,none⟩).run P w= .ok (tx i.agg a) w:=by
 unfold loadVar tx;simp[hT.agg w];cases hg:i.agg
 .rcases c with c | c
  .grind
  .match a,c with
   |[y],_=>
    have:=h 0 y rfl;grind
 .simp[hT.eh w,<-d,run_loadCells w b o _ h]
section
variable {ρ:Nat->Nat}{σ:Nat->Value}
theorem Fy {g:Bool}{e:List S1}{r:SV}{b:G'}(h:jJ g e=some r)(a:bO ρ σ e b):
  r.rel ρ σ (tx g b)/\(g=true\/b.length=1)/\∀d,r.refs d->dI d e:=by
 cases g
 .match e,h with
  |[c],h=>
   simp[jJ]at h;subst h;match b,a with
   |[y],a=>exact⟨a.1,.inr rfl,λ d f=>⟨c,N' f⟩⟩
   |[],a=>exact a.elim
   | _::_::_,a=>exact a.2.elim
  |[],h=>simp[jJ]at h
  | _::_::_,h=>simp[jJ]at h
 .simp[jJ]at h;subst h;exact⟨⟨_,rfl,a⟩,.inl rfl,λ d f=>f⟩
theorem dW {g:Bool}{b:List S1}{K:SV->Prop}{a:G'}(h:xg g b K)(e:bO ρ σ b a):
  ∃r,r.rel ρ σ (tx g a)/\(g=true\/a.length=1)/\(∀d,r.refs d->dI d b)/\K r:=by
 unfold xg at h;split at h
 .rename_i r c;obtain⟨i,f,j⟩:=Fy c e;grind
 grind
theorem gw:∀{f:List aI} {K:G'->List S1->Prop},Iw f K->∃b a,bO ρ σ a b/\(∀d,¬dI d a)/\K b a
 |[],K,h=>⟨[],[],trivial,λ d=>by rintro⟨c,q,_⟩;grind,h⟩
 | l::f,K,h=>by
  have e:∀(v:Value) (c:S1),c.rel ρ σ v->(∀d,¬c.refs d)->Iw f (λ b a=>K (v::b) (c::a))->∃b a,bO ρ σ a b/\(∀d,¬dI d a)/\K b a:=by
   intro v c p q h;obtain⟨b,a,k,j,o⟩:=gw h;refine⟨v::b,c::a,⟨p,k⟩,λ d=>?_,o⟩;rintro⟨x,i,m⟩;rcases aaw.1 i with rfl | i
   .grind
   .exact j d ⟨x,i,m⟩
  cases l<;>simp only[Iw]at h;case sl=>
   obtain⟨A,n,c,h⟩:=h;refine e _ _ ?_ ?_ h
   .rfl
   .exact λ _ g=>g
  all_goals
   obtain⟨n,h⟩:=h;refine e _ _ ?_ ?_ h
   .exact rfl
   .exact λ _ g=>g
end
section
variable {P:Program}{Γ:fh}{w0:W0}{w:World}{H0:Heap}{st:St}{a:Act}{ρ:Nat->Nat}{σ:Nat->Value}
variable (hT:cE P Γ)(hg:Good P w0 H0 st a w ρ σ)
structure kh (st:St)(ρ:Nat->Nat)(σ:Nat->Value)(w w':World):Prop where
 snap:ct st.H w'
 box:∀(i:Nat) (f:Bool) (t:TypeId) (cs:List S1),st.L[i]?=some (some (f,.box t cs))->w'.heap[ρ i]?=w.heap[ρ i]?
 arr:∀(i:Nat) (f:Bool) (t:TypeId) (xs:G'),st.L[i]?=some (some (f,.arr t xs))->w'.heap[ρ i]?=w.heap[ρ i]?
 row:∀(i:Nat) (f:Bool) (e:TypeId) (n:Nat) (xs:G'),st.L[i]?=some (some (f,.row e n xs))->∀g,(σ i).ownBlock=some g->w'.heap[g]?=w.heap[g]?
theorem kh.refl (hg:Good P w0 H0 st a w ρ σ):kh st ρ σ w w:=⟨hg.snap,λ _ _ _ _ _=>rfl,λ _ _ _ _ _=>rfl,λ _ _ _ _ _ _ _ _=>rfl⟩
theorem AU {w d:World}{B c n:Nat}{e:TypeId}{v:Value}{i:G'}(m:∀g,v.ownBlock=some g->d.heap[g]?=w.heap[g]?)(h:w.ownsRow B e c v n i):d.ownsRow B e c v n i:=by
 refine⟨h.1,?_⟩;rcases h.2 with h |⟨g,b,a,f,k,j,l⟩
 .grind
 .exact .inr ⟨g,b,a,f,k,(m g (by rw[f];rfl)).trans j,l⟩
theorem Dr {w b:World}{w0:W0}{a n:Nat}{e:TypeId}{v:Value}{c:G'}(d:∀g,v.ownBlock=some g->b.heap[g]?=w.heap[g]?)(h:kJ w w0 e a v n c):kJ b w0 e a v n c:=⟨AU d h.row,h.nw⟩
def ry (P:Program)(st:St)(ρ:Nat->Nat)(σ:Nat->Value)(w:World)(m:Sem Value)(K:SV->Prop):Prop:=
 ∃v r,(∀a,kh st ρ σ w a->m.run P a= .ok v a)/\SV.rel ρ σ r v/\(∀d,st.eN d->¬r.refs d)/\K r
theorem eD {w:World}{g j:Nat}{a:Array Value}{t:TypeId}(h:w.heap[g]?=some (.cells a t (0,0))):w.cell? ⟨g,j,none⟩=a[j]?:=by
 simp[World.cell?,h]
include hT hg
omit hT in
theorem OR {o:Nat}{t:TypeId}{b:List S1}(h:kg st o=some (.box t b)):
  ∃a:Array Value,w.heap[ρ o]?=some (.cells a t (0,0))/\bO ρ σ b a.toList/\∀d,st.eN d->¬dI d b:=by
 obtain⟨f,c⟩:=cC h;obtain⟨a,i,g,_⟩:=hg.obj _ _ _ c;exact⟨a,i,g,λ d e=>e.obj _ _ _ c⟩
omit hT in
theorem OS {o:Nat}{t:TypeId}{a:G'}(h:kg st o=some (.arr t a)):w.heap[ρ o]?=some (.cells ⟨a⟩ t (0,0)):=by
 obtain⟨f,b⟩:=cC h;exact(hg.obj _ _ _ b).1
omit hT in
theorem yC {o:Nat}{e:TypeId}{n:Nat}{a:G'}(h:kg st o=some (.row e n a)):kJ w w0 e (P.cellsOf e) (σ o) n a:=by
 obtain⟨f,b⟩:=cC h;exact(hg.obj _ _ _ b).1
omit hT hg in
theorem qP {o:Nat}{e:TypeId}{n:Nat}{a:G'}(h:kJ w w0 e (P.cellsOf e) (σ o) n a){g m c:Nat}(b:σ o= .slice (some ⟨g,0,none⟩) m c):
  ∀k x,a[k]?=some x->w.cell? ⟨g,k,none⟩=some x:=by
 intro k x d;have:=h.cells (g:=g) (by rw[b];rfl) k x d
 rwa[add_plain,aaT]at this
theorem Ds {b a:G'}{j n:Nat}(h:win b j n=a)(k:Nat)(y:Value)(c:a[k]?=some y):b[j+k]?=some y:=by
 unfold win at h;grind
theorem Dt {t:TypeId}{x:SV}{v:Value}(M:x.rel ρ σ v){K:SV->Prop}(h:Ix Γ st t x K):ry P st ρ σ w (Instr.loadAt t v) K:=by
 unfold Ix at h;split at h
 .grind
 .rename_i i hi;have l:=hT _ _ hi;split at h
  .rename_i o J;subst M;split at h
   .rename_i T L A;split at h
    .obtain⟨ys,Y,q,E⟩:=OR hg A;have N:=kC i.size (kD J q);have D:((ys.toList.drop J).take i.size).length=i.size:=by
      have:=cX q;grind
     obtain⟨r,z,s,C,u⟩:=dW h N;refine⟨_,r,?_,z,λ d W B=>?_,u⟩
     .intro H a;obtain⟨R,f⟩:=cC A;refine eO l _ _ _ _ (λ k y p=>?_) D s;rw[eD ((a.box _ _ _ _ f).trans Y)];grind
     .obtain⟨c,j,G⟩:=C d B;exact E d W ⟨c,aca (acb j),G⟩
    grind
   .rename_i T V A;obtain⟨O,L,q,E,I,h⟩:=gw (ρ:=ρ) (σ:=σ) h;split at h
    .rename_i D;obtain⟨r,z,s,C,u⟩:=dW h q;refine⟨_,r,?_,z,λ d _ B=>E d (C d B),u⟩;intro H a;obtain⟨R,f⟩:=cC A;refine eO l _ _ _ _ (λ k y p=>?_) D s;rw[eD ((a.arr _ _ _ _ f).trans (OS hg A))];simpa using Ds hT hg I k y p
    grind
   grind
  .obtain⟨b,o,rfl,rfl⟩:=M;split at h
   .split at h
    .rename_i Q;obtain⟨S,U,j,h⟩:=h;have h:xg i.agg [.lx (some ⟨S,U,none⟩) 0] K:=by rw[Q.2];exact h
     have q:bO ρ σ [S1.lx _ 0] [Value.pointer (some ⟨S,U,none⟩)]:=⟨⟨_,_,rfl,rfl⟩,trivial⟩;obtain⟨r,z,s,C,u⟩:=dW h q;refine⟨_,r,?_,z,λ d _ B=>?_,u⟩
     .intro H a;refine eO l _ _ _ _ (λ k y p=>?_) (by grind) s;rcases j with j |⟨X,o',F,j⟩
      .grind
      .injection F with F;injection F with e1 e2;subst e1 e2;exact(a.snap _ _ _ (j k y p).1).cell (j k y p).2
     .obtain⟨c,j,G⟩:=C d B;simp at j;subst j;exact G
    grind
   obtain⟨O,L,q,E,j,h⟩:=gw (ρ:=ρ) (σ:=σ) h;split at h
   .rename_i D;obtain⟨r,z,s,C,u⟩:=dW h q;refine⟨_,r,?_,z,λ d _ B=>E d (C d B),u⟩;intro H a;refine eO l _ _ _ _ (λ k y p=>?_) D s;rcases j with rfl |⟨X,o',F,j⟩
    .grind
    .injection F with F;injection F with e1 e2;subst e1 e2;exact(a.snap _ _ _ (j k y p).1).cell (j k y p).2
   grind
  .subst M;split at h
   .rename_i T V A;obtain⟨O,L,q,E,I,h⟩:=gw (ρ:=ρ) (σ:=σ) h;split at h
    .rename_i D;obtain⟨r,z,s,C,u⟩:=dW h q;refine⟨_,r,?_,z,λ d _ B=>E d (C d B),u⟩;intro H a;obtain⟨R,f⟩:=cC A;refine eO l _ _ _ _ (λ k y p=>?_) D s;rw[eD ((a.arr _ _ _ _ f).trans (OS hg A))];simpa using Ds hT hg I k y p
    grind
   grind
  .obtain⟨g,n,c,Z,rfl⟩:=M;split at h
   .rename_i e m V A;obtain⟨O,L,q,E,I,h⟩:=gw (ρ:=ρ) (σ:=σ) h;split at h
    .rename_i D;obtain⟨r,z,s,C,u⟩:=dW h q;refine⟨_,r,?_,z,λ d _ B=>E d (C d B),u⟩;intro H a;obtain⟨R,f⟩:=cC A;refine eO l _ _ _ _ (λ k y p=>?_) D s;exact qP (Dr (a.row _ _ _ _ _ f) (yC hg A)) Z _ _ (Ds hT hg I k y p)
    grind
   grind
  grind
end
end
end Go.Vc
namespace Go.Vc
open Go
section
variable {a e:Heap}{b:D'}{c f:Nat}{d:G'}
def ah (H:Heap):Heap.le H H:=λ _ _ _ h=>h
def aa {C:Heap}(h:Heap.le a e)(k:Heap.le e C):Heap.le a C:=λ _ _ _ x=>k _ _ _ (h _ _ _ x)
def Cells.mono {j:Nat}(f:Heap.le a e)(h:Cells a b j d):Cells e b j d:=by
 rcases h with h |⟨c,o,k,i⟩
 .exact .inl h
 .exact .inr ⟨c,o,k,λ t v g=>⟨f _ _ _ (i t v g).1,(i t v g).2⟩⟩
def Cells.part {xs ys zs:G'}(h:Cells a b c (xs++ys++zs)):Cells a b (c+xs.length) ys:=by
 rcases h with h |⟨d,o,f,e⟩
 .left;simp_all
 .refine .inr ⟨d,o,f,λ t v g=>?_⟩;have:=e (xs.length+t) v (by grind);grind
def Cells.cD {H:Heap}{A:D'}{j:Nat}{a:G'}(h:Cells H A j a)(d:a≠[]):cD A:=by
 rcases h with h |⟨b,o,c,_⟩
 .grind
 .exact⟨b,o,c⟩
def Cells.shift (h:Cells a b (c+f) d):Cells a (b.map (·.add f)) c d:=by
 rcases h with h |⟨e,o,rfl,m⟩
 .exact .inl h
 .refine .inr ⟨e,o+f,by simp[Addr.add],λ t v l=>?_⟩;grind
class Rep (T:Type)where
 sz:Nat
 byt:Nat
 rel:Heap->G'->T->Prop
 mono:∀{a i:Heap} {g:G'} {t:T},Heap.le a i->rel a g t->rel i g t
 len:∀{a:Heap} {g:G'} {t:T},rel a g t->g.length=sz
 pos:0<sz
 bpos:0<byt
 one:∀{a:Heap} {g:G'} {t:T},rel a g t->∀v∈g,v.oneCell'=true
section
variable {T:Type}[Rep T]
structure Sl (H:Heap)(A:D')(n c:Nat)(l:List T):Prop where
 len:l.length=n
 cap:n<=c
 bnd:n*Rep.byt T<=140737488355328
 bn:n<=140737488355328
 get:∀i (h:i<l.length),∃vs,Cells H A (i*Rep.sz T) vs/\Rep.rel H vs l[i]
def Sl.mono {H b:Heap}{A:D'}{n c:Nat}{l:List T}(a:Heap.le H b)(h:Sl H A n c l):Sl b A n c l:=
 ⟨h.len,h.cap,h.bnd,h.bn,λ i g=>let⟨d,f,e⟩:=h.get i g;⟨d,f.mono a,Rep.mono a e⟩⟩
def Sl.nil:Sl (T:=T) a b 0 c []:=⟨rfl,abi _,by simp,by simp,λ i h=>by grind⟩
def Sl.cD {H:Heap}{A:D'}{n c:Nat}{l:List T}(h:Sl H A n c l)(f:0<n):cD A:=by
 obtain⟨d,b,a⟩:=h.get 0 (by have:=h.len;omega);exact b.cD (λ e=>by have:=Rep.len a;have:=Rep.pos (T:=T);grind)
def Sl.at {l:List T}(h:Sl a b c f l)(d:Heap.le a e){i:Int}(p:0<=i)(o:i<c):
  ∃(j:i.toNat<l.length),Vc.cD b/\∃g,Cells e b (i.toNat*Rep.sz T) g/\Rep.rel e g l[i.toNat]:=by
 have j:i.toNat<l.length:=by have:=h.len;omega
 obtain⟨g,k,m⟩:=h.get _ _;exact⟨j,h.cD (by omega),g,k.mono d,Rep.mono d m⟩
def Row (H:Heap):G'->List T->Prop
 | xs,[]=>xs=[]
 | xs,t::l=>∃b a,xs=b++a/\Rep.rel H b t/\Row H a l
def Row.mono {H c:Heap}(a:Heap.le H c):∀{b:G'} {l:List T},Row H b l->Row c b l
 | _,[],h=>h
 | _,_::_,⟨vs,ys,h1,h2,h3⟩=>⟨vs,ys,h1,Rep.mono a h2,h3.mono a⟩
def Row.length {H:Heap}:∀{a:G'} {l:List T},Row H a l->a.length=l.length*Rep.sz T
 | _,[],h=>by simp[show _=[]from h]
 | _,_::l,⟨vs,ys,h1,h2,h3⟩=>by rw[h1,aae,h3.length,Rep.len h2,aav,abf];omega
def Row.append {H:Heap}:∀{xs a:G'} {l m:List T},Row H xs l->Row H a m->Row H (xs++a) (l++m)
 | _,_,[],_,h,k=>by rw[h];grind
 | _,a,_::_,m,⟨vs,zs,h1,h2,h3⟩,k=>⟨vs,zs++a,by grind,h2,h3.append k⟩
def Row.one {t:T}(h:Rep.rel a d t):Row a d [t]:=⟨d,[],by simp,h,rfl⟩
def Row.parts {H:Heap}:∀{e:G'} {l:List T} {i:Nat},Row H e l->(h:i<l.length)->∃a b d,e=a++b++d/\a.length=i*Rep.sz T/\Rep.rel H b l[i]/\
  (∀{c:G'} {t:T},Rep.rel H c t->Row H (a++c++d) (l.set i t))
 | _,t::l,0,⟨b,ys,h1,h2,h3⟩,_=>⟨[],b,ys,by grind,by simp,h2,λ {c t} k=>by simpa using(Row.one k).append h3⟩
 | _,t::l,i+1,⟨b,ys,h1,h2,h3⟩,h=>by
  obtain⟨a,c,d,f,g,j,m⟩:=h3.parts (i:=i) (by grind);refine⟨b++a,c,d,by grind,by rw[aae,Rep.len h2,abf];omega,T' λ {o n} k=>?_⟩;simp;refine⟨b,_,by rfl,h2,?_⟩;grind
def Row.dO {l:List T}{i:Nat}(h:Row a d l)(j:i<l.length):Rep.rel a (win d (i*Rep.sz T) (Rep.sz T)) l[i]:=by
 obtain⟨b,c,k,f,e,g,_⟩:=h.parts j;have:win d (i*Rep.sz T) (Rep.sz T)=c:=by
  unfold Vc.win;rw[f,<-e,aat,adG,<-Rep.len g,List.take_left]
 grind
def Row.dV {l:List T}{i:Nat}(h:Row a d l)(n:i<l.length){us:G'}{t:T}(j:Rep.rel a us t):Row a (av d (i*Rep.sz T) us) (l.set i t):=by
 obtain⟨b,c,m,g,f,k,o⟩:=h.parts n;have:av d (i*Rep.sz T) us=b++us++m:=by
  have e:=(Rep.len j).trans (Rep.len k).symm;unfold Vc.av;rw[g,<-f,e,<-abT,aat _ c _,List.take_left,adG,adG]
 grind
def Row.mg {l:List T}{i:Nat}(h:Row a d l)(p:i<l.length):∃b,Rep.rel a b l[i]/\(∀k m,k+m<=Rep.sz T->Vc.win d (i*Rep.sz T+k) m=(b.drop k).take m)/\
  (∀k c t,k+c.length<=Rep.sz T->Rep.rel a (b.take k++c++b.drop (k+c.length)) t->Row a (Vc.av d (i*Rep.sz T+k) c) (l.set i t)):=by
 obtain⟨e,b,o,g,f,j,r⟩:=h.parts p;have q:=Rep.len j;refine⟨b,j,λ k m n=>?_,λ k c t n s=>?_⟩
 .unfold Vc.win;rw[g,<-f,aat,<-abT,adG,aee (by omega),acw (by grind)]
 .have:Vc.av d (i*Rep.sz T+k) c=e++(b.take k++c++b.drop (k+c.length))++o:=by
   unfold Vc.av;rw[g,<-f,aat _ b _,aco,aag (by simp),acw (by omega),Nat.add_assoc,<-abT,adG,
    aee (by omega)]
   simp
  grind
def Row.gS {H:Heap}{z:G'}{t:T}(a:Rep.rel H z t):∀n,Row H (Vc.dE z n) (List.replicate n t)
 | 0=>rfl
 | n+1=>⟨z,Vc.dE z n,rfl,a,Row.gS a n⟩
def Row.sl {H:Heap}{n:Nat}{xs:G'}{l:List T}(h:Row H xs l)(e:Heap.le H a)(f:Cells a b 0 xs)(k:l.length=n)(r:n<=c)
  (q:n*Rep.byt T<=140737488355328) (d:n<=140737488355328):Sl a b n c l:=by
 refine⟨k,r,q,d,λ i t=>?_⟩;obtain⟨g,j,s,o,m,p,_⟩:=h.parts _;rw[o]at f;have:=f.part;rw[m,aaT]at this;exact⟨j,this,Rep.mono e p⟩
def Sl.row {n c:Nat}{l:List T}(h:Sl a b n c l):∃f,Cells a b 0 f/\Row a f l:=by
 have j:∀(k:Nat) (m:List T),(∀i (r:i<m.length),∃g,Cells a b (k+i*Rep.sz T) g/\Rep.rel a g m[i])->∃f,Cells a b k f/\Row a f m:=by
  intro k m;induction m generalizing k with
  | nil=>exact λ _=>⟨[],.inl rfl,rfl⟩
  | cons t m B=>
   intro s;obtain⟨g,x,p⟩:=s 0 (by simp);obtain⟨f,y,w⟩:=B (k+Rep.sz T) (λ i r=>by
    obtain⟨g,d,e⟩:=s (i+1) (by grind);grind)
   refine⟨g++f,?_,g,f,rfl,p,w⟩;have q:=Rep.len p;rcases x with rfl |⟨e,o,z,F⟩
   .grind
   .refine .inr ⟨e,o,z,λ t v I=>?_⟩;by_cases D:t<g.length
    .grind
    .rcases y with rfl |⟨E,G,C,u⟩
     .grind
     grind
 exact j 0 l (λ i r=>by simpa using h.get i _)
def Sl.drop {H:Heap}{A:D'}{n c:Nat}{l:List T}(h:Sl H A n c l){k:Nat}(e:k<=n):Sl H (eM A c k (Rep.sz T)) (n-k) (c-k) (l.drop k):=by
 refine⟨by simp[h.len],by have:=h.cap;omega,aax (aaC _ (Nat.sub_le _ _)) h.bnd,by have:=h.bn;omega,λ i d=>?_⟩;simp at d;obtain⟨b,a,f⟩:=h.get (k+i) (by omega);refine⟨b,?_,by grind⟩;unfold eM;split
 .have:=h.cap;have:=h.len;omega
 .rw[show(k+i)*Rep.sz T=i*Rep.sz T+k*Rep.sz T by grind]at a;exact a.shift
def Sl.take {H:Heap}{A:D'}{n c:Nat}{l:List T}(h:Sl H A n c l){k:Nat}(a:k<=n):Sl H A k c (l.take k):=by
 refine⟨by simp[h.len];omega,by have:=h.cap;omega,aax (aaC _ a) h.bnd,by have:=h.bn;omega,λ i f=>?_⟩;obtain⟨b,e,d⟩:=h.get i (by grind);grind
def Sl.sub {l:List T}(h:Sl a b c f l){j k:Nat}(d:j<=k)(e:k<=c):Sl a (eM b f j (Rep.sz T)) (k-j) (f-j) ((l.take k).drop j):=
 (h.take e).drop d
end
def Cells.cy {k:Nat}{v:Value}(h:Cells a b c d)(f:d[k]?=some v):Cells a b (c+k) [v]:=by
 obtain⟨g,e⟩:=aap.1 f;have:d=d.take k++[v]++d.drop (k+1):=by
  rw[<-e];simp
 rw[this]at h;have:=h.part;grind
def Cells.TH {k:Nat}{u v:Value}(h:Cells a b c d)(i:d[k]?=some u)(g:d[k+1]?=some v):Cells a b (c+k) [u,v]:=by
 obtain⟨m,e⟩:=aap.1 i;obtain⟨f,l⟩:=aap.1 g;have:d=d.take k++[u,v]++d.drop (k+2):=by
  rw[<-e,<-l];simp
 rw[this]at h;have:=h.part;grind
def ak {T:Type}{l:List T}{i:Int}(b:0<=i)(a:i.toNat<l.length):l.drop i.toNat=l[i.toNat]::l.drop (i+1).toNat:=by
 rw[aas a];grind
def ai {T:Type}{l:List T}{i:Int}{n:Nat}(h:¬i<n)(a:l.length=n):l.drop i.toNat=[]:=aaN (by omega)
abbrev fg:cj:=⟨false,[(false,[.bool])]⟩
abbrev gL:cj:=⟨false,[(false,[.int .i64])]⟩
abbrev fi:cj:=⟨false,[(false,[.sl])]⟩
instance:Rep Int where
 sz:=1
 byt:=8
 rel _ vs n:=vs=[.int .i64 n]/\ae .i64 n
 mono _ h:=h
 len h:=by simp[h.1]
 pos:=by decide
 bpos:=by decide
 one h:=by rw[h.1];simp[Value.oneCell']
instance:Rep Bool where
 sz:=1
 byt:=1
 rel _ vs n:=vs=[.bool n]
 mono _ h:=h
 len h:=by simp[h]
 pos:=by decide
 bpos:=by decide
 one h:=by rw[h];simp[Value.oneCell']
instance:Rep ByteArray where
 sz:=1
 byt:=16
 rel _ vs s:=vs=[.string s]/\s.size<=140737488355328
 mono _ h:=h
 len h:=by simp[h.1]
 pos:=by decide
 bpos:=by decide
 one h:=by rw[h.1];simp[Value.oneCell']
instance {T:Type}[Rep T]:Rep (List T)where
 sz:=1
 byt:=24
 rel H vs l:=∃A n c,vs=[.slice A n c]/\Sl H A n c l
 mono:=λ hle ⟨A,n,c,h1,h2⟩=>⟨A,n,c,h1,h2.mono hle⟩
 len:=λ ⟨A,n,c,h1,h2⟩=>by simp[h1]
 pos:=by decide
 bpos:=by decide
 one:=λ ⟨A,n,c,h1,h2⟩=>by rw[h1];simp[Value.oneCell']
end
structure bc where
 lo:Int
 hi:Int
deriving DecidableEq
structure az where
 kind:Int
 n:Int
 s:ByteArray
deriving DecidableEq
structure cz where
 id:Int
 name:ByteArray
 kind:Int
deriving DecidableEq
structure dh where
 rc:bc
 cols:List cz
deriving DecidableEq
structure nz where
 cols:I'
 table:ByteArray
 refs:I'
deriving DecidableEq
structure Rs where
 kind:Int
 cols:I'
deriving DecidableEq
structure bp where
 name:ByteArray
 vers:List dh
 key:I'
 fks:List nz
 csts:List Rs
deriving DecidableEq
def str (s:ByteArray):Prop:=s.size<=140737488355328
instance:Rep bc where
 sz:=2
 byt:=16
 rel _ vs p:=vs=[.int .i64 p.lo,.int .i64 p.hi]/\ae .i64 p.lo/\ae .i64 p.hi
 mono _ h:=h
 len h:=by simp[h.1]
 pos:=by decide
 bpos:=by decide
 one h:=by rw[h.1];simp[Value.oneCell']
instance:Rep az where
 sz:=3
 byt:=32
 rel _ vs v:=vs=[.int .i64 v.kind,.int .i64 v.n,.string v.s]/\ae .i64 v.kind/\ae .i64 v.n/\str v.s
 mono _ h:=h
 len h:=by simp[h.1]
 pos:=by decide
 bpos:=by decide
 one h:=by rw[h.1];simp[Value.oneCell']
instance:Rep cz where
 sz:=3
 byt:=32
 rel _ vs v:=vs=[.int .i64 v.id,.string v.name,.int .i64 v.kind]/\ae .i64 v.id/\str v.name/\ae .i64 v.kind
 mono _ h:=h
 len h:=by simp[h.1]
 pos:=by decide
 bpos:=by decide
 one h:=by rw[h.1];simp[Value.oneCell']
instance:Rep dh where
 sz:=3
 byt:=40
 rel H vs v:=∃A n c,vs=[.int .i64 v.rc.lo,.int .i64 v.rc.hi,.slice A n c]/\ae .i64 v.rc.lo/\ae .i64 v.rc.hi/\Sl H A n c v.cols
 mono:=λ hle ⟨A,n,c,h1,h2,h3,h4⟩=>⟨A,n,c,h1,h2,h3,h4.mono hle⟩
 len:=λ ⟨A,n,c,h1,_⟩=>by simp[h1]
 pos:=by decide
 bpos:=by decide
 one:=λ ⟨A,n,c,h1,_⟩=>by rw[h1];simp[Value.oneCell']
instance:Rep nz where
 sz:=3
 byt:=64
 rel H vs v:=∃A n c B m d,vs=[.slice A n c,.string v.table,.slice B m d]/\Sl H A n c v.cols/\str v.table/\Sl H B m d v.refs
 mono:=λ hle ⟨A,n,c,B,m,d,h1,h2,h3,h4⟩=>⟨A,n,c,B,m,d,h1,h2.mono hle,h3,h4.mono hle⟩
 len:=λ ⟨A,n,c,B,m,d,h1,_⟩=>by simp[h1]
 pos:=by decide
 bpos:=by decide
 one:=λ ⟨A,n,c,B,m,d,h1,_⟩=>by rw[h1];simp[Value.oneCell']
instance:Rep Rs where
 sz:=2
 byt:=32
 rel H vs v:=∃A n c,vs=[.int .i64 v.kind,.slice A n c]/\ae .i64 v.kind/\Sl H A n c v.cols
 mono:=λ hle ⟨A,n,c,h1,h2,h3⟩=>⟨A,n,c,h1,h2,h3.mono hle⟩
 len:=λ ⟨A,n,c,h1,_⟩=>by simp[h1]
 pos:=by decide
 bpos:=by decide
 one:=λ ⟨A,n,c,h1,_⟩=>by rw[h1];simp[Value.oneCell']
instance:Rep bp where
 sz:=5
 byt:=112
 rel H vs v:=∃A n c B m d E k e F l f,vs=[.string v.name,.slice A n c,.slice B m d,.slice E k e,.slice F l f]/\str v.name/\Sl H A n c v.vers/\Sl H B m d v.key/\Sl H E k e v.fks/\Sl H F l f v.csts
 mono:=λ hle ⟨A,n,c,B,m,d,E,k,e,F,l,f,h1,h2,h3,h4,h5,h6⟩=>⟨A,n,c,B,m,d,E,k,e,F,l,f,h1,h2,h3.mono hle,h4.mono hle,h5.mono hle,h6.mono hle⟩
 len:=λ ⟨A,n,c,B,m,d,E,k,e,F,l,f,h1,_⟩=>by simp[h1]
 pos:=by decide
 bpos:=by decide
 one:=λ ⟨A,n,c,B,m,d,E,k,e,F,l,f,h1,_⟩=>by rw[h1];simp[Value.oneCell']
end Go.Vc
namespace Go.Vc
open Go
namespace TT
abbrev b:Value:=.bool false
abbrev u8:Value:=.int .u8 0
abbrev i:Value:=.int .i64 0
abbrev u64:Value:=.int .u64 0
abbrev p:Value:=.pointer none
abbrev n:Value:=.nilIface
abbrev i32:Value:=.int .i32 0
abbrev u16:Value:=.int .u16 0
abbrev s:Value:=.slice none 0 0
abbrev t:Value:=.string ⟨#[]⟩
abbrev m:Value:=.map none
abbrev u32:Value:=.int .u32 0
abbrev f:Value:=.nilFunc
abbrev N:Option tj:=none
abbrev X(t:Ty)(b:Nat)(z:Value):Option tj:=some ⟨t,1,b,[z],false,[]⟩
abbrev R(l:List (Nat×Nat))(b:Nat)(z:G')(q:List EK):Option tj:=some ⟨.struct l,z.length,b,z,true,q⟩
abbrev A(n e b:Nat)(z:G'):Option tj:=some ⟨.array n e,n*z.length,b,(List.replicate n z).flatten,true,[]⟩
abbrev F:=X .func 8 f
abbrev I:=X (.int .i64) 8 i
abbrev T:=X .string 16 t
abbrev S(e:Nat):=X (.slice e) 24 s
abbrev P(e:Nat):=X (.ptr e) 8 p
def rows:List (List (Option tj)):=[[N,N,I,I,X .bool 1 b,X (.int .u8) 1 u8,X (.int .u8) 1 u8,R [(0,2),(1,3),(2,4),(3,6)] 24 [i,i,b,u8] [.int,.int,.bool,.int],R [(0,2),(1,3),(2,4),(3,6)] 24 [i,i,b,u8] [.int,.int,.bool,.int],T],
 [X .other 16 n,N,X (.int .u16) 2 u16,A 8 22 16 [u16],S 166,S 23,S 53,S 152,S 157,N,R [(0,3),(1,3),(2,26),(3,3),(4,27),(5,28)] 96 [i,i,s,i,s,s] [],N,S 48,N,S 133,N,R [(0,3),(1,3)] 16 [i,i] [.int,.int],S 142,S 144,S 87],
 [S 3,S 68,S 71,N,R [(0,9),(1,39),(2,40),(3,41),(4,42)] 112 [t,s,s,s,s] [],N,R [(0,3),(1,9),(2,3)] 32 [i,t,i] [.int,.str,.int],N,R [(0,3),(1,9),(2,34),(3,36),(5,37),(6,3),(7,38),(8,44),(13,46)] 264 [i,t,s,i,i,s,i,s,t,s,s,s,s,i,t,i] [],N,N,S 75,N,R [(0,44),(5,51)] 136 [t,s,s,s,s,s] [],N,S 107,N,N,N,I],
 [N,N,N,N,N,N,N,N,R [(0,40),(1,9),(2,40)] 64 [s,t,s] [],N,N,R [(0,3),(1,40)] 32 [i,s] [],N,N,N,R [(0,3),(1,34),(2,36),(4,36)] 64 [i,s,i,i,i,i] [],F],
 [N,N,N,N,N,S 46,N,R [(0,36),(2,85)] 40 [i,i,s] [],N,N,N,N,S 9,N,S 110,N,N,S 164],
 [N,N,N,N,N,N,N,R [(0,34),(1,36),(3,40)] 64 [s,i,i,s] [],N,N,R [(0,34),(1,40)] 48 [s,s] [],N,N,F,N,N,N,F],
 [F,N,A 4 22 8 [u16],N,N,S 55,N,S 241,N,N,N,F,N,R [(0,3),(1,2),(2,9)] 32 [i,i,t] [.int,.int,.str],N,A 9 3 72 [i]],
 [N,N,R [(0,3),(1,3),(2,3),(3,3),(4,133)] 64 [i,i,i,i,i,i,t] [],N,R [(0,3),(1,3)] 16 [i,i] [.int,.int],N,N,N,P 30,N,N,N,R [(0,3),(1,36)] 24 [i,i,i] [],N,N,R [(0,3),(1,3),(2,3),(3,9)] 40 [i,i,i,t] [.int,.int,.int,.str],N,R [(0,3),(1,155),(5,94)] 72 [i,i,i,i,t,s] [],N,F],
 [N,N,N,N,R [(0,3),(1,3),(2,32),(3,155),(7,152)] 104 [i,i,s,i,i,i,t,i,i,i] [],N,A 9 22 18 [u16],N,N,N,N,N,N,N,N,N,R [(0,40),(1,55)] 48 [s,s] []],
 [N,N,N,N,N,N,N,N,N,N,N,N,N,N,N,S 198,N,N,R [(0,34),(1,107)] 88 [s,s,i,i,s] []],
 [X (.map 9 205) 8 m,S 204,N,N,R [(0,34),(1,55)] 48 [s,s] [],S 36,N,N,N,N,A 5 9 80 [t],A 5 3 40 [i],N,N,N,N,N,P 53],
 [],
 [N,R [(0,36),(2,40)] 40 [i,i,s] [],N,N,N,F,N,N,N,F,N,X (.map 9 3) 8 m,N,N,F],
 [N,N,N,N,N,N,N,N,N,S 34,N,N,N,N,N,N,N,N,F],
 [N,N,N,N,N,N,N,N,N,N,N,F],
 [N,N,N,N,N,N,N,N,N,N,X (.int .u64) 8 u64,S 314,N,N,R [(0,34),(1,94),(2,40)] 72 [s,s,s] [],A 2 40 48 [s]],
 [N,N,N,F,N,N,N,F,X (.map 9 329) 8 m,R [] 0 [] []],
 [N,N,A 12 4 12 [b]],
 [],
 [N,N,N,N,S 386,N,R [(0,3),(1,3)] 16 [i,i] [.int,.int],N,S 4],
 [],
 [N,N,F,X (.map 3 4) 8 m,N,N,F,N,N,N,P 87],
 [N,N,N,N,N,N,N,N,N,N,N,N,N,N,N,N,N,S 40],
 [],
 [],
 [N,N,N,N,A 13 3 104 [i],A 13 46 416 [i,t,i],A 13 4 13 [b],N,X (.map 3 3) 8 m,N,N,N,N,P 516,S 575,N,R [(0,37),(1,40),(2,514)] 72 [s,s,s] [],N,N,F],
 [],
 [],
 [N,N,N,N,N,N,N,N,N,N,N,N,N,N,N,R [(0,4),(1,3),(2,59)] 24 [b,i,i] [.bool,.int,.int]]]
end TT
def TL:fh:=λ t=>match TT.rows[t/20]? with
 | some l=>match l[t%20]? with
  | some i=>i
  | none=>none
 | none=>none
def tab:fh:=λ t=>if t<634 then TL t else none
def Gh:TypeId->Option (List TypeId)
 | 0=>some []
 | 49=>some [30,3]
 | 63=>some [30,30,32,4]
 | 80=>some [30,59]
 | 88=>some [87,4]
 | 100=>some [44,3]
 | 138=>some [37,3]
 | 178=>some [34,3]
 | 184=>some [51,3]
 | 192=>some [3,40]
 | 225=>some [30,157,3]
 | 232=>some [3,3]
 | 252=>some [3,4]
 | 273=>some [44,59]
 | 280=>some [34,59]
 | 307=>some [36,4]
 | 330=>some [329,4]
 | 332=>some [46,4]
 | 336=>some [51,59]
 | 338=>some [3,59]
 | 424=>some [423,59]
 | 509=>some [508,4]
 | 577=>some [2,4]
 | _=>none
end Go.Vc
