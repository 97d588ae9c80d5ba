/- A part of the proof. -/
import Derived.Test.YtnkineaffgkicaaGreatDoorH10
import Derived.Lib.Bytealg
set_option maxHeartbeats 0
set_option maxRecDepth 100000
set_option linter.unusedVariables false
set_option linter.defProp false
namespace Go.Vc
open Go
section
variable {a:Type}
def cQ (x y:Int):Int:=if x<y then-1 else if y<x then 1 else 0
def Gn (a b:ByteArray):Int:=Lib.compareBytes a.data.toList b.data.toList
def Pk:I'->Int
 |[]=>0
 | x::r=>if x≠0 then x else Pk r
def Ba (a b:az):Int:=Pk [cQ a.kind b.kind,cQ a.n b.n,Gn a.s b.s]
def gf {T:Type}(f:T->T->Int):List T->List T->Int
 |[],[]=>0
 |[],_::_=> -1
 | _::_,[]=>1
 | a::as_,b::bs=>if f a b≠0 then f a b else gf f as_ bs
def bK (a b:List az):Int:=gf Ba a b
structure gM {T:Type}(f:T->T->Int):Prop where
 sign:∀a b,f a b= -1\/f a b=0\/f a b=1
 anti:∀a b,f b a= -f a b
 eq:∀a b,f a b=0->a=b
 trans:∀a b c,f a b= -1->f b c= -1->f a c= -1
def gM.refl {f:a->a->Int}(h:gM f)(b:a):f b b=0:=by have:=h.anti b b;omega
def gM.iff {f:a->a->Int}(h:gM f){c b:a}:f c b=0↔c=b:=⟨h.eq c b,λ e=>by rw[e];exact h.refl b⟩
def fQ:gM cQ:=by
 refine⟨λ a b=>?_,λ a b=>?_,λ a b h=>?_,λ a b c e d=>?_⟩<;>unfold cQ at* <;>(repeat' split at*)<;>omega
def gM.lex {f:a->a->Int}(h:gM f):gM (gf f):=by
 refine⟨λ d=>?_,λ d=>?_,λ d=>?_,λ d=>?_⟩
 .induction d with
  | nil=>intro b;cases b<;>simp[gf]
  | cons x d g=>
   intro b;cases b with
   | nil=>simp[gf]
   | cons y b=>simp only[gf];split;exact h.sign x y;grind
 .induction d with
  | nil=>intro b;cases b<;>simp[gf]
  | cons x d g=>
   intro b;cases b with
   | nil=>rfl
   | cons y b=>
    simp[gf];have:=h.anti x y;grind
 .induction d with
  | nil=>intro b;cases b<;>simp[gf]
  | cons x d g=>
   intro b;cases b with
   | nil=>simp[gf]
   | cons y b=>
    simp only[gf];split
    .grind
    .intro e;rw[h.eq x y (by grind),g b e]
 .induction d with
  | nil=>
   intro b c;cases b<;>cases c<;>simp[gf]
  | cons x d g=>
   intro b c;cases b with
   | nil=>simp[gf]
   | cons y b=>
    cases c with
    | nil=>intro e i;simp[gf]at i
    | cons z c=>
     simp only[gf];intro e i;by_cases j:f x y=0
     .obtain rfl:=h.eq x y j;grind
     .rw[if_pos (by grind)]at e;by_cases k:f y z=0
      .obtain rfl:=h.eq y z k;grind
      .rw[if_pos (by grind)]at i;have:=h.trans x y z e i;grind
def Pl:gM (λ a b:UInt8=>if a<b then(-1:Int)else if b<a then 1 else 0):=by
 refine⟨λ a b=>?_,λ a b=>?_,λ a b h=>?_,λ a b c e d=>?_⟩
 .grind
 .grind
 .grind
 grind
def mJ:∀a b:List UInt8,Lib.compareBytes a b=gf (λ a b:UInt8=>if a<b then(-1:Int)else if b<a then 1 else 0) a b
 |[],[]=>rfl
 |[],_::_=>rfl
 | _::_,[]=>rfl
 | x::a,y::b=>by
  simp[Lib.compareBytes,gf];rw[mJ a b];grind
def pO:gM Gn:=by
 have h:=Pl.lex;refine⟨λ a b=>?_,λ a b=>?_,λ a b e=>?_,λ a b c=>?_⟩<;>unfold Gn at* <;>simp[mJ]at*
 .exact h.sign _ _
 .exact h.anti _ _
 .have:=h.eq _ _ e;exact ByteArray.ext (acO this)
 .exact h.trans _ _ _
def gM.pair {B:Type}{f:a->a->Int}{g:B->B->Int}(h:gM f)(i:gM g):gM (λ x y:a×B=>if f x.1 y.1≠0 then f x.1 y.1 else g x.2 y.2):=by
 refine⟨λ d b=>?_,λ d b=>?_,λ d b e=>?_,λ d b c x y=>?_⟩
 .have:=h.sign d.1 b.1;have:=i.sign d.2 b.2;grind
 .have:=h.anti d.1 b.1;have:=i.anti d.2 b.2;grind
 .split at e
  .grind
  .exact Prod.ext (h.eq _ _ (by omega)) (i.eq _ _ e)
 .by_cases k:f d.1 b.1=0
  .rw[if_neg (by omega)]at x;rw[h.eq _ _ k];by_cases j:f b.1 c.1=0
   .rw[if_neg (by omega)]at y⊢;exact i.trans _ _ _ x y
   grind
  .rw[if_pos k]at x;by_cases j:f b.1 c.1=0
   .rw[<-h.eq _ _ j];grind
   .rw[if_pos j]at y;have:=h.trans _ _ _ x y;grind
def gM.Vt {T:Type}{f:a->a->Int}(g:gM f)(h:T->a)(i:∀d b,h d=h b->d=b):gM (λ x y:T=>f (h x) (h y)):=
 ⟨λ d b=>g.sign _ _,λ d b=>g.anti _ _,λ d b e=>i _ _ (g.eq _ _ e),λ d b c=>g.trans _ _ _⟩
def Pm:gM Ba:=by
 have h:=(fQ.pair (fQ.pair pO)).Vt (λ v:az=>(v.kind,v.n,v.s)) (λ a b h=>by cases a;simp_all);have e:(λ x y:az=>if cQ x.kind y.kind≠0 then cQ x.kind y.kind else if cQ x.n y.n≠0 then cQ x.n y.n else Gn x.s y.s)=Ba:=by
  funext x y;simp[Ba,Pk];grind
 grind
def aD:gM bK:=Pm.lex
end
end Go.Vc
