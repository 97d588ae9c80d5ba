/- A part of the proof. -/
import Derived.Test.YtnkineaffgkicaaGreatDoorH10
import Derived.Lib.ItoaNum
set_option maxHeartbeats 0
set_option maxRecDepth 100000
set_option linter.unusedVariables false
set_option linter.defProp false
namespace Go.Vc
open Go
def HH (c:UInt8):Prop:=48<=c.toNat/\c.toNat<=57
def QD {k:Nat}(h:k<10):HH (UInt8.ofNat (48+k)):=by
 have:(UInt8.ofNat (48+k)).toNat=48+k:=by
  simp;omega
 unfold HH;omega
def sb (u:Nat):∀c∈Lib.decDigits u,HH c:=by
 induction u using Nat.strongRecOn with
 | _ u b=>
  intro c a;rw[Lib.decDigits]at a;split at a
  .rename_i h;rw[aaD]at a;subst a;exact QD h
  .rcases aam.1 a with a | a
   .grind
   .rw[aaD]at a;subst a;exact QD (by omega)
def Ak (l:List UInt8):Nat:=l.foldl (λ a c=>a*10+(c.toNat-48)) 0
def HI (l:List UInt8)(c:UInt8):Ak (l++[c])=Ak l*10+(c.toNat-48):=by simp[Ak]
def sd (u:Nat):Ak (Lib.decDigits u)=u:=by
 induction u using Nat.strongRecOn with
 | _ u b=>
  have a:∀k,k<10->(UInt8.ofNat (48+k)).toNat=48+k:=λ k c=>by simp;omega
  rw[Lib.decDigits];split
  .rename_i h;simp only[Ak,adu,a u h];simp
  .rw[HI,b _ (by omega),a _ (by omega)];omega
def se {u v:Nat}(h:Lib.decDigits u=Lib.decDigits v):u=v:=by rw[<-sd u,h,sd]
def Al {m n:Int}(h:Lib.itoa m=Lib.itoa n):m=n:=by
 have a:∀u v,(45)::Lib.decDigits u≠Lib.decDigits v:=by
  intro u v e;have:=sb v 45 (by grind);unfold HH at this;grind
 unfold Lib.itoa at h;split at h<;>split at h
 .have:=se (adQ h).2;omega
 .grind
 .grind
 .have:=se h;omega
def nh (n:Int):∀c∈Lib.itoa n,c≠44/\c≠58:=by
 have b:∀u,∀c∈Lib.decDigits u,c≠44/\c≠58:=by
  intro u c a;have:=sb u c a;unfold HH at this;constructor<;>(rintro rfl;grind)
 intro c a;unfold Lib.itoa at a;grind
def xZ {s:UInt8}:∀{a b x y:List UInt8},(∀c∈a,c≠s)->(∀c∈b,c≠s)->a++s::x=b++s::y->a=b/\x=y
 |[],[],x,y,_,_,h=>⟨rfl,(adQ h).2⟩
 |[],c::b,x,y,_,hb,h=>absurd (adQ h).1.symm (hb c (by simp))
 | c::a,[],x,y,ha,_,h=>absurd (adQ h).1 (ha c (by simp))
 | c::a,d::b,x,y,ha,hb,h=>by
  have f:=adQ h;obtain⟨j,i⟩:=xZ (λ e g=>ha e (by grind)) (λ e g=>hb e (by grind)) f.2;grind
def bU (v:az):List UInt8:=Lib.itoa v.kind++44::(Lib.itoa v.n++44::(Lib.itoa v.s.size++58::v.s.data.toList))
def keyBytes (l:List az):List UInt8:=l.flatMap bU
def EH {v u:az}{x y:List UInt8}(h:bU v++x=bU u++y):v=u/\x=y:=by
 unfold bU at h;simp at h;obtain⟨d,h⟩:=xZ (λ c a=>(nh _ c a).1) (λ c a=>(nh _ c a).1) h;obtain⟨b,h⟩:=xZ (λ c a=>(nh _ c a).1) (λ c a=>(nh _ c a).1) h;obtain⟨f,h⟩:=xZ (λ c a=>(nh _ c a).2) (λ c a=>(nh _ c a).2) h;have l:=Al d;have j:=Al b;have m:=Al f;have e:v.s.data.toList.length=u.s.data.toList.length:=by
  have o:v.s.data.toList.length=v.s.size:=acX;have p:u.s.data.toList.length=u.s.size:=acX;omega
 obtain⟨g,i⟩:=List.append_inj h e;obtain⟨k,n,⟨⟨s⟩⟩⟩:=v;simp_all
def qz (v:az):bU v≠[]:=by
 unfold bU;simp
def keyBytes_inj:∀{l m:List az},keyBytes l=keyBytes m->l=m
 |[],[],_=>rfl
 |[],v::m,h=>by
  exact absurd (List.append_eq_nil_iff.1 h.symm).1 (qz v)
 | v::l,[],h=>by
  exact absurd (List.append_eq_nil_iff.1 h).1 (qz v)
 | v::l,u::m,h=>by
  obtain⟨a,b⟩:=EH h;rw[a,keyBytes_inj b]
def ee (l:List az):ByteArray:=⟨(keyBytes l).toArray⟩
def lp {l m:List az}(h:ee l=ee m):l=m:=by
 refine keyBytes_inj ?_;have:=aak (λ b:ByteArray=>b.data.toList) h;simpa[ee]using this
end Go.Vc
