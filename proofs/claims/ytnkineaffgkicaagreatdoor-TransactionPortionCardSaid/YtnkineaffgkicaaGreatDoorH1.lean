/- A part of the proof. -/
import Derived.Test.YtnkineaffgkicaaGreatDoorH0
import Derived.WalkKit
import Derived.Deep.LoopGhost
set_option maxHeartbeats 0
set_option maxRecDepth 100000
set_option linter.unusedVariables false
set_option linter.defProp false
namespace Go.Vc
open Go Go.RowKit
abbrev I':=List Int
abbrev G':=List Value
abbrev D':=Option Addr
def jI (a b:Nat):Nat:=a+b
def Ts (a b:Nat):Nat:=a-b
def LU (a b:Nat):Nat:=a*b
def sj (n:Int)(a:Nat):Nat:=n.toNat*a
def Is (a b:Int):Int:=a+b
def RC (a b:Int):Int:=a-b
def Oy (a b:Int):Int:=a*b
def RD (a:Int):Int:= -a
def Wt (a b:Int):Bool:=decide (a=b)
def Zx (a b:Int):Bool:= !decide (a=b)
def Xg (a b:Int):Bool:=decide (a<b)
def Xh (a b:Int):Bool:=decide (a<=b)
def RE (a b:ByteArray):Bool:=decide (a=b)
def US (a b:ByteArray):Bool:= !decide (a=b)
def Wn (a:Bool):Bool:= !a
def RF (a b:Bool):Bool:=a==b
def UT (a b:Bool):Bool:=a&&b
def lY (s:ByteArray)(n:Int):Int:=(s.data.toList.getD n.toNat 0).toNat
def cat (a b:G'):G':=a++b
def Wu (a b:ByteArray):ByteArray:=a++b
def av (a:G')(j:Nat)(b:G'):G':=a.take j++b++a.drop (j+b.length)
def yf (a:G')(n m:Nat):G':=a.take (a.length/n*m)
def win (a:G')(j n:Nat):G':=(a.drop j).take n
def AO (a b:Int):Prop:=a<=b
def RG (a b:Int):Prop:=a<b
def Ol (a b:Nat):Prop:=a<=b
def qI (n:Nat):Int:=n
def Xi (a b:Int):Prop:=a≠b
def Wo (a b:Int):Prop:=a=b
def cD (A:D'):Prop:=∃b o,A=some ⟨b,o,none⟩
abbrev Heap:=Nat->Nat->Option Value
inductive XO where
 | row (e:TypeId) (n c:Nat)
 | mp (t:TypeId) (es:List (Value×Value))
 | Tt (t:TypeId) (arr:Array MapEntry) (clock:Nat)
 | it (b clock:Nat) (seen:Array Nat) (cur:Option MapEntry)
abbrev aU:=Nat->Option XO
def cK:Value->Value->Bool
 | .int _ a,.int _ b=>decide (a=b)
 | .string a,.string b=>decide (a=b)
 | _,_=>false
def cH (a:List (Value×Value))(k:Value):Option Value:=(a.find? λ p=>cK k p.1).map (·.2)
def th (a:List (Value×Value))(k:Value):Bool:=a.any λ p=>cK k p.1
def fL:List (Value×Value)->Value->Value->List (Value×Value)
 |[],k,v=>[(k,v)]
 | p::r,k,v=>if cK k p.1 then(k,v)::r else p::fL r k v
def UU (O:aU)(A:Option Nat)(t:TypeId)(a:List (Value×Value)):Prop:=(A=none/\a=[])\/∃b,A=some b/\O b=some (.mp t a)
def UW (O:aU)(A:Option Nat)(t:TypeId)(a:List (Value×Value)):Prop:=∃b,A=some b/\O b=some (.mp t a)
def UX (O c:aU)(A:Option Nat)(t:TypeId)(d:List (Value×Value)):Prop:=∃b,A=some b/\c b=some (.mp t d)/\∀a,a≠b->c a=O a
def CX (a:Array MapEntry):List (Value×Value):=a.toList.map λ e=>(e.key,e.val)
def Wv (O e:aU)(A:Option Nat)(t:TypeId)(f:List (Value×Value))(c:Array MapEntry)(a r:Nat):Prop:=CX c=f/\∃b,A=some b/\O r=none/\e r=some (.it b a #[] none)/\e b=some (.Tt t c a)/\∀d,d≠r->d≠b->e d=O d
def pe (b:Array MapEntry)(a:Array Nat):Array MapEntry:=b.filter λ e=> !a.contains e.born
def Iu (b:Array MapEntry)(a:Array Nat):Prop:=(pe b a).size=0
def CY (e:MapEntry)(b:Array MapEntry)(a:Array Nat):Prop:=e∈(pe b a).toList
def UY (e:MapEntry)(a:Array MapEntry):Prop:=e∈a.toList
def isKey (e:MapEntry)(v:Option Value):Prop:=v=some e.key
def isVal (e:MapEntry)(v:Option Value):Prop:=v=some e.val
def Ww (O d:aU)(r m a:Nat)(b:Array Nat)(e:MapEntry):Prop:=d r=some (.it m a (b.push e.born) (some e))/\∀c,c≠r->d c=O c
def pf (O:aU):aU:=λ b=>match O b with
 | some (.Tt t arr _)=>some (.mp t (CX arr))
 | some (.it _ _ _ _)=>none
 | x=>x
def Tu (O c:aU)(b:Nat)(t:TypeId):Prop:=O b=none/\c b=some (.mp t [])/\∀a,a≠b->c a=O a
def ux:aU:=λ _=>none
def nq (O:aU)(A:D')(e:TypeId)(n c:Nat):Prop:=(A=none/\n=0/\c=0)\/∃b,A=some ⟨b,0,none⟩/\O b=some (.row e n c)
def KE (O a:aU)(A c:D'):Prop:=∀b,O b≠none->A≠some ⟨b,0,none⟩->c≠some ⟨b,0,none⟩/\a b=O b
def Heap.le (H a:Heap):Prop:=∀b o v,H b o=some v->a b o=some v
inductive S1 where
 | any
 | un
 | v (x:Value)
 | b (x:Bool)
 | tt
 | ff
 | loc (i off:Nat)
 | lx (A:D') (j:Nat)
 | kH (i j:Nat)
 | oS (i j:Nat)
 | own (i:Nat)
 | sub (i l m sz:Nat)
 | Rq (i:Nat) (s:Value)
 | me (i b:Nat)
inductive SV where
 | one (x:S1)
 | agg (cs:List S1)
 | Fh (f:FuncId) (cap:List S1)
 | kz (cs:List (Bool×List S1))
inductive bL where
 | box (t:TypeId) (cs:List S1)
 | arr (t:TypeId) (xs:G')
 | row (e:TypeId) (n:Nat) (xs:G')
 | Ff (A:D') (n c:Nat)
 | dead
abbrev ti:=Bool×bL
structure St where
 fr:List SV
 L:List (Option ti)
 H:Heap
 O:aU
inductive Ty where
 | int (k:IntKind)
 | bool
 | string
 | slice (e:TypeId)
 | struct (fs:List (Nat×TypeId))
 | array (n:Nat) (e:TypeId)
 | map (k e:TypeId)
 | ptr (e:TypeId)
 | func
 | other
inductive EK where
 | int
 | bool
 | str
structure tj where
 ty:Ty
 size:Nat
 bytes:Nat
 zero:G'
 agg:Bool
 eqk:List EK
abbrev fh:=TypeId->Option tj
def Cells (H:Heap)(A:D')(j:Nat)(a:G'):Prop:=
 a=[]\/∃b o,A=some ⟨b,o,none⟩/\∀t v,a[t]?=some v->H b (o+j+t)=some v/\v.oneCell'=true
def S1.SZ:S1->Option Value
 | .v x=>some x
 | .b x=>some (.bool x)
 | .tt=>some (.bool true)
 | .ff=>some (.bool false)
 | .lx A j=>match A with
  | some ⟨bk,of,none⟩=>some (.pointer (some ⟨bk,of+j,none⟩))
  | _=>none
 | _=>none
def tl:List S1->Option (G')
 |[]=>some []
 | c::cs=>
  match c.SZ with
  | some x=>match tl cs with
   | some a=>some (x::a)
   | none=>none
  | none=>none
def S1.Rr:S1->Option Bool
 | .v (.bool x)=>some x
 | .b x=>some x
 | .tt=>some true
 | .ff=>some false
 | _=>none
def S1.UJ:S1->Bool
 | .any | .un=>false
 | .v (.agg _)=>false
 | .v (.tuple _)=>false
 | .lx _ _=>false
 | _=>true
def CZ:List S1->Bool
 |[]=>true
 | c::cs=>c.UJ&&CZ cs
def S1.Tv:S1->Bool
 | .any | .un=>false
 | .v (.agg _)=>false
 | .v (.tuple _)=>false
 | _=>true
def SV.cells:SV->Option (List S1)
 | .one x=>match x.Tv with
  | true=>some [x]
  | false=>none
 | .agg a=>some a
 | _=>none
def jJ (a:Bool)(b:List S1):Option SV:=
 match a,b with
 | true,b=>some (.agg b)
 | false,[c]=>some (.one c)
 | false,_=>none
def UZ:Value->SV
 | .agg a=> .agg (a.toList.map S1.v)
 | .bool true=> .one .tt
 | .bool false=> .one .ff
 | x=> .one (.v x)
def kg (a:St)(d:Nat):Option bL:=match a.L[d]? with
 | some (some (_,o))=>some o
 | _=>none
def gK (a:St)(d:Nat):Option bL:=match a.L[d]? with
 | some (some (true,o))=>some o
 | _=>none
def da (a:St)(d:Nat):Bool:=match a.L[d]? with
 | some none=>true
 | _=>false
def mx (a:St):S1->S1
 | .own i=>match kg a i with
  | some (.Ff A n c)=> .v (.slice A n c)
  | _=> .own i
 | .Rq i _=>match kg a i with
  | some (.Ff A n c)=> .v (.slice A n c)
  | _=> .own i
 | .me i _=> .loc i 0
 | x=>x
def Fi (a:St):SV->SV
 | .one x=> .one (mx a x)
 | .agg b=> .agg (b.map (mx a))
 | .Fh f c=> .Fh f (c.map (mx a))
 | .kz b=> .kz (b.map λ x=>(x.1,x.2.map (mx a)))
def ev (a:St):Operand->Option SV
 | .tmp t=>match a.fr[t]? with
  | some x=>some (Fi a x)
  | none=>none
 | .const v=>some (UZ v)
 | .func f=>some (.Fh f [])
 | .global _=>none
def Iv (a:St):List Operand->Option (List SV)
 |[]=>some []
 | o::os=>match ev a o with
  | some x=>match Iv a os with
   | some b=>some (x::b)
   | none=>none
  | none=>none
def Fj:List SV->Option (List S1)
 |[]=>some []
 | .one x::xs=>match Fj xs with
  | some a=>some (x::a)
  | none=>none
 | _=>none
def SV.plain:SV->Option Value
 | .one x=>x.SZ
 | .agg c=>match tl c with
  | some a=>some (.agg ⟨a⟩)
  | none=>none
 | .Fh f b=>match tl b with
  | some a=>some (.func (.func f) #[] ⟨a⟩)
  | none=>none
 | _=>none
def kI:List SV->Option (G')
 |[]=>some []
 | x::xs=>match x.plain with
  | some v=>match kI xs with
   | some a=>some (v::a)
   | none=>none
  | none=>none
def aK (a:St)(d:Option Tmp)(x:SV):St:=
 match d with
 | some d=>{a with fr:=a.fr.set d x}
 | none=>a
def aq (a:St)(d:Nat)(x:bL):St:={a with L:=a.L.set d (some (true,x))}
abbrev ae (k:IntKind)(e:Int):Prop:=
 match k with
 | .i8=> -128<=e/\e<=127
 | .i16=> -32768<=e/\e<=32767
 | .i32=> -2147483648<=e/\e<=2147483647
 | .i64=> -9223372036854775808<=e/\e<=9223372036854775807
 | .u8=>0<=e/\e<=255
 | .u16=>0<=e/\e<=65535
 | .u32=>0<=e/\e<=4294967295
 | .u64=>0<=e/\e<=18446744073709551615
def lZ:EK->S1->S1->Option Bool
 | .int,.v (.int k x),.v (.int k' y)=>if k=k' then some (Wt x y)else none
 | .str,.v (.string x),.v (.string y)=>some (RE x y)
 | .bool,x,y=>match x.Rr with
  | some x=>match y.Rr with
   | some y=>some (RF x y)
   | none=>none
  | none=>none
 | _,_,_=>none
def iY:List EK->List S1->List S1->Option Bool
 |[k],[x],[y]=>lZ k x y
 | k::ks,x::xs,y::ys=>match lZ k x y with
  | some e=>match iY ks xs ys with
   | some f=>some (UT e f)
   | none=>none
  | none=>none
 | _,_,_=>none
def Ta (a:BinOp)(x y:Int):Option Bool:=
 match a with
 | .eql=>some (Wt x y)
 | .neq=>some (Zx x y)
 | .lss=>some (Xg x y)
 | .leq=>some (Xh x y)
 | .gtr=>some (Xg y x)
 | .geq=>some (Xh y x)
 | _=>none
def yg (a:BinOp)(x y:ByteArray):Option Bool:=
 match a with
 | .eql=>some (RE x y)
 | .neq=>some (US x y)
 | .lss=>some (Op.bytesLess x.toList y.toList)
 | .geq=>some (Wn (Op.bytesLess x.toList y.toList))
 | _=>none
def Oz (a:BinOp)(k:IntKind)(x y:Int)(K:SV->Prop):Prop:=
 match a with
 | .add=>ae k (Is x y)/\K (.one (.v (.int k (Is x y))))
 | .sub=>ae k (RC x y)/\K (.one (.v (.int k (RC x y))))
 | .mul=>ae k (Oy x y)/\K (.one (.v (.int k (Oy x y))))
 | .rem=>Xi y 0/\K (.one (.v (.int k (x.tmod y))))
 | .quo=>Xi y 0/\ae k (x.tdiv y)/\K (.one (.v (.int k (x.tdiv y))))
 | .shr=>Wo y 1/\K (.one (.v (.int k (x.fdiv 2))))
 | a=>match Ta a x y with
  | some e=>K (.one (.b e))
  | none=>False
def Da (a:BinOp)(e:Bool)(K:SV->Prop):Prop:=
 match a with
 | .eql=>K (.one (.b e))
 | .neq=>K (.one (.b (Wn e)))
 | _=>False
def OA (d:fh)(c:BinOp)(t:TypeId)(x y:SV)(K:SV->Prop):Prop:=
 match x with
 | .one (.v (.int k a))=>match y with
  | .one (.v (.int k' b))=>if k=k' then Oz c k a b K else False
  | _=>False
 | .one (.v (.string a))=>match y with
  | .one (.v (.string b))=>match c with
   | .add=>Ol (jI a.size b.size) 9223372036854775807/\K (.one (.v (.string (Wu a b))))
   | c=>match yg c a b with
    | some e=>K (.one (.b e))
    | none=>False
  | _=>False
 | .one (.v (.slice A _ _))=>match y with
  | .one (.v (.slice none _ _))=>match d t with
   | some i=>match i.ty with
    | .slice _=>Da c A.isNone K
    | _=>False
   | none=>False
  | _=>False
 | .agg a=>match y with
  | .agg b=>match d t with
   | some i=>match iY i.eqk a b with
    | some e=>Da c e K
    | none=>False
   | none=>False
  | _=>False
 | .one (.loc _ _)=>match y with
  | .one (.v (.pointer none))=>match d t with
   | some i=>match i.ty with
    | .ptr _=>Da c false K
    | _=>False
   | none=>False
  | _=>False
 | .one (.v (.pointer none))=>match y with
  | .one (.v (.pointer none))=>match d t with
   | some i=>match i.ty with
    | .ptr _=>Da c true K
    | _=>False
   | none=>False
  | _=>False
 | .one (.v .nilFunc)=>match y with
  | .one (.v .nilFunc)=>match d t with
   | some i=>match i.ty with
    | .func=>Da c true K
    | _=>False
   | none=>False
  | _=>False
 | .one (.v (.func _ _ _))=>match y with
  | .one (.v .nilFunc)=>match d t with
   | some i=>match i.ty with
    | .func=>Da c false K
    | _=>False
   | none=>False
  | _=>False
 | .one a=>match y with
  | .one b=>match a.Rr with
   | some e=>match b.Rr with
    | some f=>match d t with
     | some i=>match i.ty with
      | .bool=>Da c (RF e f) K
      | _=>False
     | none=>False
    | none=>False
   | none=>False
  | _=>False
 | _=>False
def eM (A:D')(c l a:Nat):D':=if c=l then A else A.map (·.add (l*a))
def xg (a:Bool)(b:List S1)(K:SV->Prop):Prop:=match jJ a b with
 | some r=>K r
 | none=>False
inductive aI where
 | int (k:IntKind)
 | bool
 | str
 | sl
 | mp
 | val
 | cells
 | row (i:Nat) (e:TypeId)
def fM (a:fh):Nat->TypeId->List aI
 | 0,_=>[.val]
 | n+1,t=>match a t with
  | none=>[.val]
  | some i=>match i.ty with
   | .int k=>[.int k]
   | .bool=>[.bool]
   | .string=>[.str]
   | .slice _=>[.sl]
   | .struct b=>b.flatMap λ x=>fM a n x.2
   | .array m e=>(List.replicate m ()).flatMap λ _=>fM a n e
   | _=>[.val]
def Iw:List aI->(G'->List S1->Prop)->Prop
 |[],K=>K [] []
 | .int k::ls,K=>∃n:Int,Iw ls λ a d=>K (.int k n::a) (.v (.int k n)::d)
 | .bool::ls,K=>∃b:Bool,Iw ls λ a d=>K (.bool b::a) (.b b::d)
 | .str::ls,K=>∃s:ByteArray,Iw ls λ a d=>K (.string s::a) (.v (.string s)::d)
 | .sl::ls,K=>∃A n c,Iw ls λ a d=>K (.slice A n c::a) (.v (.slice A n c)::d)
 | _::ls,K=>∃v:Value,Iw ls λ a d=>K (v::a) (.v v::d)
def Va:Ty->Bool
 | .ptr _=>true
 | _=>false
def Ix (d:fh)(e:St)(t:TypeId)(x:SV)(K:SV->Prop):Prop:=
 match d t with
 | none=>False
 | some i=>
  match x with
  | .one (.loc o off)=>match kg e o with
   | some (.box _ c)=>if off+i.size<=c.length then xg i.agg ((c.drop off).take i.size) K else False
   | some (.arr _ xs)=>Iw (fM d 9 t) λ a c=>win xs off i.size=a/\(if a.length=i.size then xg i.agg c K else False)
   | _=>False
  | .one (.lx A j)=>match Va i.ty with
   | true=>if i.size=1/\i.agg=false then∃b o,Cells e.H A j [.pointer (some ⟨b,o,none⟩)]/\K (.one (.lx (some ⟨b,o,none⟩) 0))else False
   | false=>Iw (fM d 9 t) λ a c=>Cells e.H A j a/\(if a.length=i.size then xg i.agg c K else False)
  | .one (.oS o j)=>match kg e o with
   | some (.arr _ xs)=>Iw (fM d 9 t) λ a c=>win xs j i.size=a/\(if a.length=i.size then xg i.agg c K else False)
   | _=>False
  | .one (.kH o j)=>match kg e o with
   | some (.row _ _ xs)=>Iw (fM d 9 t) λ a c=>win xs j i.size=a/\(if a.length=i.size then xg i.agg c K else False)
   | _=>False
  | _=>False
def xI (a:fh)(t:TypeId)(f:Nat):Option (Nat×tj):=
 match a t with
 | some i=>match i.ty with
  | .struct b=>match b[f]? with
   | some (off,ft)=>match a ft with
    | some j=>some (off,j)
    | none=>none
   | none=>none
  | _=>none
 | none=>none
def pg (b:fh)(c:St)(t:TypeId)(x:SV)(n:Int)(K:SV->Prop):Prop:=
 match b t with
 | none=>False
 | some i=>match i.ty with
  | .slice e=>match b e with
   | none=>False
   | some j=>match x with
    | .one (.v (.slice A a _))=>cD A/\AO 0 n/\RG n (qI a)/\K (.one (.lx A (sj n j.size)))
    | .one (.own o)=>match kg c o with
     | some (.row _ a _)=>AO 0 n/\RG n (qI a)/\K (.one (.kH o (sj n j.size)))
     | _=>False
    | .one (.sub o l m sz)=>match kg c o with
     | some (.row _ _ _)=>if sz=j.size then AO 0 n/\RG n (qI m)/\K (.one (.kH o (sj (Is (qI l) n) j.size)))else False
     | _=>False
    | _=>False
  | .array a e=>match b e with
   | none=>False
   | some j=>match x with
    | .one (.loc o 0)=>match kg c o with
     | some (.arr _ _)=>AO 0 n/\RG n (qI a)/\K (.one (.oS o (sj n j.size)))
     | _=>False
    | .one (.lx A off)=>AO 0 n/\RG n (qI a)/\K (.one (.lx A (jI off (sj n j.size))))
    | .one (.kH o off)=>AO 0 n/\RG n (qI a)/\K (.one (.kH o (jI off (sj n j.size))))
    | .one (.oS o off)=>AO 0 n/\RG n (qI a)/\K (.one (.oS o (jI off (sj n j.size))))
    | _=>False
  | _=>False
def qJ (c:fh)(t:TypeId)(x:SV)(n:Int)(K:SV->Prop):Prop:=
 match c t with
 | none=>False
 | some i=>match i.ty with
  | .string=>match x with
   | .one (.v (.string s))=>AO 0 n/\RG n (qI s.size)/\K (.one (.v (.int .u8 (lY s n))))
   | _=>False
  | .array a e=>match x with
   | .agg b=>match c e with
    | none=>False
    | some j=>if 0<=n/\n<a/\n.toNat*j.size+j.size<=b.length then xg j.agg ((b.drop (n.toNat*j.size)).take j.size) K else False
   | _=>False
  | _=>False
def yh (n:Int)(K:Nat->Prop):Nat->Nat->Prop
 | 0,_=>True
 | c+1,m=>(Wo n (qI m)->K m)/\yh n K c (m+1)
def yi (b:fh)(t:TypeId)(x:SV)(n:Int)(K:SV->Prop):Prop:=
 match b t with
 | none=>False
 | some i=>match i.ty with
  | .array a e=>match x with
   | .agg c=>match b e with
    | none=>False
    | some j=>AO 0 n/\RG n (qI a)/\yh n (λ m=>if m*j.size+j.size<=c.length then xg j.agg ((c.drop (m*j.size)).take j.size) K else False) a 0
   | _=>False
  | _=>qJ b t x n K
def bound (b:St)(o:Option Operand)(a:Int):Option Int:=
 match o with
 | some o=>match ev b o with
  | some (.one (.v (.int _ n)))=>some n
  | _=>none
 | none=>some a
def Tw (a:Option Operand)(l:Int):Nat:=match a with
 | none=>0
 | some _=>l.toNat
def tm (f:fh)(a:St)(t:TypeId)(x:SV)(b d:Option Operand)(K:SV->Prop):Prop:=
 match f t with
 | none=>False
 | some i=>match i.ty with
  | .slice e=>match f e with
   | none=>False
   | some j=>match x with
    | .one (.v (.slice A n c))=>match bound a b 0,bound a d (qI n)with
     | some l,some h=>AO 0 l/\AO l h/\AO h (qI c)/\∀g,g=eM A c l.toNat j.size->K (.one (.v (.slice g (Ts h.toNat l.toNat) (Ts c l.toNat))))
     | _,_=>False
    | .one (.own o)=>match kg a o with
     | some (.row _ n _)=>match bound a b 0,bound a d (qI n)with
      | some l,some h=>AO 0 l/\AO l h/\AO h (qI n)/\K (.one (.sub o (Tw b l) (Ts h.toNat (Tw b l)) j.size))
      | _,_=>False
     | _=>False
    | _=>False
  | .string=>match x with
   | .one (.v (.string s))=>match bound a b 0,bound a d (qI s.size)with
    | some l,some h=>AO 0 l/\AO l h/\AO h (qI s.size)/\K (.one (.v (.string (s.extract l.toNat h.toNat))))
    | _,_=>False
   | _=>False
  | _=>False
def ac6 (a:fh)(i:tj)(f:Nat):Option (Nat×Nat):=
 match i.ty with
 | .struct b=>match b[f]? with
  | some (off,ft)=>match a ft with
   | some j=>some (off,j.size)
   | none=>none
  | none=>none
 | .array _ e=>match a e with
  | some j=>some (f*j.size,j.size)
  | none=>none
 | _=>none
def Dc (a:fh)(i:tj):Bool:=
 match i.ty with
 | .struct _=>i.agg
 | .array _ e=>match a e with
  | some _=>i.agg
  | none=>false
 | _=>false
def lay (b:St)(c:Nat->Option (Nat×Nat)):List (Nat×Operand)->List S1->Option (List S1)
 |[],cs=>some cs
 |(f,x)::ps,cs=>match c f with
  | some (off,sz)=>match ev b x with
   | some x=>match x.cells with
    | some a=>if a.length=sz/\off+a.length<=cs.length then lay b c ps (cs.take off++a++cs.drop (off+a.length))else none
    | none=>none
   | none=>none
  | none=>none
def yj (h:fh)(d:St)(w:Op)(K:SV->Prop):Prop:=
 match w with
 | .move x | .assign x=>match ev d x with
  | some r=>K r
  | none=>False
 | .pick c a b=>match ev d c with
  | some (.one .tt)=>match ev d a with
   | some r=>K r
   | none=>False
  | some (.one .ff)=>match ev d b with
   | some r=>K r
   | none=>False
  | _=>False
 | .load t x=>match ev d x with
  | some x=>Ix h d t x K
  | none=>False
 | .fieldAddr t x f=>match ev d x with
  | some (.one x)=>match xI h t f with
   | some (off,j)=>match j.size with
    | 0=>False
    | _+1=>match x with
     | .loc o p=>K (.one (.loc o (p+off)))
     | .lx A p=>K (.one (.lx A (jI p off)))
     | .kH o p=>K (.one (.kH o (jI p off)))
     | .oS o p=>K (.one (.oS o (jI p off)))
     | _=>False
   | none=>False
  | _=>False
 | .field t x f=>match ev d x with
  | some (.agg l)=>match xI h t f with
   | some (off,j)=>if off+j.size<=l.length then xg j.agg ((l.drop off).take j.size) K else False
   | none=>False
  | _=>False
 | .indexAddr t x q=>match ev d x with
  | some x=>match ev d q with
   | some (.one (.v (.int _ n)))=>pg h d t x n K
   | _=>False
  | none=>False
 | .index t x q=>match ev d x with
  | some x=>match ev d q with
   | some (.one (.v (.int _ n)))=>match q with
    | .const _=>qJ h t x n K
    | _=>yi h t x n K
   | _=>False
  | none=>False
 | .binOp w t x y _=>match ev d x with
  | some x=>match ev d y with
   | some y=>OA h w t x y K
   | none=>False
  | none=>False
 | .unOp .not _ x=>match ev d x with
  | some (.one .tt)=>K (.one .ff)
  | some (.one .ff)=>K (.one .tt)
  | some (.one x)=>match x.Rr with
   | some e=>K (.one (.b (Wn e)))
   | none=>False
  | _=>False
 | .unOp .neg _ x=>match ev d x with
  | some (.one (.v (.int k n)))=>ae k (RD n)/\K (.one (.v (.int k (RD n))))
  | _=>False
 | .convert z u x=>match h z with
  | some B=>match B.ty with
   | .int _=>match h u with
    | some i=>match ev d x with
     | some (.one (.v (.int _ n)))=>match i.ty with
      | .int k=>∃e,k.wrap n=e/\K (.one (.v (.int k e)))
      | _=>False
     | _=>False
    | none=>False
   | _=>False
  | none=>False
 | .extract x i=>match ev d x with
  | some (.kz l)=>match l[i]? with
   | some (g,c)=>xg g c K
   | none=>False
  | _=>False
 | .makeFunc (.func f) first cap=>match first.toList with
  |[]=>match Iv d cap.toList with
   | some l=>match Fj l with
    | some l=>K (.Fh f l)
    | none=>False
   | none=>False
  | _=>False
 | .nilCheck x=>match ev d x with
  | some (.one (.loc o p))=>K (.one (.loc o p))
  | some (.one (.lx A p))=>K (.one (.lx A p))
  | some (.one (.kH o p))=>K (.one (.kH o p))
  | some (.one (.oS o p))=>K (.one (.oS o p))
  | _=>False
 | .slice t x lo hi none=>match ev d x with
  | some x=>tm h d t x lo hi K
  | none=>False
 | .build t m=>match h t with
  | none=>False
  | some i=>match lay d (ac6 h i) m.toList (i.zero.map S1.v)with
   | some l=>if Dc h i then K (.agg l)else False
   | none=>False
 | .call {callee:= .builtin .len,args,argTypes}=>match args.toList with
  |[x]=>match argTypes.toList with
   |[t]=>match h t with
    | some i=>match i.ty with
     | .slice _=>match ev d x with
      | some (.one (.v (.slice _ n _)))=>K (.one (.v (.int .i64 (qI n))))
      | some (.one (.own o))=>match kg d o with
       | some (.row _ n _)=>K (.one (.v (.int .i64 (qI n))))
       | _=>False
      | some (.one (.sub _ _ n _))=>K (.one (.v (.int .i64 (qI n))))
      | _=>False
     | .string=>match ev d x with
      | some (.one (.v (.string s)))=>K (.one (.v (.int .i64 (qI s.size))))
      | _=>False
     | _=>False
    | none=>False
   | _=>False
  | _=>False
 | .call {callee:= .builtin .max,args,.. }=>match args.toList with
  |[x,y]=>match ev d x with
   | some (.one (.v (.int k a)))=>match ev d y with
    | some (.one (.v (.int _ b)))=>K (.one (.v (.int k (max a b))))
    | _=>False
   | _=>False
  | _=>False
 | .call {callee:= .builtin .min,args,.. }=>match args.toList with
  |[x,y]=>match ev d x with
   | some (.one (.v (.int k a)))=>match ev d y with
    | some (.one (.v (.int _ b)))=>K (.one (.v (.int k (min a b))))
    | _=>False
   | _=>False
  | _=>False
 | _=>False
end Go.Vc
