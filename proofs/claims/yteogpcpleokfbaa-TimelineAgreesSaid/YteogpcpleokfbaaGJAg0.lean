/- The verification condition of a piece of Go code over abstract states: values, memory, reading operations. Definitions only. -/
import Derived.WalkKit
import Derived.Deep.LoopGhost
set_option linter.unusedSectionVars false
set_option linter.unusedSimpArgs false
set_option linter.unusedVariables false
namespace Go.Vc
open Go Go.RowKit

/- operations on unknown data: names of their own, so that the evaluation does not go into them -/
def nadd (a b : Nat) : Nat := a + b
def nsub (a b : Nat) : Nat := a - b
def nmul (a b : Nat) : Nat := a * b
def nidx (n : Int) (sz : Nat) : Nat := n.toNat * sz
def iadd (a b : Int) : Int := a + b
def isub (a b : Int) : Int := a - b
def imul (a b : Int) : Int := a * b
def ineg (a : Int) : Int := -a
def deq (a b : Int) : Bool := decide (a = b)
def dne (a b : Int) : Bool := !decide (a = b)
def dlt (a b : Int) : Bool := decide (a < b)
def dle (a b : Int) : Bool := decide (a ≤ b)
def deqS (a b : ByteArray) : Bool := decide (a = b)
def dneS (a b : ByteArray) : Bool := !decide (a = b)
def bnt (a : Bool) : Bool := !a
def beq2 (a b : Bool) : Bool := a == b
def band (a b : Bool) : Bool := a && b
def byteAt (s : ByteArray) (n : Int) : Int := (s.data.toList.getD n.toNat 0).toNat
def cat (xs ys : List Value) : List Value := xs ++ ys
def scat (a b : ByteArray) : ByteArray := a ++ b
def splice (xs : List Value) (j : Nat) (vs : List Value) : List Value := xs.take j ++ vs ++ xs.drop (j + vs.length)
def cutR (xs : List Value) (n m : Nat) : List Value := xs.take (xs.length / n * m)
def win (xs : List Value) (j n : Nat) : List Value := (xs.drop j).take n
def leI (a b : Int) : Prop := a ≤ b
def ltI (a b : Int) : Prop := a < b
def leN (a b : Nat) : Prop := a ≤ b
def ofN (n : Nat) : Int := n
def neI (a b : Int) : Prop := a ≠ b
def eqI (a b : Int) : Prop := a = b
def someA (A : Option Addr) : Prop := ∃ b o, A = some ⟨b, o, none⟩

abbrev Heap := Nat → Nat → Option Value
/- rows of the call's own that are public as far as they are filled: block, element type, length, capacity -/
inductive XO where
  | row (e : TypeId) (n c : Nat)
  | mp (t : TypeId) (es : List (Value × Value))
abbrev OMap := Nat → Option XO
/- maps of the call's own -/
def keyEq : Value → Value → Bool
  | .int _ a, .int _ b => decide (a = b)
  | .string a, .string b => decide (a = b)
  | _, _ => false
def mfind (es : List (Value × Value)) (k : Value) : Option Value := (es.find? fun p => keyEq k p.1).map (·.2)
def mhas (es : List (Value × Value)) (k : Value) : Bool := es.any fun p => keyEq k p.1
def mput : List (Value × Value) → Value → Value → List (Value × Value)
  | [], k, v => [(k, v)]
  | p :: r, k, v => if keyEq k p.1 then (k, v) :: r else p :: mput r k v
def isMap (O : OMap) (A : Option Nat) (t : TypeId) (es : List (Value × Value)) : Prop := (A = none ∧ es = []) ∨ ∃ b, A = some b ∧ O b = some (.mp t es)
def hasM (O : OMap) (A : Option Nat) (t : TypeId) (es : List (Value × Value)) : Prop := ∃ b, A = some b ∧ O b = some (.mp t es)
def putM (O O' : OMap) (A : Option Nat) (t : TypeId) (es : List (Value × Value)) : Prop := ∃ b, A = some b ∧ O' b = some (.mp t es) ∧ ∀ b', b' ≠ b → O' b' = O b'
def newM (O O' : OMap) (b : Nat) (t : TypeId) : Prop := O b = none ∧ O' b = some (.mp t []) ∧ ∀ b', b' ≠ b → O' b' = O b'
def noO : OMap := fun _ => none
def isOpen (O : OMap) (A : Option Addr) (e : TypeId) (n c : Nat) : Prop := (A = none ∧ n = 0 ∧ c = 0) ∨ ∃ b, A = some ⟨b, 0, none⟩ ∧ O b = some (.row e n c)
def keepO (O O' : OMap) (A A' : Option Addr) : Prop := ∀ b, O b ≠ none → A ≠ some ⟨b, 0, none⟩ → A' ≠ some ⟨b, 0, none⟩ ∧ O' b = O b
def Heap.le (H H' : Heap) : Prop := ∀ b o v, H b o = some v → H' b o = some v

inductive S1 where
  | any
  | un
  | v (x : Value)
  | b (x : Bool)
  | tt
  | ff
  | loc (i off : Nat)
  | elt (A : Option Addr) (j : Nat)
  | oelt (i j : Nat)
  | aelt (i j : Nat)
  | own (i : Nat)
  | sub (i l m sz : Nat)
  | pin (i : Nat) (s : Value)
  | me (i b : Nat)

inductive SV where
  | one (x : S1)
  | agg (cs : List S1)
  | clo (f : FuncId) (cap : List S1)
  | tup (cs : List (Bool × List S1))

inductive LObj where
  | box (t : TypeId) (cs : List S1)
  | arr (t : TypeId) (xs : List Value)
  | row (e : TypeId) (n : Nat) (xs : List Value)
  | pub (A : Option Addr) (n c : Nat)
  | dead

/- an object of the call's own: may it be written, and what it holds -/
abbrev Ent := Bool × LObj
structure St where
  fr : List SV
  L : List (Option Ent)
  H : Heap
  O : OMap

inductive Ty where
  | int (k : IntKind)
  | bool
  | string
  | slice (e : TypeId)
  | struct (fs : List (Nat × TypeId))
  | array (n : Nat) (e : TypeId)
  | map (k e : TypeId)
  | ptr (e : TypeId)
  | other

/- how a cell is compared -/
inductive EK where
  | int
  | bool
  | str

structure TyI where
  ty : Ty
  size : Nat
  bytes : Nat
  zero : List Value
  agg : Bool
  eqk : List EK

abbrev Tab := TypeId → Option TyI

/- public memory: the cells cs lie behind A from cell j on -/
def Cells (H : Heap) (A : Option Addr) (j : Nat) (cs : List Value) : Prop :=
  cs = [] ∨ ∃ b o, A = some ⟨b, o, none⟩ ∧ ∀ t v, cs[t]? = some v → H b (o + j + t) = some v ∧ v.oneCell' = true

/- symbolic values -/
def S1.toV : S1 → Option Value
  | .v x => some x
  | .b x => some (.bool x)
  | .tt => some (.bool true)
  | .ff => some (.bool false)
  | _ => none
def toVs : List S1 → Option (List Value)
  | [] => some []
  | c :: cs =>
    match c.toV with
    | some x => match toVs cs with
      | some xs => some (x :: xs)
      | none => none
    | none => none
def S1.asB : S1 → Option Bool
  | .v (.bool x) => some x
  | .b x => some x
  | .tt => some true
  | .ff => some false
  | _ => none
def S1.ok1 : S1 → Bool
  | .any | .un => false
  | .v (.agg _) => false
  | .v (.tuple _) => false
  | .elt _ _ => false
  | _ => true
def ok1s : List S1 → Bool
  | [] => true
  | c :: cs => c.ok1 && ok1s cs
/- known to be the value of one cell -/
def S1.one1 : S1 → Bool
  | .any | .un => false
  | .v (.agg _) => false
  | .v (.tuple _) => false
  | _ => true
def SV.cells : SV → Option (List S1)
  | .one x => match x.one1 with
    | true => some [x]
    | false => none
  | .agg cs => some cs
  | _ => none
def mkSV (agg : Bool) (cs : List S1) : Option SV :=
  match agg, cs with
  | true, cs => some (.agg cs)
  | false, [c] => some (.one c)
  | false, _ => none
def ofV : Value → SV
  | .agg cs => .agg (cs.toList.map S1.v)
  | .bool true => .one .tt
  | .bool false => .one .ff
  | x => .one (.v x)
def getL (st : St) (d : Nat) : Option LObj := match st.L[d]? with
  | some (some (_, o)) => some o
  | _ => none
/- an object that may be written -/
def getW (st : St) (d : Nat) : Option LObj := match st.L[d]? with
  | some (some (true, o)) => some o
  | _ => none
def fresh? (st : St) (d : Nat) : Bool := match st.L[d]? with
  | some none => true
  | _ => false

/- a row that has been made public reads as the plain slice -/
def res1 (st : St) : S1 → S1
  | .own i => match getL st i with
    | some (.pub A n c) => .v (.slice A n c)
    | _ => .own i
  | .pin i _ => match getL st i with
    | some (.pub A n c) => .v (.slice A n c)
    | _ => .own i
  | .me i _ => .loc i 0
  | x => x
def resV (st : St) : SV → SV
  | .one x => .one (res1 st x)
  | .agg cs => .agg (cs.map (res1 st))
  | .clo f cap => .clo f (cap.map (res1 st))
  | .tup cs => .tup (cs.map fun x => (x.1, x.2.map (res1 st)))
def ev (st : St) : Operand → Option SV
  | .tmp t => match st.fr[t]? with
    | some x => some (resV st x)
    | none => none
  | .const v => some (ofV v)
  | .func f => some (.clo f [])
  | .global _ => none
def evs (st : St) : List Operand → Option (List SV)
  | [] => some []
  | o :: os => match ev st o with
    | some x => match evs st os with
      | some xs => some (x :: xs)
      | none => none
    | none => none
def ones : List SV → Option (List S1)
  | [] => some []
  | .one x :: xs => match ones xs with
    | some ys => some (x :: ys)
    | none => none
  | _ => none
/- the argument's Go value, where it holds nothing of the call's own -/
def SV.plain : SV → Option Value
  | .one x => x.toV
  | .agg cs => match toVs cs with
    | some xs => some (.agg ⟨xs⟩)
    | none => none
  | .clo f [] => some (.func (.func f) #[] #[])
  | _ => none
def plains : List SV → Option (List Value)
  | [] => some []
  | x :: xs => match x.plain with
    | some v => match plains xs with
      | some vs => some (v :: vs)
      | none => none
    | none => none

def setS (st : St) (d : Option Tmp) (x : SV) : St :=
  match d with
  | some d => { st with fr := st.fr.set d x }
  | none => st
def setL (st : St) (d : Nat) (x : LObj) : St := { st with L := st.L.set d (some (true, x)) }
/- integers -/
def rng (k : IntKind) (e : Int) : Prop :=
  match k with
  | .i8 => -128 ≤ e ∧ e ≤ 127
  | .i16 => -32768 ≤ e ∧ e ≤ 32767
  | .i32 => -2147483648 ≤ e ∧ e ≤ 2147483647
  | .i64 => -9223372036854775808 ≤ e ∧ e ≤ 9223372036854775807
  | .u8 => 0 ≤ e ∧ e ≤ 255
  | .u16 => 0 ≤ e ∧ e ≤ 65535
  | .u32 => 0 ≤ e ∧ e ≤ 4294967295
  | .u64 => 0 ≤ e ∧ e ≤ 18446744073709551615
def eqCell : EK → S1 → S1 → Option Bool
  | .int, .v (.int k x), .v (.int k' y) => if k = k' then some (deq x y) else none
  | .str, .v (.string x), .v (.string y) => some (deqS x y)
  | .bool, x, y => match x.asB with
    | some x => match y.asB with
      | some y => some (beq2 x y)
      | none => none
    | none => none
  | _, _, _ => none
def eqCells : List EK → List S1 → List S1 → Option Bool
  | [k], [x], [y] => eqCell k x y
  | k :: ks, x :: xs, y :: ys => match eqCell k x y with
    | some e => match eqCells ks xs ys with
      | some f => some (band e f)
      | none => none
    | none => none
  | _, _, _ => none
def vcCmp (op : BinOp) (x y : Int) : Option Bool :=
  match op with
  | .eql => some (deq x y)
  | .neq => some (dne x y)
  | .lss => some (dlt x y)
  | .leq => some (dle x y)
  | .gtr => some (dlt y x)
  | .geq => some (dle y x)
  | _ => none
def vcStrCmp (op : BinOp) (x y : ByteArray) : Option Bool :=
  match op with
  | .eql => some (deqS x y)
  | .neq => some (dneS x y)
  | .lss => some (Op.bytesLess x.toList y.toList)
  | .geq => some (bnt (Op.bytesLess x.toList y.toList))
  | _ => none
def vcInt (op : BinOp) (k : IntKind) (x y : Int) (K : SV → Prop) : Prop :=
  match op with
  | .add => rng k (iadd x y) ∧ K (.one (.v (.int k (iadd x y))))
  | .sub => rng k (isub x y) ∧ K (.one (.v (.int k (isub x y))))
  | .mul => rng k (imul x y) ∧ K (.one (.v (.int k (imul x y))))
  | .rem => neI y 0 ∧ K (.one (.v (.int k (x.tmod y))))
  | .quo => neI y 0 ∧ rng k (x.tdiv y) ∧ K (.one (.v (.int k (x.tdiv y))))
  | .shr => eqI y 1 ∧ K (.one (.v (.int k (x.fdiv 2))))
  | op => match vcCmp op x y with
    | some e => K (.one (.b e))
    | none => False
def vcEq (op : BinOp) (e : Bool) (K : SV → Prop) : Prop :=
  match op with
  | .eql => K (.one (.b e))
  | .neq => K (.one (.b (bnt e)))
  | _ => False
def vcBin (Γ : Tab) (op : BinOp) (t : TypeId) (x y : SV) (K : SV → Prop) : Prop :=
  match x with
  | .one (.v (.int k a)) => match y with
    | .one (.v (.int k' b)) => if k = k' then vcInt op k a b K else False
    | _ => False
  | .one (.v (.string a)) => match y with
    | .one (.v (.string b)) => match op with
      | .add => leN (nadd a.size b.size) 9223372036854775807 ∧ K (.one (.v (.string (scat a b))))
      | op => match vcStrCmp op a b with
        | some e => K (.one (.b e))
        | none => False
    | _ => False
  | .one (.v (.slice A _ _)) => match y with
    | .one (.v (.slice none _ _)) => match Γ t with
      | some i => match i.ty with
        | .slice _ => vcEq op A.isNone K
        | _ => False
      | none => False
    | _ => False
  | .agg a => match y with
    | .agg b => match Γ t with
      | some i => match eqCells i.eqk a b with
        | some e => vcEq op e K
        | none => False
      | none => False
    | _ => False
  | .one (.loc _ _) => match y with
    | .one (.v (.pointer none)) => match Γ t with
      | some i => match i.ty with
        | .ptr _ => vcEq op false K
        | _ => False
      | none => False
    | _ => False
  | .one (.v (.pointer none)) => match y with
    | .one (.v (.pointer none)) => match Γ t with
      | some i => match i.ty with
        | .ptr _ => vcEq op true K
        | _ => False
      | none => False
    | _ => False
  | .one a => match y with
    | .one b => match a.asB with
      | some e => match b.asB with
        | some f => match Γ t with
          | some i => match i.ty with
            | .bool => vcEq op (beq2 e f) K
            | _ => False
          | none => False
        | none => False
      | none => False
    | _ => False
  | _ => False

def subA (A : Option Addr) (c l sz : Nat) : Option Addr := if c = l then A else A.map (·.add (l * sz))
def vcMk (agg : Bool) (cs : List S1) (K : SV → Prop) : Prop := match mkSV agg cs with
  | some r => K r
  | none => False

/- typed leaves of types, results and loop variables -/
inductive Leaf where
  | int (k : IntKind)
  | bool
  | str
  | sl
  | mp
  | val
  | cells
  | row (i : Nat) (e : TypeId)
def leavesOf (Γ : Tab) : Nat → TypeId → List Leaf
  | 0, _ => [.val]
  | n + 1, t => match Γ t with
    | none => [.val]
    | some i => match i.ty with
      | .int k => [.int k]
      | .bool => [.bool]
      | .string => [.str]
      | .slice _ => [.sl]
      | .struct fs => fs.flatMap fun x => leavesOf Γ n x.2
      | .array m e => (List.replicate m ()).flatMap fun _ => leavesOf Γ n e
      | _ => [.val]
/- there are values for the leaves -/
def exQ : List Leaf → (List Value → List S1 → Prop) → Prop
  | [], K => K [] []
  | .int k :: ls, K => ∃ n : Int, exQ ls fun vs cs => K (.int k n :: vs) (.v (.int k n) :: cs)
  | .bool :: ls, K => ∃ b : Bool, exQ ls fun vs cs => K (.bool b :: vs) (.b b :: cs)
  | .str :: ls, K => ∃ s : ByteArray, exQ ls fun vs cs => K (.string s :: vs) (.v (.string s) :: cs)
  | .sl :: ls, K => ∃ A n c, exQ ls fun vs cs => K (.slice A n c :: vs) (.v (.slice A n c) :: cs)
  | _ :: ls, K => ∃ v : Value, exQ ls fun vs cs => K (v :: vs) (.v v :: cs)

def isPtr : Ty → Bool
  | .ptr _ => true
  | _ => false
def vcLoad (Γ : Tab) (st : St) (t : TypeId) (x : SV) (K : SV → Prop) : Prop :=
  match Γ t with
  | none => False
  | some i =>
    match x with
    | .one (.loc o off) => match getL st o with
      | some (.box _ cs) => if off + i.size ≤ cs.length then vcMk i.agg ((cs.drop off).take i.size) K else False
      | some (.arr _ xs) => exQ (leavesOf Γ 9 t) fun vs cs => win xs off i.size = vs ∧ (if vs.length = i.size then vcMk i.agg cs K else False)
      | _ => False
    | .one (.elt A j) => match isPtr i.ty with
      | true => if i.size = 1 ∧ i.agg = false then ∃ b o, Cells st.H A j [.pointer (some ⟨b, o, none⟩)] ∧ K (.one (.elt (some ⟨b, o, none⟩) 0)) else False
      | false => exQ (leavesOf Γ 9 t) fun vs cs => Cells st.H A j vs ∧ (if vs.length = i.size then vcMk i.agg cs K else False)
    | .one (.aelt o j) => match getL st o with
      | some (.arr _ xs) => exQ (leavesOf Γ 9 t) fun vs cs => win xs j i.size = vs ∧ (if vs.length = i.size then vcMk i.agg cs K else False)
      | _ => False
    | .one (.oelt o j) => match getL st o with
      | some (.row _ _ xs) => exQ (leavesOf Γ 9 t) fun vs cs => win xs j i.size = vs ∧ (if vs.length = i.size then vcMk i.agg cs K else False)
      | _ => False
    | _ => False

def vcField (Γ : Tab) (t : TypeId) (f : Nat) : Option (Nat × TyI) :=
  match Γ t with
  | some i => match i.ty with
    | .struct fs => match fs[f]? with
      | some (off, ft) => match Γ ft with
        | some j => some (off, j)
        | none => none
      | none => none
    | _ => none
  | none => none

def vcIndexAddr (Γ : Tab) (st : St) (t : TypeId) (x : SV) (n : Int) (K : SV → Prop) : Prop :=
  match Γ t with
  | none => False
  | some i => match i.ty with
    | .slice e => match Γ e with
      | none => False
      | some j => match x with
        | .one (.v (.slice A len _)) => someA A ∧ leI 0 n ∧ ltI n (ofN len) ∧ K (.one (.elt A (nidx n j.size)))
        | .one (.own o) => match getL st o with
          | some (.row _ len _) => leI 0 n ∧ ltI n (ofN len) ∧ K (.one (.oelt o (nidx n j.size)))
          | _ => False
        | .one (.sub o l m sz) => match getL st o with
          | some (.row _ _ _) => if sz = j.size then leI 0 n ∧ ltI n (ofN m) ∧ K (.one (.oelt o (nidx (iadd (ofN l) n) j.size))) else False
          | _ => False
        | _ => False
    | .array len e => match Γ e with
      | none => False
      | some j => match x with
        | .one (.loc o 0) => match getL st o with
          | some (.arr _ _) => leI 0 n ∧ ltI n (ofN len) ∧ K (.one (.aelt o (nidx n j.size)))
          | _ => False
        | .one (.elt A off) => leI 0 n ∧ ltI n (ofN len) ∧ K (.one (.elt A (nadd off (nidx n j.size))))
        | .one (.oelt o off) => leI 0 n ∧ ltI n (ofN len) ∧ K (.one (.oelt o (nadd off (nidx n j.size))))
        | .one (.aelt o off) => leI 0 n ∧ ltI n (ofN len) ∧ K (.one (.aelt o (nadd off (nidx n j.size))))
        | _ => False
    | _ => False
def vcIndex (Γ : Tab) (t : TypeId) (x : SV) (n : Int) (K : SV → Prop) : Prop :=
  match Γ t with
  | none => False
  | some i => match i.ty with
    | .string => match x with
      | .one (.v (.string s)) => leI 0 n ∧ ltI n (ofN s.size) ∧ K (.one (.v (.int .u8 (byteAt s n))))
      | _ => False
    | .array len e => match x with
      | .agg cs => match Γ e with
        | none => False
        | some j => if 0 ≤ n ∧ n < len ∧ n.toNat * j.size + j.size ≤ cs.length then vcMk j.agg ((cs.drop (n.toNat * j.size)).take j.size) K else False
      | _ => False
    | _ => False
/- at an index that is not laid down: the element is one of them -/
def vcIdxAll (n : Int) (K : Nat → Prop) : Nat → Nat → Prop
  | 0, _ => True
  | c + 1, m => (eqI n (ofN m) → K m) ∧ vcIdxAll n K c (m + 1)
def vcIndexS (Γ : Tab) (t : TypeId) (x : SV) (n : Int) (K : SV → Prop) : Prop :=
  match Γ t with
  | none => False
  | some i => match i.ty with
    | .array len e => match x with
      | .agg cs => match Γ e with
        | none => False
        | some j => leI 0 n ∧ ltI n (ofN len) ∧ vcIdxAll n (fun m => if m * j.size + j.size ≤ cs.length then vcMk j.agg ((cs.drop (m * j.size)).take j.size) K else False) len 0
      | _ => False
    | _ => vcIndex Γ t x n K
def bound (st : St) (o : Option Operand) (dflt : Int) : Option Int :=
  match o with
  | some o => match ev st o with
    | some (.one (.v (.int _ n))) => some n
    | _ => none
  | none => some dflt
def lowN (lo : Option Operand) (l : Int) : Nat := match lo with
  | none => 0
  | some _ => l.toNat
def vcSlice (Γ : Tab) (st : St) (t : TypeId) (x : SV) (lo hi : Option Operand) (K : SV → Prop) : Prop :=
  match Γ t with
  | none => False
  | some i => match i.ty with
    | .slice e => match Γ e with
      | none => False
      | some j => match x with
        | .one (.v (.slice A n c)) => match bound st lo 0, bound st hi (ofN n) with
          | some l, some h => leI 0 l ∧ leI l h ∧ leI h (ofN c) ∧ ∀ A', A' = subA A c l.toNat j.size → K (.one (.v (.slice A' (nsub h.toNat l.toNat) (nsub c l.toNat))))
          | _, _ => False
        | .one (.own o) => match getL st o with
          | some (.row _ n _) => match bound st lo 0, bound st hi (ofN n) with
            | some l, some h => leI 0 l ∧ leI l h ∧ leI h (ofN n) ∧ K (.one (.sub o (lowN lo l) (nsub h.toNat (lowN lo l)) j.size))
            | _, _ => False
          | _ => False
        | _ => False
    | .string => match x with
      | .one (.v (.string s)) => match bound st lo 0, bound st hi (ofN s.size) with
        | some l, some h => leI 0 l ∧ leI l h ∧ leI h (ofN s.size) ∧ K (.one (.v (.string (s.extract l.toNat h.toNat))))
        | _, _ => False
      | _ => False
    | _ => False
/- the parts of a struct or array, laid over its zero -/
def places (Γ : Tab) (i : TyI) (f : Nat) : Option (Nat × Nat) :=
  match i.ty with
  | .struct fs => match fs[f]? with
    | some (off, ft) => match Γ ft with
      | some j => some (off, j.size)
      | none => none
    | none => none
  | .array _ e => match Γ e with
    | some j => some (f * j.size, j.size)
    | none => none
  | _ => none
def buildOK (Γ : Tab) (i : TyI) : Bool :=
  match i.ty with
  | .struct _ => i.agg
  | .array _ e => match Γ e with
    | some _ => i.agg
    | none => false
  | _ => false
def lay (st : St) (pl : Nat → Option (Nat × Nat)) : List (Nat × Operand) → List S1 → Option (List S1)
  | [], cs => some cs
  | (f, x) :: ps, cs => match pl f with
    | some (off, sz) => match ev st x with
      | some x => match x.cells with
        | some ys => if ys.length = sz ∧ off + ys.length ≤ cs.length then lay st pl ps (cs.take off ++ ys ++ cs.drop (off + ys.length)) else none
        | none => none
      | none => none
    | none => none

/- what reads alone -/
def vcRd (Γ : Tab) (st : St) (op : Op) (K : SV → Prop) : Prop :=
  match op with
  | .move x | .assign x => match ev st x with
    | some r => K r
    | none => False
  | .pick c a b => match ev st c with
    | some (.one .tt) => match ev st a with
      | some r => K r
      | none => False
    | some (.one .ff) => match ev st b with
      | some r => K r
      | none => False
    | _ => False
  | .load t x => match ev st x with
    | some x => vcLoad Γ st t x K
    | none => False
  | .fieldAddr t x f => match ev st x with
    | some (.one x) => match vcField Γ t f with
      | some (off, j) => match j.size with
        | 0 => False
        | _ + 1 => match x with
          | .loc o p => K (.one (.loc o (p + off)))
          | .elt A p => K (.one (.elt A (nadd p off)))
          | .oelt o p => K (.one (.oelt o (nadd p off)))
          | .aelt o p => K (.one (.aelt o (nadd p off)))
          | _ => False
      | none => False
    | _ => False
  | .field t x f => match ev st x with
    | some (.agg cs) => match vcField Γ t f with
      | some (off, j) => if off + j.size ≤ cs.length then vcMk j.agg ((cs.drop off).take j.size) K else False
      | none => False
    | _ => False
  | .indexAddr t x ix => match ev st x with
    | some x => match ev st ix with
      | some (.one (.v (.int _ n))) => vcIndexAddr Γ st t x n K
      | _ => False
    | none => False
  | .index t x ix => match ev st x with
    | some x => match ev st ix with
      | some (.one (.v (.int _ n))) => match ix with
        | .const _ => vcIndex Γ t x n K
        | _ => vcIndexS Γ t x n K
      | _ => False
    | none => False
  | .binOp op t x y _ => match ev st x with
    | some x => match ev st y with
      | some y => vcBin Γ op t x y K
      | none => False
    | none => False
  | .unOp .not _ x => match ev st x with
    | some (.one .tt) => K (.one .ff)
    | some (.one .ff) => K (.one .tt)
    | some (.one x) => match x.asB with
      | some e => K (.one (.b (bnt e)))
      | none => False
    | _ => False
  | .unOp .neg _ x => match ev st x with
    | some (.one (.v (.int k n))) => rng k (ineg n) ∧ K (.one (.v (.int k (ineg n))))
    | _ => False
  | .convert src dst x => match Γ src with
    | some i0 => match i0.ty with
      | .int _ => match Γ dst with
        | some i => match ev st x with
          | some (.one (.v (.int _ n))) => match i.ty with
            | .int k => ∃ e, k.wrap n = e ∧ K (.one (.v (.int k e)))
            | _ => False
          | _ => False
        | none => False
      | _ => False
    | none => False
  | .extract x i => match ev st x with
    | some (.tup cs) => match cs[i]? with
      | some (g, c) => vcMk g c K
      | none => False
    | _ => False
  | .makeFunc (.func f) first cap => match first.toList with
    | [] => match evs st cap.toList with
      | some cs => match ones cs with
        | some cs => K (.clo f cs)
        | none => False
      | none => False
    | _ => False
  | .nilCheck x => match ev st x with
    | some (.one (.loc o p)) => K (.one (.loc o p))
    | some (.one (.elt A p)) => K (.one (.elt A p))
    | some (.one (.oelt o p)) => K (.one (.oelt o p))
    | some (.one (.aelt o p)) => K (.one (.aelt o p))
    | _ => False
  | .slice t x lo hi none => match ev st x with
    | some x => vcSlice Γ st t x lo hi K
    | none => False
  | .build t parts => match Γ t with
    | none => False
    | some i => match lay st (places Γ i) parts.toList (i.zero.map S1.v) with
      | some cs => if buildOK Γ i then K (.agg cs) else False
      | none => False
  | .call { callee := .builtin .len, args, argTypes } => match args.toList with
    | [x] => match argTypes.toList with
      | [t] => match Γ t with
        | some i => match i.ty with
          | .slice _ => match ev st x with
            | some (.one (.v (.slice _ n _))) => K (.one (.v (.int .i64 (ofN n))))
            | some (.one (.own o)) => match getL st o with
              | some (.row _ n _) => K (.one (.v (.int .i64 (ofN n))))
              | _ => False
            | some (.one (.sub _ _ n _)) => K (.one (.v (.int .i64 (ofN n))))
            | _ => False
          | .string => match ev st x with
            | some (.one (.v (.string s))) => K (.one (.v (.int .i64 (ofN s.size))))
            | _ => False
          | _ => False
        | none => False
      | _ => False
    | _ => False
  | .call { callee := .builtin .max, args, .. } => match args.toList with
    | [x, y] => match ev st x with
      | some (.one (.v (.int k a))) => match ev st y with
        | some (.one (.v (.int _ b))) => K (.one (.v (.int k (max a b))))
        | _ => False
      | _ => False
    | _ => False
  | .call { callee := .builtin .min, args, .. } => match args.toList with
    | [x, y] => match ev st x with
      | some (.one (.v (.int k a))) => match ev st y with
        | some (.one (.v (.int _ b))) => K (.one (.v (.int k (min a b))))
        | _ => False
      | _ => False
    | _ => False
  | _ => False

end Go.Vc
