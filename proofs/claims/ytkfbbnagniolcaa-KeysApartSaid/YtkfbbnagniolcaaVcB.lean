/- Contracts, effects, regions, code: the verification condition. Definitions only. -/
import Derived.Test.YtkfbbnagniolcaaVcA
import Derived.Test.YtkfbbnagniolcaaVcR
import Derived.OrdersHeld
set_option linter.unusedSectionVars false
set_option linter.unusedSimpArgs false
set_option linter.unusedVariables false
namespace Go.Vc
open Go Go.RowKit

def PostL : List Leaf → Type → Type
  | [], R => R
  | .int _ :: ls, R => Int → PostL ls R
  | .bool :: ls, R => Bool → PostL ls R
  | .str :: ls, R => ByteArray → PostL ls R
  | .sl :: ls, R => Option Addr → Nat → Nat → PostL ls R
  | .val :: ls, R => Value → PostL ls R
  | .cells :: ls, R => List Value → PostL ls R
  | .row _ _ :: ls, R => Nat → List Value → PostL ls R
structure RSh where
  tup : Bool
  parts : List (Bool × List Leaf)
def PostR : List (Bool × List Leaf) → Type → Type
  | [], R => R
  | (_, ls) :: r, R => PostL ls (PostR r R)

/- a new row in a result: slice value, element type, length, cells -/
structure NRow where
  s : Value
  e : TypeId
  n : Nat
  xs : List Value
/- the values that a typed post lets through -/
def exL : (ls : List Leaf) → {R : Type} → PostL ls R → List NRow → (List Value → List NRow → R → Prop) → Prop
  | [], _, p, nr, K => K [] nr p
  | .int k :: ls, _, p, nr, K => ∃ n : Int, exL ls (p n) nr fun vs nr q => K (.int k n :: vs) nr q
  | .bool :: ls, _, p, nr, K => ∃ b : Bool, exL ls (p b) nr fun vs nr q => K (.bool b :: vs) nr q
  | .str :: ls, _, p, nr, K => ∃ s : ByteArray, exL ls (p s) nr fun vs nr q => K (.string s :: vs) nr q
  | .sl :: ls, _, p, nr, K => ∃ A n c, exL ls (p A n c) nr fun vs nr q => K (.slice A n c :: vs) nr q
  | .val :: ls, _, p, nr, K => ∃ v : Value, v.oneCell' = true ∧ exL ls (p v) nr fun vs nr q => K (v :: vs) nr q
  | .cells :: _, _, _, _, _ => False
  | .row _ e :: ls, _, p, nr, K => ∃ r nr', nr = r :: nr' ∧ r.e = e ∧ exL ls (p r.n r.xs) nr' fun vs nr q => K (r.s :: vs) nr q
def mkV (agg : Bool) (vs : List Value) : Option Value :=
  match agg, vs with
  | true, vs => some (.agg ⟨vs⟩)
  | false, [v] => some v
  | false, _ => none
def exR : (ps : List (Bool × List Leaf)) → {R : Type} → PostR ps R → List NRow → (List Value → List NRow → R → Prop) → Prop
  | [], _, p, nr, K => K [] nr p
  | (g, ls) :: ps, _, p, nr, K => exL ls p nr fun vs nr q => ∃ v, mkV g vs = some v ∧ exR ps q nr fun us nr q => K (v :: us) nr q
def Fits (sh : RSh) (post : PostR sh.parts (Heap → Prop)) (v : Value) (H : Heap) (nr : List NRow) : Prop :=
  exR sh.parts post nr fun vs nr' q => nr' = [] ∧ (if sh.tup then v = .tuple ⟨vs⟩ else vs = [v]) ∧ q H

def Snap (H : Heap) (w : World) : Prop := ∀ b o v, H b o = some v → w.cell? ⟨b, o, none⟩ = some v
def FnOK (P : Program) (f : FuncId) : Prop := ∃ fn, P.funcs[f]? = some fn ∧ fn.body.isSome = true ∧ (fn.name == "runtime.NumGoroutine") = false
/- how the world and the public memory may grow during a call -/
structure Grows (w w' : World) (H H' : Heap) : Prop where
  below : Below w.heap.size w w'
  le : Heap.le H H'
  old : ∀ b, b < w.heap.size → ∀ o, H' b o = H b o
  snap : Snap H' w'
  drawn : w.drawn ≤ w'.drawn
def NewRow (P : Program) (w w' : World) (H' : Heap) (r : NRow) : Prop :=
  w'.ownsRow w.heap.size r.e (P.cellsOf r.e) r.s r.n r.xs ∧ (∀ x ∈ r.xs, x.oneCell' = true) ∧ ∀ g, r.s.ownBlock = some g → ∀ o, H' g o = none
def apartRows (nr : List NRow) : Prop := nr.Pairwise fun r r' => ∀ g, r.s.ownBlock = some g → r'.s.ownBlock ≠ some g
/- THE CONTRACT: in whatever world that shows the public memory H, the call returns, and its result fits -/
def ConT (P : Program) (f : FuncId) (args : List Value) (H : Heap) (sh : RSh) (post : PostR sh.parts (Heap → Prop)) : Prop :=
  FnOK P f ∧ ∀ w, Snap H w → Calls P f args.toArray w fun e w' => ∃ v H' nr, e = .returned v ∧ Fits sh post v H' nr ∧ Grows w w' H H' ∧
    (∀ r ∈ nr, NewRow P w w' H' r) ∧ apartRows nr

/- a call that is handed one row of the caller's own: it may write it and hand it back -/
structure BelX (w w' : World) (g : Option Nat) : Prop where
  os : w'.os = w.os
  tape : w'.tape = w.tape
  output : w'.output = w.output
  size : w.heap.size ≤ w'.heap.size
  block : ∀ k, k < w.heap.size → g ≠ some k → w'.heap[k]? = w.heap[k]?
  drawn : w.drawn ≤ w'.drawn
/- where a call began: the world, and the block of the row that it was handed -/
structure W0 where
  w : World
  g : Option Nat
/- a block that the call may write and give away: new, or handed -/
def W0.nw (w0 : W0) (b : Nat) : Prop := w0.w.heap.size ≤ b ∨ w0.g = some b
theorem W0.old {w0 : W0} {b : Nat} (h : ¬ w0.nw b) : b < w0.w.heap.size ∧ w0.g ≠ some b := ⟨by
  rcases Nat.lt_or_ge b w0.w.heap.size with h1 | h1
  · exact h1
  · exact absurd (.inl h1) h, fun h1 => h (.inr h1)⟩
structure owns (w : World) (w0 : W0) (e : TypeId) (sz : Nat) (v : Value) (n : Nat) (xs : List Value) : Prop where
  row : w.ownsRow 0 e sz v n xs
  nw : ∀ g, v.ownBlock = some g → w0.nw g
theorem owns.cells {w : World} {w0 : W0} {e : TypeId} {sz : Nat} {v : Value} {n : Nat} {xs : List Value} (h : owns w w0 e sz v n xs) {g : Nat} (hg : v.ownBlock = some g) : ∀ j u, xs[j]? = some u → w.cell? ((⟨g, 0, none⟩ : Addr).add j) = some u := h.row.cells hg
theorem owns.lt {w : World} {w0 : W0} {e : TypeId} {sz : Nat} {v : Value} {n : Nat} {xs : List Value} (h : owns w w0 e sz v n xs) : ∀ k, v.ownBlock = some k → w0.nw k ∧ k < w.heap.size := fun k hk => ⟨h.nw k hk, (h.row.lt k hk).2⟩
theorem owns.kept {w w' : World} {row : Option Nat} {w0 : W0} {e : TypeId} {sz : Nat} {v : Value} {n : Nat} {xs : List Value} (h : owns w w0 e sz v n xs) (hg : w.grownBy w' row) (hne : v.ownBlock = none ∨ v.ownBlock ≠ row) : owns w' w0 e sz v n xs := ⟨h.row.kept hg hne, h.nw⟩
theorem owns.nil (w : World) (w0 : W0) (e : TypeId) (sz : Nat) : owns w w0 e sz (.slice none 0 0) 0 [] := ⟨World.ownsRow_nil w 0 e sz, fun g h => by simp [Value.ownBlock] at h⟩
theorem ownsRow_base0 {w : World} {B : Nat} {e : TypeId} {sz : Nat} {v : Value} {n : Nat} {xs : List Value} (h : w.ownsRow B e sz v n xs) : w.ownsRow 0 e sz v n xs := by
  refine ⟨h.1, ?_⟩
  rcases h.2 with h | ⟨g, cap, cur, hv, _, h⟩
  · exact .inl h
  · exact .inr ⟨g, cap, cur, hv, Nat.zero_le _, h⟩
theorem BelX.grown {w0 w w' : World} {g row : Option Nat} (h : BelX w0 w g) (hg : w.grownBy w' row) (hd : w.drawn ≤ w'.drawn) (hr : ∀ k, row = some k → w0.heap.size ≤ k ∨ g = some k) : BelX w0 w' g :=
  ⟨hg.os.trans h.os, hg.tape.trans h.tape, hg.output.trans h.output, Nat.le_trans h.size hg.size, fun k hk hne => (hg.block k (Nat.lt_of_lt_of_le hk h.size) (fun e => by rcases hr k e.symm with h1 | h1; omega; exact hne h1)).trans (h.block k hk hne), Nat.le_trans h.drawn hd⟩
structure GrowsX (w w' : World) (H H' : Heap) (g : Option Nat) : Prop where
  below : BelX w w' g
  le : Heap.le H H'
  old : ∀ b, b < w.heap.size → g ≠ some b → ∀ o, H' b o = H b o
  snap : Snap H' w'
def RowX (P : Program) (w' : World) (B : Nat) (H' : Heap) (r : NRow) : Prop :=
  w'.ownsRow B r.e (P.cellsOf r.e) r.s r.n r.xs ∧ (∀ x ∈ r.xs, x.oneCell' = true) ∧ ∀ g, r.s.ownBlock = some g → ∀ o, H' g o = none
def ConM (P : Program) (f : FuncId) (args : List Value) (k : Nat) (e : TypeId) (n : Nat) (xs : List Value) (keep : Bool) (H : Heap) (sh : RSh) (post : List Value → PostR sh.parts (Heap → Prop)) : Prop :=
  FnOK P f ∧ ∀ (w : World) (B : Nat) (s : Value), Snap H w → B ≤ w.heap.size → RowX P w B H ⟨s, e, n, xs⟩ → Calls P f (args.set k s).toArray w fun e' w' => ∃ v H' nr ys, e' = .returned v ∧ Fits sh (post ys) v H' nr ∧
    GrowsX w w' H H' s.ownBlock ∧ (keep = true → RowX P w' B H' ⟨s, e, n, ys⟩) ∧
    (∀ r ∈ nr, RowX P w' B H' r ∧ ∀ g, r.s.ownBlock = some g → w.heap.size ≤ g ∨ (keep = false ∧ s.ownBlock = some g)) ∧ apartRows nr
/- all values of the leaves, laid into the state -/
def allL : (ls : List Leaf) → {R : Type} → PostL ls R → St → (List S1 → St → R → Prop) → Prop
  | [], _, p, st, K => K [] st p
  | .int k :: ls, _, p, st, K => ∀ n : Int, allL ls (p n) st fun cs st q => K (.v (.int k n) :: cs) st q
  | .bool :: ls, _, p, st, K => ∀ b : Bool, allL ls (p b) st fun cs st q => K (.b b :: cs) st q
  | .str :: ls, _, p, st, K => ∀ s : ByteArray, allL ls (p s) st fun cs st q => K (.v (.string s) :: cs) st q
  | .sl :: ls, _, p, st, K => ∀ A n c, allL ls (p A n c) st fun cs st q => K (.v (.slice A n c) :: cs) st q
  | .val :: ls, _, p, st, K => ∀ v : Value, allL ls (p v) st fun cs st q => K (.v v :: cs) st q
  | .cells :: _, _, _, _, _ => False
  | .row i e :: ls, _, p, st, K => if fresh? st i then ∀ n xs, allL ls (p n xs) (setL st i (.row e n xs)) fun cs st q => K (.own i :: cs) st q else False
def allR : (ps : List (Bool × List Leaf)) → {R : Type} → PostR ps R → St → (List (Bool × List S1) → St → R → Prop) → Prop
  | [], _, p, st, K => K [] st p
  | (g, ls) :: ps, _, p, st, K => allL ls p st fun cs st q => allR ps q st fun r st q => K ((g, cs) :: r) st q
def mkRes (tup : Bool) (r : List (Bool × List S1)) : Option SV :=
  match tup, r with
  | true, r => some (.tup r)
  | false, [(g, cs)] => mkSV g cs
  | false, _ => none
/- the leaves' values out of a state -/
def S1.asInt (k : IntKind) : S1 → Option Int
  | .v (.int k' n) => if k = k' then some n else none
  | _ => none
def S1.asStr : S1 → Option ByteArray
  | .v (.string s) => some s
  | _ => none
def S1.asSl : S1 → Option (Option Addr × Nat × Nat)
  | .v (.slice A n c) => some (A, n, c)
  | _ => none
def S1.asVal (c : S1) : Option Value := match c.ok1 with
  | true => c.toV
  | false => none
def takeRow (st : St) (e : TypeId) : S1 → Option (Nat × List Value × St)
  | .own k => match getW st k with
    | some (.row e' n xs) => if e' = e then some (n, xs, setL st k .dead) else none
    | _ => none
  | .sub k l m _ => match l with
    | 0 => match getW st k with
      | some (.row e' n xs) => if e' = e then some (m, cutR xs n m, setL st k .dead) else none
      | _ => none
    | _ + 1 => none
  | .v (.slice none 0 0) => some (0, [], st)
  | _ => none
def colL : (ls : List Leaf) → {R : Type} → PostL ls R → List S1 → St → Option (R × St)
  | [], _, p, cs, st => match cs with
    | [] => some (p, st)
    | _ :: _ => none
  | .int k :: ls, _, p, cs, st => match cs with
    | [] => none
    | c :: cs => match c.asInt k with
      | some n => colL ls (p n) cs st
      | none => none
  | .bool :: ls, _, p, cs, st => match cs with
    | [] => none
    | c :: cs => match c.asB with
      | some b => colL ls (p b) cs st
      | none => none
  | .str :: ls, _, p, cs, st => match cs with
    | [] => none
    | c :: cs => match c.asStr with
      | some s => colL ls (p s) cs st
      | none => none
  | .sl :: ls, _, p, cs, st => match cs with
    | [] => none
    | c :: cs => match c.asSl with
      | some (A, n, c) => colL ls (p A n c) cs st
      | none => none
  | .val :: ls, _, p, cs, st => match cs with
    | [] => none
    | c :: cs => match c.asVal with
      | some v => colL ls (p v) cs st
      | none => none
  | .cells :: _, _, _, _, _ => none
  | .row _ e :: ls, _, p, cs, st => match cs with
    | [] => none
    | c :: cs => match takeRow st e c with
      | some (n, xs, st) => colL ls (p n xs) cs st
      | none => none
def colR : (ps : List (Bool × List Leaf)) → {R : Type} → PostR ps R → List SV → St → Option (R × St)
  | [], _, p, [], st => some (p, st)
  | (g, ls) :: ps, _, p, x :: xs, st => match g, resV st x with
    | true, .agg cs => match colL ls p cs st with
      | some (q, st) => colR ps q xs st
      | none => none
    | false, .one c => match colL ls p [c] st with
      | some (q, st) => colR ps q xs st
      | none => none
    | _, _ => none
  | _, _, _, _, _ => none

/- lending memory of the call's own for the time of a call -/
def lend1 (st : St) (x : S1) (H : Heap) (K : Value → Heap → Prop) : Prop :=
  match x with
  | .loc i off => match getL st i with
    | some (.box _ cs) => if ok1s cs then match toVs cs with
      | some vs => ∀ g H', Heap.le H H' → Cells H' (some ⟨g, 0, none⟩) 0 vs → K (.pointer (some ⟨g, off, none⟩)) H'
      | none => False
      else False
    | _ => False
  | .own i => match getL st i with
    | some (.row _ n xs) => ∀ A c H', Heap.le H H' → Cells H' A 0 xs → leN n c → K (.slice A n c) H'
    | _ => False
  | x => match x.toV with
    | some v => K v H
    | none => False
def lendL (st : St) : List S1 → Heap → (List Value → Heap → Prop) → Prop
  | [], H, K => K [] H
  | x :: xs, H, K => lend1 st x H fun v H' => lendL st xs H' fun vs H'' => K (v :: vs) H''
def lendS (st : St) (x : SV) (H : Heap) (K : Value → Heap → Prop) : Prop :=
  match x with
  | .one x => lend1 st x H K
  | .agg cs => lendL st cs H fun vs H' => K (.agg ⟨vs⟩) H'
  | .clo f cap => lendL st cap H fun vs H' => K (.func (.func f) #[] ⟨vs⟩) H'
  | .tup _ => False
def lendA (st : St) : List SV → Heap → (List Value → Heap → Prop) → Prop
  | [], H, K => K [] H
  | x :: xs, H, K => lendS st x H fun v H' => lendA st xs H' fun vs H'' => K (v :: vs) H''

/- making a row of the call's own public, for good -/
def vcPub (st : St) (i : Nat) (K : St → Prop) : Prop :=
  match getW st i with
  | some (.row _ n xs) => ∀ A c H', Heap.le st.H H' → Cells H' A 0 xs → leN n c → K (setL { st with H := H' } i (.pub A n c))
  | some (.pub _ _ _) => K st
  | _ => False
def vcPubs (K : St → Prop) : List Nat → St → Prop
  | [], st => K st
  | i :: is, st => vcPub st i fun st' => vcPubs K is st'
/- the rows that a value names -/
def owns1 : List S1 → List Nat
  | [] => []
  | .own i :: cs => i :: owns1 cs
  | _ :: cs => owns1 cs
def SV.owns : SV → List Nat
  | .one x => owns1 [x]
  | .agg cs => owns1 cs
  | .clo _ cap => owns1 cap
  | .tup _ => []
def ownsA : List SV → List Nat
  | [] => []
  | x :: xs => x.owns ++ ownsA xs

def partOf (Γ : Tab) (t : TypeId) : Bool × List Leaf :=
  match Γ t with
  | some i => (i.agg, leavesOf Γ 9 t)
  | none => (false, [.val])
def shOf (Γ : Tab) (tup : TypeId → Option (List TypeId)) (t : TypeId) : RSh :=
  match tup t with
  | some ts => ⟨true, ts.map (partOf Γ)⟩
  | none => ⟨false, [partOf Γ t]⟩

/- what a loop carries -/
inductive Item where
  | slot (d : Nat) (agg : Bool) (ls : List Leaf)
  | box (i : Nat) (t : TypeId) (ls : List Leaf)
  | arr (i : Nat) (t : TypeId)
  | rowc (i : Nat) (e : TypeId)
/- an order for a region: reads taken first, and where an effect comes up: whichever comes up -/
inductive Sch where
  | done
  | fin
  | take (j : Nat) (r : Sch)
  | alt (j : Nat) (r : Sch) (rest : Sch)
def tk : List Nat → Sch → Sch
  | [], r => r
  | j :: js, r => .take j (tk js r)
def Sch.ids : Sch → List Nat
  | .alt j _ rest => j :: rest.ids
  | _ => []
/- the choices laid down for one function's code -/
structure Ann where
  res : Nat → Option RSh
  lend : Nat → Bool
  sch : Nat → Sch
  lt : Nat → List Item
  tup : TypeId → Option (List TypeId)
  mt : FuncId → Option Bool := fun _ => none
  opn : Bool := false

def resSh (Γ : Tab) (an : Ann) (d : Option Tmp) (t : TypeId) : RSh :=
  match d with
  | some d => match an.res d with
    | some s => s
    | none => shOf Γ an.tup t
  | none => shOf Γ an.tup t
def vcRes (sh : RSh) (d : Option Tmp) (r : List (Bool × List S1)) (st : St) (K : St → Prop) : Prop :=
  match mkRes sh.tup r with
  | some x => K (setS st d x)
  | none => False
def vcPlain (P : Program) (sh : RSh) (st : St) (d : Option Tmp) (f : FuncId) (vals : List Value) (K : St → Prop) : Prop :=
  ∃ post : PostR sh.parts (Heap → Prop), ConT P f vals st.H sh post ∧ ∀ H', Heap.le st.H H' →
    allR sh.parts post { st with H := H' } fun r st' q => q H' → vcRes sh d r st' K
def lendOf (an : Ann) (d : Option Tmp) : Bool := match d with
  | some d => an.lend d
  | none => false
/- the one row among the arguments: its place, its number, the arguments with a hole -/
def oneRow : List SV → Nat → Option (Nat × Nat)
  | [], _ => none
  | .one (.own i) :: _, k => some (k, i)
  | _ :: xs, k => oneRow xs (k + 1)
def vcMut (P : Program) (ln : Bool) (sh : RSh) (st : St) (d : Option Tmp) (f : FuncId) (as : List SV) (keep : Bool) (K : St → Prop) : Prop :=
  match oneRow as 0 with
  | none => False
  | some (k, i) => match getW st i with
    | some (.row e n xs) => match plains (as.set k (.one (.v (.slice none 0 0)))) with
      | none => match ln with
        | true => ∃ post : List Value → PostR sh.parts (Heap → Prop), lendA (setL st i .dead) (as.set k (.one (.v (.slice none 0 0)))) st.H (fun vals H1 => ConM P f vals k e n xs keep H1 sh post) ∧ ∀ H' ys,
          allR sh.parts (post ys) (setL st i (if keep then .row e n ys else .dead)) fun r st' q => q H' → vcRes sh d r st' K
        | false => False
      | some vals => ∃ post : List Value → PostR sh.parts (Heap → Prop), ConM P f vals k e n xs keep st.H sh post ∧ ∀ H', Heap.le st.H H' → ∀ ys,
          allR sh.parts (post ys) { setL st i (if keep then .row e n ys else .dead) with H := H' } fun r st' q => q H' → vcRes sh d r st' K
    | _ => False
/- the rows among the arguments but for the one that is handed on -/
def ownsO (as : List SV) : List Nat := match oneRow as 0 with
  | some (k, _) => ownsA (as.set k (.one .un))
  | none => []
/- a call: 'args' evaluates the arguments. Arguments that hold memory of the call's own: it is lent for the time of the call, or made public for good -/
def vcCall (P : Program) (Γ : Tab) (an : Ann) (t : TypeId) (st : St) (d : Option Tmp) (f : FuncId) (args : St → Option (List SV)) (K : St → Prop) : Prop :=
  match args st with
  | none => False
  | some as => match plains as with
    | some vals => vcPlain P (resSh Γ an d t) st d f vals K
    | none => match an.mt f with
     | some keep => match lendOf an d with
       | true => vcMut P true (resSh Γ an d t) st d f as keep K
       | false => vcPubs (fun st' => match args st' with
         | none => False
         | some as => vcMut P false (resSh Γ an d t) st' d f as keep K) (ownsO as) st
     | none => match lendOf an d with
      | true => ∃ post : PostR (resSh Γ an d t).parts (Heap → Prop), lendA st as st.H (fun vals H' => ConT P f vals H' (resSh Γ an d t) post) ∧
          ∀ H', allR (resSh Γ an d t).parts post st fun r st' q => q H' → vcRes (resSh Γ an d t) d r st' K
      | false => vcPubs (fun st' => match args st' with
        | none => False
        | some as => match plains as with
          | some vals => vcPlain P (resSh Γ an d t) st' d f vals K
          | none => False) (ownsA as) st

def lenIs (xs : List Value) (n : Nat) : Prop := xs.length = n
def llen (xs : List Value) : Nat := xs.length
def vcStore (Γ : Tab) (st : St) (t : TypeId) (x y : SV) (K : St → Prop) : Prop :=
  match Γ t with
  | none => False
  | some i => match y.cells with
    | none => False
    | some ys =>
      if ys.length = i.size ∧ ok1s ys then match x with
        | .one (.loc o off) => match getW st o with
          | some (.box t0 cs) => if off + ys.length ≤ cs.length then K (setL st o (.box t0 (cs.take off ++ ys ++ cs.drop (off + ys.length)))) else False
          | some (.arr t0 xs) => match off with
            | 0 => match toVs ys with
              | some vs => lenIs xs i.size ∧ K (setL st o (.arr t0 vs))
              | none => False
            | _ + 1 => False
          | _ => False
        | .one (.aelt o j) => match getW st o with
          | some (.arr t0 xs) => match toVs ys with
            | some vs => leN (nadd j i.size) (llen xs) ∧ K (setL st o (.arr t0 (splice xs j vs)))
            | none => False
          | _ => False
        | .one (.oelt o j) => match getW st o with
          | some (.row e n xs) => match toVs ys with
            | some vs => leN (nadd j i.size) (llen xs) ∧ K (setL st o (.row e n (splice xs j vs)))
            | none => False
          | _ => False
        | _ => False
      else False

/- the cells of the second argument of an append -/
def vcApp2 (st : St) (e : TypeId) (sz : Nat) (x : SV) (K : Nat → List Value → Prop) : Prop :=
  match x with
  | .one (.own k) => match getL st k with
    | some (.row e' m ys) => if e' = e then K m ys else False
    | _ => False
  | .one (.v (.slice A m _)) => ∃ ys, Cells st.H A 0 ys ∧ lenIs ys (nmul m sz) ∧ K m ys
  | _ => False
def vcAppend (opn : Bool) (Γ : Tab) (st : St) (d : Option Tmp) (t : TypeId) (s x : SV) (K : St → Prop) : Prop :=
  match d with
  | none => False
  | some d => match Γ t with
    | none => False
    | some i => match i.ty with
      | .slice e => match Γ e with
        | none => False
        | some j => if fresh? st d ∧ 0 < j.size ∧ 0 < j.bytes then match s with
            | .one (.v (.slice none 0 0)) => vcApp2 st e j.size x fun m ys =>
                leN (nmul m j.bytes) 140737488355328 ∧ K (setS (setL st d (.row e m ys)) (some d) (.one (.own d)))
            | .one (.own k) => match getW st k with
              | some (.row e' n xs) => if e' = e then vcApp2 st e j.size x fun m ys =>
                  leN (nmul (nadd n m) j.bytes) 140737488355328 ∧ K (setS (setL (setL st k .dead) d (.row e (nadd n m) (cat xs ys))) (some d) (.one (.own d))) else False
              | _ => False
            | .one (.v (.slice A n c)) => if opn = true then ∃ xs, isOpen st.O A e n c ∧ Cells st.H A 0 xs ∧ lenIs xs (nmul n j.size) ∧ vcApp2 st e j.size x fun m ys =>
                leN (nmul (nadd n m) j.bytes) 140737488355328 ∧ ∀ A' c' H' O', Heap.le st.H H' → Cells H' A' 0 (cat xs ys) → leN (nadd n m) c' → isOpen O' A' e (nadd n m) c' → keepO st.O O' A A' →
                  K (setS { st with H := H', O := O' } (some d) (.one (.v (.slice A' (nadd n m) c')))) else False
            | _ => False
          else False
      | _ => False

def repl (z : List Value) : Nat → List Value
  | 0 => []
  | n + 1 => z ++ repl z n
def replN (z : List Value) (n : Nat) : List Value := repl z n
def isRepl (xs : List Value) (z : List Value) (n : Nat) : Prop := xs = repl z n

def vcNew (st : St) (d : Nat) (t : TypeId) (i : TyI) (cs : List S1) (K : St → Prop) : Prop :=
  match i.ty with
  | .array _ _ => match toVs cs with
    | some vs => K (setS (setL st d (.arr t vs)) (some d) (.one (.loc d 0)))
    | none => False
  | _ => K (setS (setL st d (.box t cs)) (some d) (.one (.loc d 0)))
def vcClear (st : St) (d : Option Tmp) (e : TypeId) (j : TyI) (x : SV) (K : St → Prop) : Prop :=
  match d with
  | none => match x with
    | .one (.own k) => match getW st k with
      | some (.row e' n xs) => if e' = e then K (setL st k (.row e n (replN j.zero n))) else False
      | _ => False
    | .one (.sub k l m sz) => match getW st k with
      | some (.row e' n xs) => if e' = e ∧ sz = j.size then K (setL st k (.row e n (splice xs (nmul l sz) (replN j.zero m)))) else False
      | _ => False
    | _ => False
  | some _ => False
/- what makes or writes memory, and calls -/
def vcEf (P : Program) (Γ : Tab) (an : Ann) (st : St) (d : Option Tmp) (ty : TypeId) (op : Op) (K : St → Prop) : Prop :=
  match op with
  | .alloc t => match d with
    | none => False
    | some d => match Γ t with
      | none => False
      | some i => if fresh? st d then vcNew st d t i (i.zero.map S1.v) K else False
  | .box t x => match d with
    | none => False
    | some d => match Γ t with
      | none => False
      | some i => match ev st x with
        | none => False
        | some x => match x.cells with
          | none => False
          | some cs => if fresh? st d ∧ cs.length = i.size ∧ ok1s cs then vcNew st d t i cs K else False
  | .buildSlice t n parts => match d with
    | none => False
    | some d => match Γ t with
      | none => False
      | some i => match i.ty with
        | .slice e => match Γ e with
          | none => False
          | some j => match lay st (fun f => if f < n then some (f * j.size, j.size) else none) parts.toList ((repl j.zero n).map S1.v) with
            | none => False
            | some cs => vcPubs (fun st => match lay st (fun f => if f < n then some (f * j.size, j.size) else none) parts.toList ((repl j.zero n).map S1.v) with
              | none => False
              | some cs => match toVs cs with
                | none => False
                | some vs => if fresh? st d ∧ ok1s cs ∧ n * j.size ≤ 16777216 ∧ 0 < j.size ∧ 0 < j.bytes then K (setS (setL st d (.row e n vs)) (some d) (.one (.own d))) else False) (owns1 cs) st
        | _ => False
  | .makeSlice t l c => match d with
    | none => False
    | some d => match Γ t with
      | none => False
      | some i => match i.ty with
        | .slice e => match Γ e with
          | none => False
          | some j => match ev st l with
            | some (.one (.v (.int _ l))) => match ev st c with
              | some (.one (.v (.int _ c))) => if fresh? st d ∧ 0 < j.size ∧ 0 < j.bytes then
                  eqI c l ∧ leI 0 l ∧ leI (imul l (ofN j.bytes)) 140737488355328 ∧ ∀ xs, isRepl xs j.zero l.toNat → K (setS (setL st d (.row e l.toNat xs)) (some d) (.one (.own d)))
                else False
              | _ => False
            | _ => False
        | _ => False
  | .store t a x => match d with
    | some _ => False
    | none => match ev st a with
      | none => False
      | some a => match ev st x with
        | none => False
        | some x => vcStore Γ st t a x K
  | .call { callee := .builtin .append, args, argTypes } => match args.toList with
    | [s, x] => match argTypes.toList with
      | [t, t'] => if t = t' then match ev st s with
        | none => False
        | some s => match ev st x with
          | none => False
          | some x => vcAppend an.opn Γ st d t s x K
        else False
      | _ => False
    | _ => False
  | .call { callee := .builtin .clear, args, argTypes } => match args.toList with
    | [x] => match argTypes.toList with
      | [t] => match Γ t with
        | some i => match i.ty with
          | .slice e => match Γ e with
            | some j => match ev st x with
              | some x => vcClear st d e j x K
              | none => False
            | none => False
          | _ => False
        | none => False
      | _ => False
    | _ => False
  | .call { callee := .value f, args, .. } => match ev st f with
    | some (.clo f cap) => vcCall P Γ an ty st d f (fun st => match evs st args.toList with
      | some as => some (as ++ cap.map fun c => .one (res1 st c))
      | none => none) K
    | some (.one (.v (.func (.func f) first cap))) => match first.toList with
      | [] => vcCall P Γ an ty st d f (fun st => match evs st args.toList with
        | some as => some (as ++ cap.toList.map fun c => .one (.v c))
        | none => none) K
      | _ => False
    | _ => False
  | _ => False

def isRd : Op → Bool
  | .alloc _ | .box _ _ | .buildSlice .. | .makeSlice .. | .store .. => false
  | .call { callee := .builtin .append, .. } | .call { callee := .builtin .clear, .. } | .call { callee := .value _, .. } => false
  | _ => true
def vcExec (P : Program) (Γ : Tab) (an : Ann) (st : St) (o : Oper) (K : St → Prop) : Prop :=
  match isRd o.op with
  | true => vcRd Γ st o.op fun r => K (setS st o.dst r)
  | false => vcEf P Γ an st o.dst o.type o.op K

/- a region: its operations in an order, and behind each operation that guards others a fork on what it yields -/
inductive It where
  | op (i : Nat)
  | fork (i : Nat)
def dstOf (l : List Oper) (j : Nat) : Option Tmp := match l[j]? with
  | some o => o.dst
  | none => none
def vcFork (l : List Oper) (j : Nat) (st : St) (K : St → Prop) : Prop :=
  match dstOf l j with
  | none => K st
  | some d => match st.fr[d]? with
    | some (.one (.b x)) => (x = true → K (setS st (some d) (.one .tt))) ∧ (x = false → K (setS st (some d) (.one .ff)))
    | some (.one (.v (.bool x))) => (x = true → K (setS st (some d) (.one .tt))) ∧ (x = false → K (setS st (some d) (.one .ff)))
    | _ => K st
def vcOne (P : Program) (Γ : Tab) (an : Ann) (l : List Oper) (st : St) (o : Oper) (K : St → Prop) : Prop :=
  match o.guard with
  | none => vcExec P Γ an st o K
  | some (j, want) => match dstOf l j with
    | none => False
    | some d => match st.fr[d]? with
      | some (.one .tt) => match want with
        | true => vcExec P Γ an st o K
        | false => K (setS st o.dst (.one .un))
      | some (.one .ff) => match want with
        | false => vcExec P Γ an st o K
        | true => K (setS st o.dst (.one .un))
      | some (.one .un) => K (setS st o.dst (.one .un))
      | _ => False
def vcItems (P : Program) (Γ : Tab) (an : Ann) (l : List Oper) (K : St → Prop) : List It → St → Prop
  | [], st => K st
  | .op i :: is, st => match l[i]? with
    | some o => vcOne P Γ an l st o fun st' => vcItems P Γ an l K is st'
    | none => False
  | .fork i :: is, st => vcFork l i st fun st' => vcItems P Γ an l K is st'
def guards (l : List Oper) (i : Nat) : Bool := match l with
  | [] => false
  | o :: l => match o.guard with
    | some (j, _) => if i = j then true else guards l i
    | none => guards l i
def itemsOf (l : List Oper) : List Nat → List It
  | [] => []
  | i :: is => match guards l i with
    | true => .op i :: .fork i :: itemsOf l is
    | false => .op i :: itemsOf l is

/- which slots a piece of code writes -/
def writesO : List Oper → List Nat
  | [] => []
  | o :: l => match o.dst with
    | some d => d :: writesO l
    | none => writesO l
def firstReg : Code → Nat
  | .region id _ _ => id
  | .seq a _ => firstReg a
  | .cond _ a _ => firstReg a
  | .block _ c => firstReg c
  | .loop c => firstReg c
  | _ => 0
def itemSlots : List Item → List Nat
  | [] => []
  | .slot d _ _ :: is => d :: itemSlots is
  | _ :: is => itemSlots is
def writes (an : Ann) : Code → List Nat
  | .region _ ops _ => writesO ops.toList
  | .seq a b => writes an a ++ writes an b
  | .cond _ a b => writes an a ++ writes an b
  | .block _ c => writes an c
  | .loop c => itemSlots (an.lt (firstReg c)) ++ writes an c
  | _ => []
def rowIds : List Leaf → List Nat
  | [] => []
  | .row i _ :: ls => i :: rowIds ls
  | _ :: ls => rowIds ls
def itemIds : List Item → List Nat
  | [] => []
  | .slot _ _ ls :: is => rowIds ls ++ itemIds is
  | .box _ _ ls :: is => rowIds ls ++ itemIds is
  | .arr _ _ :: is => itemIds is
  | .rowc _ _ :: is => itemIds is
def resIds (an : Ann) : List Nat → List Nat
  | [] => []
  | d :: ds => match an.res d with
    | some sh => sh.parts.flatMap (fun x => rowIds x.2) ++ resIds an ds
    | none => resIds an ds
/- numbers for objects that a piece of code may give out -/
def idsOf (an : Ann) : Code → List Nat
  | .region _ ops _ => writesO ops.toList ++ resIds an (writesO ops.toList)
  | .seq a b => idsOf an a ++ idsOf an b
  | .cond _ a b => idsOf an a ++ idsOf an b
  | .block _ c => idsOf an c
  | .loop c => itemIds (an.lt (firstReg c)) ++ idsOf an c
  | _ => []
def havF : List Nat → List SV → List SV
  | [], fr => fr
  | d :: ds, fr => havF ds (fr.set d (.one .any))
def havL : List Nat → List (Option Ent) → List (Option Ent)
  | [], L => L
  | d :: ds, L => havL ds (L.set d none)
def lock : List (Option Ent) → List (Option Ent)
  | [] => []
  | some (_, o) :: L => some (false, o) :: lock L
  | none :: L => none :: lock L
/- after the loop what could be written before it can be written again -/
def unlock : List (Option Ent) → List (Option Ent) → List (Option Ent)
  | some (true, _) :: L, some (_, o) :: L' => some (true, o) :: unlock L L'
  | _ :: L, x :: L' => x :: unlock L L'
  | _, L' => L'
/- the objects that the loop carries are laid anew at its head -/
def deadB : List Item → List (Option Ent) → List (Option Ent)
  | [], L => L
  | .slot _ _ _ :: is, L => deadB is L
  | .box i _ _ :: is, L => deadB is (L.set i (some (false, .dead)))
  | .arr i _ :: is, L => deadB is (L.set i (some (false, .dead)))
  | .rowc i _ :: is, L => deadB is (L.set i (some (false, .dead)))

def headSt (an : Ann) (c : Code) (items : List Item) (st : St) (H : Heap) (O : OMap) : St :=
  { fr := havF (itemSlots items) (havF (writes an c) st.fr), L := deadB items (havL (itemIds items) (havL (idsOf an c) (lock st.L))), H := H, O := O }
def PostI : List Item → Type → Type
  | [], R => R
  | .slot _ _ ls :: is, R => PostL ls (PostI is R)
  | .box _ _ ls :: is, R => PostL ls (PostI is R)
  | .arr _ _ :: is, R => List Value → PostI is R
  | .rowc _ _ :: is, R => Nat → List Value → PostI is R
def allI : (is : List Item) → {R : Type} → PostI is R → St → (St → R → Prop) → Prop
  | [], _, p, st, K => K st p
  | .slot d g ls :: is, _, p, st, K => allL ls p st fun cs st q => match mkSV g cs with
    | some x => allI is q (setS st (some d) x) K
    | none => False
  | .box i t ls :: is, _, p, st, K => allL ls p st fun cs st q => allI is q (setL st i (.box t cs)) K
  | .arr i t :: is, _, p, st, K => ∀ xs, allI is (p xs) (setL st i (.arr t xs)) K
  | .rowc i e :: is, _, p, st, K => match getL st i with
    | some .dead => ∀ n xs, allI is (p n xs) (setL st i (.row e n xs)) K
    | _ => False
def colI : (is : List Item) → {R : Type} → PostI is R → St → Option (R × St)
  | [], _, p, st => some (p, st)
  | .slot d g ls :: is, _, p, st => match st.fr[d]? with
    | some x => match g, resV st x with
      | true, .agg cs => match colL ls p cs st with
        | some (q, st) => colI is q st
        | none => none
      | false, .one c => match colL ls p [c] st with
        | some (q, st) => colI is q st
        | none => none
      | _, _ => none
    | none => none
  | .box i t ls :: is, _, p, st => match getW st i with
    | some (.box t' cs) => if t' = t then match colL ls p (cs.map (res1 st)) st with
      | some (q, st) => colI is q st
      | none => none
      else none
    | _ => none
  | .arr i t :: is, _, p, st => match getW st i with
    | some (.arr t' xs) => if t' = t then colI is (p xs) st else none
    | _ => none
  | .rowc i e :: is, _, p, st => match getW st i with
    | some (.row e' n xs) => if e' = e then colI is (p n xs) (setL st i .dead) else none
    | _ => none
def zipL {A B C : Type} : (ls : List Leaf) → PostL ls A → PostL ls B → (A → B → C) → PostL ls C
  | [], p, q, f => f p q
  | .int _ :: ls, p, q, f => fun n => zipL ls (p n) (q n) f
  | .bool :: ls, p, q, f => fun n => zipL ls (p n) (q n) f
  | .str :: ls, p, q, f => fun n => zipL ls (p n) (q n) f
  | .sl :: ls, p, q, f => fun A n c => zipL ls (p A n c) (q A n c) f
  | .val :: ls, p, q, f => fun n => zipL ls (p n) (q n) f
  | .cells :: ls, p, q, f => fun n => zipL ls (p n) (q n) f
  | .row _ _ :: ls, p, q, f => fun n xs => zipL ls (p n xs) (q n xs) f
def zipI {A B : Type} : (is : List Item) → PostI is A → PostI is B → PostI is (A × B)
  | [], p, q => (p, q)
  | .slot _ _ ls :: is, p, q => zipL ls p q (zipI is)
  | .box _ _ ls :: is, p, q => zipL ls p q (zipI is)
  | .arr _ _ :: is, p, q => fun xs => zipI is (p xs) (q xs)
  | .rowc _ _ :: is, p, q => fun n xs => zipI is (p n xs) (q n xs)
def allFree (st : St) : List Nat → Bool
  | [] => true
  | d :: ds => fresh? st d && allFree st ds
def ltN (a b : Nat) : Prop := a < b
/- the rows of the call's own that stand where the loop carries a public slice: they are made public, for good -/
def pubL' : List Leaf → List S1 → List Nat
  | .row _ _ :: ls, _ :: cs => pubL' ls cs
  | _ :: ls, .own i :: cs => i :: pubL' ls cs
  | _ :: ls, _ :: cs => pubL' ls cs
  | _, _ => []
def pubI : List Item → St → List Nat
  | [], _ => []
  | .slot d _ ls :: is, st => (match st.fr[d]? with
    | some x => match resV st x with
      | .agg cs => pubL' ls cs
      | .one c => pubL' ls [c]
      | _ => []
    | none => []) ++ pubI is st
  | .box i _ ls :: is, st => (match getW st i with
    | some (.box _ cs) => pubL' ls (cs.map (res1 st))
    | _ => []) ++ pubI is st
  | .arr _ _ :: is, st => pubI is st
  | .rowc _ _ :: is, st => pubI is st
/- what an invariant speaks of: public memory; and the open rows, where that is asked for -/
def HP (o : Bool) : Type := match o with
  | true => Heap → OMap → Prop
  | false => Heap → Prop
def apH (o : Bool) (p : HP o) (H : Heap) (O : OMap) : Prop := match o, p with
  | true, p => p H O
  | false, p => p H
def allO (o : Bool) (K : OMap → Prop) : Prop := match o with
  | true => ∀ O, K O
  | false => K noO
/- the end of a round -/
def vcEnd (o : Bool) (is : List Item) (p : PostI is (HP o × Nat)) (m : Nat) (st : St) : Prop :=
  vcPubs (fun st => match colI is p st with
    | some (x, _) => apH o x.1 st.H st.O ∧ ltN x.2 m
    | none => False) (pubI is st) st
/- regions that draw their order -/
/- the object that a store writes -/
def stTgt (st : St) : Op → Option Nat
  | .store _ x _ => match ev st x with
    | some (.one (.loc o _)) => some o
    | some (.one (.aelt o _)) => some o
    | _ => none
  | _ => none
def killL (W : List Nat) : Nat → List (Option Ent) → List (Option Ent)
  | _, [] => []
  | i, none :: L => none :: killL W (i + 1) L
  | i, some (f, o) :: L => (match o with
    | .row _ _ _ => some (false, .dead)
    | o => if W.contains i then some (false, .dead) else some (f, o)) :: killL W (i + 1) L
/- the state without rows and without the objects W -/
def noRows (W : List Nat) (st : St) : St := { st with L := killL W 0 st.L }
/- the operand that an address computed in the region starts from -/
def rootOf (l : List Oper) : Nat → Operand → Operand
  | 0, x => x
  | n + 1, x => match x with
    | .tmp t => match l.find? (fun o => o.dst == some t) with
      | some o => match o.op with
        | .fieldAddr _ y _ => rootOf l n y
        | .indexAddr _ y _ => rootOf l n y
        | .move y => rootOf l n y
        | .assign y => rootOf l n y
        | .nilCheck y => rootOf l n y
        | _ => x
      | none => x
    | x => x
def waits (o : Oper) (i : Nat) : Bool := o.after.toList.any fun e => e.on == i && Region.binds .any e
def isSt (o : Oper) : Bool := match o.op with
  | .store _ _ _ => true
  | _ => false
def waitsAll (o : Oper) : List Oper → Nat → Bool
  | [], _ => true
  | x :: l, i => (isSt x || waits o i) && waitsAll o l (i + 1)
/- every store waits for all that is no store -/
def allLate (l : List Oper) : List Oper → Bool
  | [] => true
  | o :: os => (!isSt o || waitsAll o l 0) && allLate l os
def late (l : List Oper) (o : Oper) : Bool := match isSt o with
  | true => allLate l l
  | false => false
def madeIn (l : List Oper) (t : Nat) : Bool :=
  match l.find? (fun o => o.dst == some t) with
  | some o => match o.op with
    | .alloc _ => true
    | .box _ _ => true
    | _ => false
  | none => false
def tgtsOf (l : List Oper) (st : St) : List Oper → List Nat
  | [] => []
  | o :: os => match o.op with
    | .store _ x _ => match late l o with
     | true => tgtsOf l st os
     | false => match rootOf l 5 x with
      | .tmp t => match madeIn l t with
        | true => t :: tgtsOf l st os
        | false => match ev st (.tmp t) with
          | some (.one (.loc o _)) => o :: tgtsOf l st os
          | some (.one (.aelt o _)) => o :: tgtsOf l st os
          | _ => tgtsOf l st os
      | _ => tgtsOf l st os
    | _ => tgtsOf l st os
/- a store writes what it is laid down that it may write -/
def stOK (W : List Nat) (st : St) (op : Op) : Bool := match stTgt st op with
  | some o => W.contains o
  | none => true
def vcTake (Γ : Tab) (W : List Nat) (l : List Oper) (st : St) (o : Oper) (K : St → Prop) : Prop :=
  match o.guard with
  | none => vcRd Γ (noRows W st) o.op fun r => K (setS st o.dst r)
  | some (j, want) => match dstOf l j with
    | none => False
    | some d => match st.fr[d]? with
      | some (.one .tt) => match want with
        | true => vcRd Γ (noRows W st) o.op fun r => K (setS st o.dst r)
        | false => K (setS st o.dst (.one .un))
      | some (.one .ff) => match want with
        | false => vcRd Γ (noRows W st) o.op fun r => K (setS st o.dst r)
        | true => K (setS st o.dst (.one .un))
      | some (.one .un) => K (setS st o.dst (.one .un))
      | _ => False
def forkIf (l : List Oper) (i : Nat) (st : St) (K : St → Prop) : Prop :=
  match guards l i with
  | true => vcFork l i st K
  | false => K st
def readyIs (ops : Array Oper) (listed : Array Bool) (j : Nat) : Bool :=
  !listed.getD j true && match ops[j]? with
  | some o => o.after.toList.all fun e => !Region.binds .any e || listed.getD e.on false
  | none => false
def rdAt (ops : Array Oper) (j : Nat) : Bool := match ops[j]? with
  | some o => isRd o.op
  | none => false
/- the order fits the region: it does not depend on any state -/
def schOK (ops : Array Oper) : Bool → Nat → Array Bool → Sch → Bool
  | _, _, listed, .done => (Region.ready .any ops listed).isEmpty
  | b, _, _, .fin => b
  | _, 0, _, .take _ _ => false
  | _, n + 1, listed, .take j r => match readyIs ops listed j && rdAt ops j && Region.free .any ops listed j with
    | true => schOK ops false n (listed.setIfInBounds j true) r
    | false => false
  | _, 0, _, .alt _ _ _ => false
  | b, n + 1, listed, .alt j r rest => match (b || Region.ready .any ops listed == j :: rest.ids) && schOK ops false n (listed.setIfInBounds j true) r with
    | true => schOK ops true (n + 1) listed rest
    | false => false
def vcSch (P : Program) (Γ : Tab) (an : Ann) (ops : Array Oper) (W : List Nat) (K : St → Prop) : Sch → St → Prop
  | .done, st => K st
  | .fin, _ => True
  | .take j r, st => match ops[j]? with
    | some o => vcTake Γ W ops.toList st o fun st' => forkIf ops.toList j st' fun st'' => vcSch P Γ an ops W K r st''
    | none => False
  | .alt j r rest, st => match rest with
    | .alt j' r' rest' => (match ops[j]? with
      | some o => match late ops.toList o || stOK W st o.op with
        | true => vcOne P Γ an ops.toList st o fun st' => forkIf ops.toList j st' fun st'' => vcSch P Γ an ops W K r st''
        | false => False
      | none => False) ∧ vcSch P Γ an ops W K (.alt j' r' rest') st
    | _ => match ops[j]? with
      | some o => match late ops.toList o || stOK W st o.op with
        | true => vcOne P Γ an ops.toList st o fun st' => forkIf ops.toList j st' fun st'' => vcSch P Γ an ops W K r st''
        | false => False
      | none => False
def upto : Nat → Nat → List Nat
  | 0, _ => []
  | n + 1, i => i :: upto n (i + 1)

def vcC (P : Program) (Γ : Tab) (an : Ann) : Code → (Exit → St → Prop) → St → Prop
  | .skip, K, st => K .normal st
  | .label _, K, st => K .normal st
  | .region id ops draw, K, st => match draw with
    | false => vcItems P Γ an ops.toList (K .normal) (itemsOf ops.toList (upto ops.toList.length 0)) st
    | true => match Region.noSelect ops with
      | true => match schOK ops false ops.size (Array.replicate ops.size false) (an.sch id) with
        | true => vcSch P Γ an ops (tgtsOf ops.toList st ops.toList) (K .normal) (an.sch id) st
        | false => False
      | false => False
  | .seq a b, K, st => vcC P Γ an a (fun e st' => match e with
      | .normal => vcC P Γ an b K st'
      | e => K e st') st
  | .cond c a b, K, st => match ev st c with
    | some (.one .tt) => vcC P Γ an a K st
    | some (.one .ff) => vcC P Γ an b K st
    | some (.one (.b x)) => (x = true → vcC P Γ an a K st) ∧ (x = false → vcC P Γ an b K st)
    | some (.one (.v (.bool x))) => (x = true → vcC P Γ an a K st) ∧ (x = false → vcC P Γ an b K st)
    | _ => False
  | .block id c, K, st => vcC P Γ an c (fun e st' => match e with
      | .exit id' => if id' = id then K .normal st' else K (.exit id') st'
      | e => K e st') st
  | .loop c, K, st => ∃ (inv : PostI (an.lt (firstReg c)) (HP an.opn)) (μ : PostI (an.lt (firstReg c)) Nat),
      vcPubs (fun st => if allFree st (itemIds (an.lt (firstReg c)) ++ idsOf an c) then
        match colI (an.lt (firstReg c)) (zipI (an.lt (firstReg c)) inv μ) st with
        | some (x, st2) => apH an.opn x.1 st.H st.O ∧
          ∀ H', Heap.le st.H H' → allO an.opn fun O' => allI (an.lt (firstReg c)) (zipI (an.lt (firstReg c)) inv μ) (headSt an c (an.lt (firstReg c)) st2 H' O') fun st1 y => apH an.opn y.1 H' O' →
            vcC P Γ an c (fun e st' => match e with
              | .normal => vcEnd an.opn (an.lt (firstReg c)) (zipI (an.lt (firstReg c)) inv μ) y.2 st'
              | e => K e { st' with L := unlock st2.L st'.L }) st1
        | none => False
        else False) (pubI (an.lt (firstReg c)) st) st
  | .exit id, K, st => K (.exit id) st
  | .ret, K, st => K .ret st
  | _, _, _ => False

/- the results at the end of a body -/
def retOne (Γ : Tab) (st : St) : ResultVar → Option SV
  | .tmp t => match st.fr[t]? with
    | some x => some (resV st x)
    | none => none
  | .cell a t => match st.fr[a]? with
    | some (.one (.loc o 0)) => match getL st o with
      | some (.box _ cs) => match Γ t with
        | some i => if cs.length = i.size then mkSV i.agg (cs.map (res1 st)) else none
        | none => none
      | _ => none
    | _ => none
def retAll (Γ : Tab) (st : St) : List ResultVar → Option (List SV)
  | [] => some []
  | r :: rs => match retOne Γ st r with
    | some x => match retAll Γ st rs with
      | some xs => some (x :: xs)
      | none => none
    | none => none
/- which rows of the results have to be made public: those that the shape does not hand on as rows -/
def pubL : List Leaf → List S1 → List Nat
  | .row _ _ :: ls, _ :: cs => pubL ls cs
  | _ :: ls, .own i :: cs => i :: pubL ls cs
  | _ :: ls, _ :: cs => pubL ls cs
  | _, _ => []
def pubR : List (Bool × List Leaf) → List SV → List Nat
  | (_, ls) :: ps, x :: xs => (match x.cells with
    | some cs => pubL ls cs
    | none => []) ++ pubR ps xs
  | _, _ => []
def vcRet (Γ : Tab) (rs : List ResultVar) (sh : RSh) (post : PostR sh.parts (Heap → Prop)) (st : St) : Prop :=
  if sh.tup = (rs.length != 1) then match retAll Γ st rs with
  | none => False
  | some xs => vcPubs (fun st => match retAll Γ st rs with
    | none => False
    | some xs => match colR sh.parts post xs st with
      | some (q, _) => q st.H
      | none => False) (pubR sh.parts xs) st
  else False
def retK (Γ : Tab) (rs : List ResultVar) (sh : RSh) (post : PostR sh.parts (Heap → Prop)) (e : Exit) (st : St) : Prop :=
  match e with
  | .normal => vcRet Γ rs sh post st
  | .ret => vcRet Γ rs sh post st
  | _ => False
def ofArg : Value → SV
  | .agg cs => .agg (cs.toList.map S1.v)
  | .pointer (some ⟨b, o, none⟩) => .one (.elt (some ⟨b, o, none⟩) 0)
  | x => .one (.v x)
def st0 (args : List Value) (n extra : Nat) (H : Heap) : St :=
  { fr := args.map ofArg ++ List.replicate (n - args.length) (.one .un), L := List.replicate (n + extra) none, H := H, O := noO }
def vcFn (P : Program) (Γ : Tab) (an : Ann) (fn : Func) (args : List Value) (extra : Nat) (H : Heap) (sh : RSh) (post : PostR sh.parts (Heap → Prop)) : Prop :=
  match fn.body with
  | none => False
  | some c => vcC P Γ an c (retK Γ fn.results.toList sh post) (st0 args fn.ntmps extra H)

/- a function that is handed a row of the caller's own at place k, and gives it up -/
def st0M (args : List Value) (k n extra : Nat) (e : TypeId) (m : Nat) (xs : List Value) (H : Heap) : St :=
  { fr := (args.map ofArg).set k (.one (.own (n + extra))) ++ List.replicate (n - args.length) (.one .un), L := List.replicate (n + extra) none ++ [some (true, .row e m xs)], H := H, O := noO }
def vcFnM (P : Program) (Γ : Tab) (an : Ann) (fn : Func) (args : List Value) (k : Nat) (e : TypeId) (m : Nat) (xs : List Value) (extra : Nat) (H : Heap) (sh : RSh) (post : PostR sh.parts (Heap → Prop)) : Prop :=
  match fn.body with
  | none => False
  | some c => vcC P Γ an c (retK Γ fn.results.toList sh post) (st0M args k fn.ntmps extra e m xs H)
/- a function that is handed a row of the caller's own at place k, and hands it back; no results -/
def st0K (args : List Value) (k n extra : Nat) (s : Value) (e : TypeId) (m : Nat) (xs : List Value) (H : Heap) : St :=
  { fr := (args.map ofArg).set k (.one (.pin (n + extra) s)) ++ List.replicate (n - args.length) (.one .un), L := List.replicate (n + extra) none ++ [some (true, .row e m xs)], H := H, O := noO }
def eqV (a b : Value) : Prop := a = b
def eqN (a b : Nat) : Prop := a = b
def retKK (rs : List ResultVar) (k i : Nat) (s : Value) (e : TypeId) (m : Nat) (post : List Value → Heap → Prop) (st : St) : Prop :=
  match rs with
  | _ :: _ => False
  | [] => match st.fr[k]? with
    | some (.one (.pin i' s')) => if i' = i then match getL st i with
      | some (.row e' n ys) => if e' = e then eqV s' s ∧ eqN n m ∧ post ys st.H else False
      | _ => False
      else False
    | _ => False
def retKE (rs : List ResultVar) (k i : Nat) (s : Value) (e : TypeId) (m : Nat) (post : List Value → Heap → Prop) (ex : Exit) (st : St) : Prop :=
  match ex with
  | .normal => retKK rs k i s e m post st
  | .ret => retKK rs k i s e m post st
  | _ => False
def vcFnK (P : Program) (Γ : Tab) (an : Ann) (fn : Func) (args : List Value) (k : Nat) (e : TypeId) (m : Nat) (xs : List Value) (extra : Nat) (H : Heap) (post : List Value → Heap → Prop) : Prop :=
  match fn.body with
  | none => False
  | some c => ∀ s, vcC P Γ an c (retKE fn.results.toList k (fn.ntmps + extra) s e m post) (st0K args k fn.ntmps extra s e m xs H)
end Go.Vc
