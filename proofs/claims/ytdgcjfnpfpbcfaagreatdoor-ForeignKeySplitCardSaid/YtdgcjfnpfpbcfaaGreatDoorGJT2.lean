/- Contracts, effects, regions, code: the verification condition. Definitions only. -/
import Derived.Test.YtdgcjfnpfpbcfaaGreatDoorGJT0
import Derived.Test.YtdgcjfnpfpbcfaaGreatDoorGJT1
import Derived.OrdersHeld
set_option linter.unusedSectionVars false
set_option linter.unusedSimpArgs false
set_option linter.unusedVariables false
namespace Go.Vc
open Go Go.RowKit

def PostL : List Leaf → Type → Type
  | [], R => R
  | .int _ :: ls, R => Int → PostL ls R
  | .bool :: ls, R => Bool → PostL ls R
  | .str :: ls, R => ByteArray → PostL ls R
  | .sl :: ls, R => Option Addr → Nat → Nat → PostL ls R
  | .val :: ls, R => Value → PostL ls R
  | .cells :: ls, R => List Value → PostL ls R
  | .row _ _ :: ls, R => Nat → List Value → PostL ls R
structure RSh where
  tup : Bool
  parts : List (Bool × List Leaf)
def PostR : List (Bool × List Leaf) → Type → Type
  | [], R => R
  | (_, ls) :: r, R => PostL ls (PostR r R)

/- a new row in a result: slice value, element type, length, cells -/
structure NRow where
  s : Value
  e : TypeId
  n : Nat
  xs : List Value
/- the values that a typed post lets through -/
def exL : (ls : List Leaf) → {R : Type} → PostL ls R → List NRow → (List Value → List NRow → R → Prop) → Prop
  | [], _, p, nr, K => K [] nr p
  | .int k :: ls, _, p, nr, K => ∃ n : Int, exL ls (p n) nr fun vs nr q => K (.int k n :: vs) nr q
  | .bool :: ls, _, p, nr, K => ∃ b : Bool, exL ls (p b) nr fun vs nr q => K (.bool b :: vs) nr q
  | .str :: ls, _, p, nr, K => ∃ s : ByteArray, exL ls (p s) nr fun vs nr q => K (.string s :: vs) nr q
  | .sl :: ls, _, p, nr, K => ∃ A n c, exL ls (p A n c) nr fun vs nr q => K (.slice A n c :: vs) nr q
  | .val :: ls, _, p, nr, K => ∃ v : Value, v.oneCell' = true ∧ exL ls (p v) nr fun vs nr q => K (v :: vs) nr q
  | .cells :: _, _, _, _, _ => False
  | .row _ e :: ls, _, p, nr, K => ∃ r nr', nr = r :: nr' ∧ r.e = e ∧ exL ls (p r.n r.xs) nr' fun vs nr q => K (r.s :: vs) nr q
def mkV (agg : Bool) (vs : List Value) : Option Value :=
  match agg, vs with
  | true, vs => some (.agg ⟨vs⟩)
  | false, [v] => some v
  | false, _ => none
def exR : (ps : List (Bool × List Leaf)) → {R : Type} → PostR ps R → List NRow → (List Value → List NRow → R → Prop) → Prop
  | [], _, p, nr, K => K [] nr p
  | (g, ls) :: ps, _, p, nr, K => exL ls p nr fun vs nr q => ∃ v, mkV g vs = some v ∧ exR ps q nr fun us nr q => K (v :: us) nr q
def Fits (sh : RSh) (post : PostR sh.parts (Heap → Prop)) (v : Value) (H : Heap) (nr : List NRow) : Prop :=
  exR sh.parts post nr fun vs nr' q => nr' = [] ∧ (if sh.tup then v = .tuple ⟨vs⟩ else vs = [v]) ∧ q H

/- what public memory says of a place: the cell; or, by a mark, that the block ends there -/
def isEnd : Value → Bool
  | .tuple _ => true
  | _ => false
def seen (w : World) (b o : Nat) (v : Value) : Prop := match isEnd v with
  | false => w.cell? ⟨b, o, none⟩ = some v
  | true => ∃ cs t fz, w.heap[b]? = some (.cells cs t fz) ∧ cs.size = o
theorem isEnd_one {v : Value} (h : v.oneCell' = true) : isEnd v = false := by
  cases v <;> first | rfl | simp [Value.oneCell'] at h
theorem seen.keep {w w' : World} {b o : Nat} {v : Value} (h : seen w b o v) (k : w'.heap[b]? = w.heap[b]?) : seen w' b o v := by
  unfold seen at *
  split at h
  · rename_i he
    exact (World.cell?_of_block (a := ⟨b, o, none⟩) k).trans h
  · rename_i he
    obtain ⟨cs, t, fz, h1, h2⟩ := h
    exact ⟨cs, t, fz, k.trans h1, h2⟩
theorem seen.cell {w : World} {b o : Nat} {v : Value} (h : seen w b o v) (h1 : v.oneCell' = true) : w.cell? ⟨b, o, none⟩ = some v := by
  unfold seen at h
  rw [isEnd_one h1] at h
  exact h
theorem seen.of {w : World} {b o : Nat} {v : Value} (h : w.cell? ⟨b, o, none⟩ = some v) (h1 : v.oneCell' = true) : seen w b o v := by
  unfold seen
  rw [isEnd_one h1]
  exact h
theorem seen.lt {w : World} {b o : Nat} {v : Value} (h : seen w b o v) : b < w.heap.size := by
  unfold seen at h
  split at h
  · exact World.block_lt_of_cell? w ⟨b, o, none⟩ h
  · obtain ⟨cs, t, fz, h1, _⟩ := h
    exact (Array.getElem?_eq_some_iff.1 h1).1
def Snap (H : Heap) (w : World) : Prop := ∀ b o v, H b o = some v → seen w b o v
def FnOK (P : Program) (f : FuncId) : Prop := ∃ fn, P.funcs[f]? = some fn ∧ fn.body.isSome = true ∧ (fn.name == "runtime.NumGoroutine") = false
/- how the world and the public memory may grow during a call -/
structure Grows (w w' : World) (H H' : Heap) : Prop where
  below : Below w.heap.size w w'
  le : Heap.le H H'
  old : ∀ b, b < w.heap.size → ∀ o, H' b o = H b o
  snap : Snap H' w'
  drawn : w.drawn ≤ w'.drawn
def NewRow (P : Program) (w w' : World) (H' : Heap) (r : NRow) : Prop :=
  w'.ownsRow w.heap.size r.e (P.cellsOf r.e) r.s r.n r.xs ∧ (∀ x ∈ r.xs, x.oneCell' = true) ∧ ∀ g, r.s.ownBlock = some g → ∀ o, H' g o = none
def apartRows (nr : List NRow) : Prop := nr.Pairwise fun r r' => ∀ g, r.s.ownBlock = some g → r'.s.ownBlock ≠ some g
/- THE CONTRACT: in whatever world that shows the public memory H, the call returns, and its result fits -/
def ConT (P : Program) (f : FuncId) (args : List Value) (H : Heap) (sh : RSh) (post : PostR sh.parts (Heap → Prop)) : Prop :=
  FnOK P f ∧ ∀ w, Snap H w → Calls P f args.toArray w fun e w' => ∃ v H' nr, e = .returned v ∧ Fits sh post v H' nr ∧ Grows w w' H H' ∧
    (∀ r ∈ nr, NewRow P w w' H' r) ∧ apartRows nr

/- a call that is handed one row of the caller's own: it may write it and hand it back -/
structure BelX (w w' : World) (g : Option Nat) : Prop where
  os : w'.os = w.os
  tape : w'.tape = w.tape
  output : w'.output = w.output
  size : w.heap.size ≤ w'.heap.size
  block : ∀ k, k < w.heap.size → g ≠ some k → w'.heap[k]? = w.heap[k]?
  drawn : w.drawn ≤ w'.drawn
/- the same for a set of blocks -/
structure BelS (w w' : World) (g : Nat → Prop) : Prop where
  os : w'.os = w.os
  tape : w'.tape = w.tape
  output : w'.output = w.output
  size : w.heap.size ≤ w'.heap.size
  block : ∀ k, k < w.heap.size → ¬ g k → w'.heap[k]? = w.heap[k]?
  drawn : w.drawn ≤ w'.drawn
/- where a call began: the world, and the blocks that it was handed -/
structure W0 where
  w : World
  g : Nat → Prop
/- a block that the call may write and give away: new, or handed -/
def W0.nw (w0 : W0) (b : Nat) : Prop := w0.w.heap.size ≤ b ∨ w0.g b
theorem W0.old {w0 : W0} {b : Nat} (h : ¬ w0.nw b) : b < w0.w.heap.size ∧ ¬ w0.g b := ⟨by
  rcases Nat.lt_or_ge b w0.w.heap.size with h1 | h1
  · exact h1
  · exact absurd (.inl h1) h, fun h1 => h (.inr h1)⟩
structure owns (w : World) (w0 : W0) (e : TypeId) (sz : Nat) (v : Value) (n : Nat) (xs : List Value) : Prop where
  row : w.ownsRow 0 e sz v n xs
  nw : ∀ g, v.ownBlock = some g → w0.nw g
theorem owns.cells {w : World} {w0 : W0} {e : TypeId} {sz : Nat} {v : Value} {n : Nat} {xs : List Value} (h : owns w w0 e sz v n xs) {g : Nat} (hg : v.ownBlock = some g) : ∀ j u, xs[j]? = some u → w.cell? ((⟨g, 0, none⟩ : Addr).add j) = some u := h.row.cells hg
theorem owns.lt {w : World} {w0 : W0} {e : TypeId} {sz : Nat} {v : Value} {n : Nat} {xs : List Value} (h : owns w w0 e sz v n xs) : ∀ k, v.ownBlock = some k → w0.nw k ∧ k < w.heap.size := fun k hk => ⟨h.nw k hk, (h.row.lt k hk).2⟩
theorem owns.kept {w w' : World} {row : Option Nat} {w0 : W0} {e : TypeId} {sz : Nat} {v : Value} {n : Nat} {xs : List Value} (h : owns w w0 e sz v n xs) (hg : w.grownBy w' row) (hne : v.ownBlock = none ∨ v.ownBlock ≠ row) : owns w' w0 e sz v n xs := ⟨h.row.kept hg hne, h.nw⟩
theorem owns.nil (w : World) (w0 : W0) (e : TypeId) (sz : Nat) : owns w w0 e sz (.slice none 0 0) 0 [] := ⟨World.ownsRow_nil w 0 e sz, fun g h => by simp [Value.ownBlock] at h⟩
theorem ownsRow_base0 {w : World} {B : Nat} {e : TypeId} {sz : Nat} {v : Value} {n : Nat} {xs : List Value} (h : w.ownsRow B e sz v n xs) : w.ownsRow 0 e sz v n xs := by
  refine ⟨h.1, ?_⟩
  rcases h.2 with h | ⟨g, cap, cur, hv, _, h⟩
  · exact .inl h
  · exact .inr ⟨g, cap, cur, hv, Nat.zero_le _, h⟩
theorem BelS.grown {w0 w w' : World} {g : Nat → Prop} {row : Option Nat} (h : BelS w0 w g) (hg : w.grownBy w' row) (hd : w.drawn ≤ w'.drawn) (hr : ∀ k, row = some k → w0.heap.size ≤ k ∨ g k) : BelS w0 w' g :=
  ⟨hg.os.trans h.os, hg.tape.trans h.tape, hg.output.trans h.output, Nat.le_trans h.size hg.size, fun k hk hne => (hg.block k (Nat.lt_of_lt_of_le hk h.size) (fun e => by rcases hr k e.symm with h1 | h1; omega; exact hne h1)).trans (h.block k hk hne), Nat.le_trans h.drawn hd⟩
theorem BelX.set {w w' : World} {g : Option Nat} (h : BelX w w' g) : BelS w w' (fun b => g = some b) := ⟨h.os, h.tape, h.output, h.size, h.block, h.drawn⟩
theorem BelS.opt {w w' : World} {g : Option Nat} (h : BelS w w' (fun b => g = some b)) : BelX w w' g := ⟨h.os, h.tape, h.output, h.size, h.block, h.drawn⟩
structure GrowsX (w w' : World) (H H' : Heap) (g : Option Nat) : Prop where
  below : BelX w w' g
  le : Heap.le H H'
  old : ∀ b, b < w.heap.size → g ≠ some b → ∀ o, H' b o = H b o
  snap : Snap H' w'
def RowX (P : Program) (w' : World) (B : Nat) (H' : Heap) (r : NRow) : Prop :=
  w'.ownsRow B r.e (P.cellsOf r.e) r.s r.n r.xs ∧ (∀ x ∈ r.xs, x.oneCell' = true) ∧ ∀ g, r.s.ownBlock = some g → ∀ o, H' g o = none
def ConM (P : Program) (f : FuncId) (args : List Value) (k : Nat) (e : TypeId) (n : Nat) (xs : List Value) (keep : Bool) (H : Heap) (sh : RSh) (post : List Value → PostR sh.parts (Heap → Prop)) : Prop :=
  FnOK P f ∧ ∀ (w : World) (B : Nat) (s : Value), Snap H w → B ≤ w.heap.size → RowX P w B H ⟨s, e, n, xs⟩ → Calls P f (args.set k s).toArray w fun e' w' => ∃ v H' nr ys, e' = .returned v ∧ Fits sh (post ys) v H' nr ∧
    GrowsX w w' H H' s.ownBlock ∧ (keep = true → RowX P w' B H' ⟨s, e, n, ys⟩) ∧
    (∀ r ∈ nr, RowX P w' B H' r ∧ ∀ g, r.s.ownBlock = some g → w.heap.size ≤ g ∨ (keep = false ∧ s.ownBlock = some g)) ∧ apartRows nr
/- all values of the leaves, laid into the state -/
def allL : (ls : List Leaf) → {R : Type} → PostL ls R → St → (List S1 → St → R → Prop) → Prop
  | [], _, p, st, K => K [] st p
  | .int k :: ls, _, p, st, K => ∀ n : Int, allL ls (p n) st fun cs st q => K (.v (.int k n) :: cs) st q
  | .bool :: ls, _, p, st, K => ∀ b : Bool, allL ls (p b) st fun cs st q => K (.b b :: cs) st q
  | .str :: ls, _, p, st, K => ∀ s : ByteArray, allL ls (p s) st fun cs st q => K (.v (.string s) :: cs) st q
  | .sl :: ls, _, p, st, K => ∀ A n c, allL ls (p A n c) st fun cs st q => K (.v (.slice A n c) :: cs) st q
  | .val :: ls, _, p, st, K => ∀ v : Value, allL ls (p v) st fun cs st q => K (.v v :: cs) st q
  | .cells :: _, _, _, _, _ => False
  | .row i e :: ls, _, p, st, K => if fresh? st i then ∀ n xs, allL ls (p n xs) (setL st i (.row e n xs)) fun cs st q => K (.own i :: cs) st q else False
def allR : (ps : List (Bool × List Leaf)) → {R : Type} → PostR ps R → St → (List (Bool × List S1) → St → R → Prop) → Prop
  | [], _, p, st, K => K [] st p
  | (g, ls) :: ps, _, p, st, K => allL ls p st fun cs st q => allR ps q st fun r st q => K ((g, cs) :: r) st q
def mkRes (tup : Bool) (r : List (Bool × List S1)) : Option SV :=
  match tup, r with
  | true, r => some (.tup r)
  | false, [(g, cs)] => mkSV g cs
  | false, _ => none
/- the leaves' values out of a state -/
def S1.asInt (k : IntKind) : S1 → Option Int
  | .v (.int k' n) => if k = k' then some n else none
  | _ => none
def S1.asStr : S1 → Option ByteArray
  | .v (.string s) => some s
  | _ => none
def S1.asSl : S1 → Option (Option Addr × Nat × Nat)
  | .v (.slice A n c) => some (A, n, c)
  | _ => none
def S1.asVal (c : S1) : Option Value := match c.ok1 with
  | true => c.toV
  | false => none
def takeRow (st : St) (e : TypeId) : S1 → Option (Nat × List Value × St)
  | .own k => match getW st k with
    | some (.row e' n xs) => if e' = e then some (n, xs, setL st k .dead) else none
    | _ => none
  | .sub k l m _ => match l with
    | 0 => match getW st k with
      | some (.row e' n xs) => if e' = e then some (m, cutR xs n m, setL st k .dead) else none
      | _ => none
    | _ + 1 => none
  | .v (.slice none 0 0) => some (0, [], st)
  | _ => none
def colL : (ls : List Leaf) → {R : Type} → PostL ls R → List S1 → St → Option (R × St)
  | [], _, p, cs, st => match cs with
    | [] => some (p, st)
    | _ :: _ => none
  | .int k :: ls, _, p, cs, st => match cs with
    | [] => none
    | c :: cs => match c.asInt k with
      | some n => colL ls (p n) cs st
      | none => none
  | .bool :: ls, _, p, cs, st => match cs with
    | [] => none
    | c :: cs => match c.asB with
      | some b => colL ls (p b) cs st
      | none => none
  | .str :: ls, _, p, cs, st => match cs with
    | [] => none
    | c :: cs => match c.asStr with
      | some s => colL ls (p s) cs st
      | none => none
  | .sl :: ls, _, p, cs, st => match cs with
    | [] => none
    | c :: cs => match c.asSl with
      | some (A, n, c) => colL ls (p A n c) cs st
      | none => none
  | .val :: ls, _, p, cs, st => match cs with
    | [] => none
    | c :: cs => match c.asVal with
      | some v => colL ls (p v) cs st
      | none => none
  | .cells :: _, _, _, _, _ => none
  | .row _ e :: ls, _, p, cs, st => match cs with
    | [] => none
    | c :: cs => match takeRow st e c with
      | some (n, xs, st) => colL ls (p n xs) cs st
      | none => none
def colR : (ps : List (Bool × List Leaf)) → {R : Type} → PostR ps R → List SV → St → Option (R × St)
  | [], _, p, [], st => some (p, st)
  | (g, ls) :: ps, _, p, x :: xs, st => match g, resV st x with
    | true, .agg cs => match colL ls p cs st with
      | some (q, st) => colR ps q xs st
      | none => none
    | false, .one c => match colL ls p [c] st with
      | some (q, st) => colR ps q xs st
      | none => none
    | _, _ => none
  | _, _, _, _, _ => none

/- lending memory of the call's own for the time of a call -/
def lend1 (st : St) (x : S1) (H : Heap) (K : Value → Heap → Prop) : Prop :=
  match x with
  | .loc i off => match getL st i with
    | some (.box _ cs) => if ok1s cs then match toVs cs with
      | some vs => ∀ g H', Heap.le H H' → Cells H' (some ⟨g, 0, none⟩) 0 vs → K (.pointer (some ⟨g, off, none⟩)) H'
      | none => False
      else False
    | _ => False
  | .own i => match getL st i with
    | some (.row _ n xs) => ∀ A c H', Heap.le H H' → Cells H' A 0 xs → leN n c → K (.slice A n c) H'
    | _ => False
  | x => match x.toV with
    | some v => K v H
    | none => False
def lendL (st : St) : List S1 → Heap → (List Value → Heap → Prop) → Prop
  | [], H, K => K [] H
  | x :: xs, H, K => lend1 st x H fun v H' => lendL st xs H' fun vs H'' => K (v :: vs) H''
def lendS (st : St) (x : SV) (H : Heap) (K : Value → Heap → Prop) : Prop :=
  match x with
  | .one x => lend1 st x H K
  | .agg cs => lendL st cs H fun vs H' => K (.agg ⟨vs⟩) H'
  | .clo f cap => lendL st cap H fun vs H' => K (.func (.func f) #[] ⟨vs⟩) H'
  | .tup _ => False
def lendA (st : St) : List SV → Heap → (List Value → Heap → Prop) → Prop
  | [], H, K => K [] H
  | x :: xs, H, K => lendS st x H fun v H' => lendA st xs H' fun vs H'' => K (v :: vs) H''

/- making a row of the call's own public, for good -/
def vcPub (st : St) (i : Nat) (K : St → Prop) : Prop :=
  match getW st i with
  | some (.row _ n xs) => ∀ A c H', Heap.le st.H H' → Cells H' A 0 xs → leN n c → K (setL { st with H := H' } i (.pub A n c))
  | some (.pub _ _ _) => K st
  | _ => False
def vcPubs (K : St → Prop) : List Nat → St → Prop
  | [], st => K st
  | i :: is, st => vcPub st i fun st' => vcPubs K is st'
/- the rows that a value names -/
def owns1 : List S1 → List Nat
  | [] => []
  | .own i :: cs => i :: owns1 cs
  | _ :: cs => owns1 cs
def SV.owns : SV → List Nat
  | .one x => owns1 [x]
  | .agg cs => owns1 cs
  | .clo _ cap => owns1 cap
  | .tup _ => []
def ownsA : List SV → List Nat
  | [] => []
  | x :: xs => x.owns ++ ownsA xs

def partOf (Γ : Tab) (t : TypeId) : Bool × List Leaf :=
  match Γ t with
  | some i => (i.agg, leavesOf Γ 9 t)
  | none => (false, [.val])
def shOf (Γ : Tab) (tup : TypeId → Option (List TypeId)) (t : TypeId) : RSh :=
  match tup t with
  | some ts => ⟨true, ts.map (partOf Γ)⟩
  | none => ⟨false, [partOf Γ t]⟩

/- what a loop carries -/
inductive Item where
  | slot (d : Nat) (agg : Bool) (ls : List Leaf)
  | box (i : Nat) (t : TypeId) (ls : List Leaf)
  | arr (i : Nat) (t : TypeId)
  | rowc (i : Nat) (e : TypeId)
/- an order for a region: reads taken first, and where an effect comes up: whichever comes up -/
inductive Sch where
  | done
  | fin
  | take (j : Nat) (r : Sch)
  | alt (j : Nat) (r : Sch) (rest : Sch)
def tk : List Nat → Sch → Sch
  | [], r => r
  | j :: js, r => .take j (tk js r)
def Sch.ids : Sch → List Nat
  | .alt j _ rest => j :: rest.ids
  | _ => []
/- the choices laid down for one function's code -/
structure Ann where
  res : Nat → Option RSh
  lend : Nat → Bool
  sch : Nat → Sch
  lt : Nat → List Item
  tup : TypeId → Option (List TypeId)
  mt : FuncId → Option Bool := fun _ => none
  opn : Bool := false
  oap : Nat → Bool := fun _ => false
def Ann.oapd (an : Ann) : Option Nat → Bool
  | some d => an.oap d
  | none => false

def resSh (Γ : Tab) (an : Ann) (d : Option Tmp) (t : TypeId) : RSh :=
  match d with
  | some d => match an.res d with
    | some s => s
    | none => shOf Γ an.tup t
  | none => shOf Γ an.tup t
def vcRes (sh : RSh) (d : Option Tmp) (r : List (Bool × List S1)) (st : St) (K : St → Prop) : Prop :=
  match mkRes sh.tup r with
  | some x => K (setS st d x)
  | none => False
def vcPlain (P : Program) (sh : RSh) (st : St) (d : Option Tmp) (f : FuncId) (vals : List Value) (K : St → Prop) : Prop :=
  ∃ post : PostR sh.parts (Heap → Prop), ConT P f vals st.H sh post ∧ ∀ H', Heap.le st.H H' →
    allR sh.parts post { st with H := H' } fun r st' q => q H' → vcRes sh d r st' K
def lendOf (an : Ann) (d : Option Tmp) : Bool := match d with
  | some d => an.lend d
  | none => false
/- the one row among the arguments: its place, its number, the arguments with a hole -/
def oneRow : List SV → Nat → Option (Nat × Nat)
  | [], _ => none
  | .one (.own i) :: _, k => some (k, i)
  | _ :: xs, k => oneRow xs (k + 1)
def vcMut (P : Program) (ln : Bool) (sh : RSh) (st : St) (d : Option Tmp) (f : FuncId) (as : List SV) (keep : Bool) (K : St → Prop) : Prop :=
  match oneRow as 0 with
  | none => False
  | some (k, i) => match getW st i with
    | some (.row e n xs) => match plains (as.set k (.one (.v (.slice none 0 0)))) with
      | none => match ln with
        | true => ∃ post : List Value → PostR sh.parts (Heap → Prop), lendA (setL st i .dead) (as.set k (.one (.v (.slice none 0 0)))) st.H (fun vals H1 => ConM P f vals k e n xs keep H1 sh post) ∧ ∀ H' ys,
          allR sh.parts (post ys) (setL st i (if keep then .row e n ys else .dead)) fun r st' q => q H' → vcRes sh d r st' K
        | false => False
      | some vals => ∃ post : List Value → PostR sh.parts (Heap → Prop), ConM P f vals k e n xs keep st.H sh post ∧ ∀ H', Heap.le st.H H' → ∀ ys,
          allR sh.parts (post ys) { setL st i (if keep then .row e n ys else .dead) with H := H' } fun r st' q => q H' → vcRes sh d r st' K
    | _ => False
/- the rows among the arguments but for the one that is handed on -/
def ownsO (as : List SV) : List Nat := match oneRow as 0 with
  | some (k, _) => ownsA (as.set k (.one .un))
  | none => []
/- a call: 'args' evaluates the arguments. Arguments that hold memory of the call's own: it is lent for the time of the call, or made public for good -/
def vcCall (P : Program) (Γ : Tab) (an : Ann) (t : TypeId) (st : St) (d : Option Tmp) (f : FuncId) (args : St → Option (List SV)) (K : St → Prop) : Prop :=
  match args st with
  | none => False
  | some as => match plains as with
    | some vals => vcPlain P (resSh Γ an d t) st d f vals K
    | none => match an.mt f with
     | some keep => match lendOf an d with
       | true => vcMut P true (resSh Γ an d t) st d f as keep K
       | false => vcPubs (fun st' => match args st' with
         | none => False
         | some as => vcMut P false (resSh Γ an d t) st' d f as keep K) (ownsO as) st
     | none => match lendOf an d with
      | true => ∃ post : PostR (resSh Γ an d t).parts (Heap → Prop), lendA st as st.H (fun vals H' => ConT P f vals H' (resSh Γ an d t) post) ∧
          ∀ H', allR (resSh Γ an d t).parts post st fun r st' q => q H' → vcRes (resSh Γ an d t) d r st' K
      | false => vcPubs (fun st' => match args st' with
        | none => False
        | some as => match plains as with
          | some vals => vcPlain P (resSh Γ an d t) st' d f vals K
          | none => False) (ownsA as) st

def lenIs (xs : List Value) (n : Nat) : Prop := xs.length = n
def llen (xs : List Value) : Nat := xs.length
def vcStore (Γ : Tab) (st : St) (t : TypeId) (x y : SV) (K : St → Prop) : Prop :=
  match Γ t with
  | none => False
  | some i => match y.cells with
    | none => False
    | some ys =>
      if ys.length = i.size ∧ ok1s ys then match x with
        | .one (.loc o off) => match getW st o with
          | some (.box t0 cs) => if off + ys.length ≤ cs.length then K (setL st o (.box t0 (cs.take off ++ ys ++ cs.drop (off + ys.length)))) else False
          | some (.arr t0 xs) => match off with
            | 0 => match toVs ys with
              | some vs => lenIs xs i.size ∧ K (setL st o (.arr t0 vs))
              | none => False
            | _ + 1 => False
          | _ => False
        | .one (.aelt o j) => match getW st o with
          | some (.arr t0 xs) => match toVs ys with
            | some vs => leN (nadd j i.size) (llen xs) ∧ K (setL st o (.arr t0 (splice xs j vs)))
            | none => False
          | _ => False
        | .one (.oelt o j) => match getW st o with
          | some (.row e n xs) => match toVs ys with
            | some vs => leN (nadd j i.size) (llen xs) ∧ K (setL st o (.row e n (splice xs j vs)))
            | none => False
          | _ => False
        | _ => False
      else False

/- the cells of the second argument of an append -/
def vcApp2 (st : St) (e : TypeId) (sz : Nat) (x : SV) (K : Nat → List Value → Prop) : Prop :=
  match x with
  | .one (.own k) => match getL st k with
    | some (.row e' m ys) => if e' = e then K m ys else False
    | _ => False
  | .one (.v (.slice A m _)) => ∃ ys, Cells st.H A 0 ys ∧ lenIs ys (nmul m sz) ∧ K m ys
  | _ => False
def vcAppend (opn : Bool) (Γ : Tab) (st : St) (d : Option Tmp) (t : TypeId) (s x : SV) (K : St → Prop) : Prop :=
  match d with
  | none => False
  | some d => match Γ t with
    | none => False
    | some i => match i.ty with
      | .slice e => match Γ e with
        | none => False
        | some j => if fresh? st d ∧ 0 < j.size ∧ 0 < j.bytes then match opn with
          | true => match s with
            | .one (.v (.slice A n c)) => ∃ xs, isOpen st.O A e n c ∧ Cells st.H A 0 xs ∧ lenIs xs (nmul n j.size) ∧ vcApp2 st e j.size x fun m ys =>
                leN (nmul (nadd n m) j.bytes) 140737488355328 ∧ ∀ A' c' H' O', Heap.le st.H H' → Cells H' A' 0 (cat xs ys) → leN (nadd n m) c' → isOpen O' A' e (nadd n m) c' → keepO st.O O' A A' →
                  K (setS { st with H := H', O := O' } (some d) (.one (.v (.slice A' (nadd n m) c'))))
            | _ => False
          | false => match s with
            | .one (.v (.slice none 0 0)) => vcApp2 st e j.size x fun m ys =>
                leN (nmul m j.bytes) 140737488355328 ∧ K (setS (setL st d (.row e m ys)) (some d) (.one (.own d)))
            | .one (.own k) => match getW st k with
              | some (.row e' n xs) => if e' = e then vcApp2 st e j.size x fun m ys =>
                  leN (nmul (nadd n m) j.bytes) 140737488355328 ∧ K (setS (setL (setL st k .dead) d (.row e (nadd n m) (cat xs ys))) (some d) (.one (.own d))) else False
              | _ => False
            | _ => False
          else False
      | _ => False

def repl (z : List Value) : Nat → List Value
  | 0 => []
  | n + 1 => z ++ repl z n
def replN (z : List Value) (n : Nat) : List Value := repl z n
def isRepl (xs : List Value) (z : List Value) (n : Nat) : Prop := xs = repl z n

def vcNew (st : St) (d : Nat) (t : TypeId) (i : TyI) (cs : List S1) (K : St → Prop) : Prop :=
  match i.ty with
  | .array _ _ => match toVs cs with
    | some vs => K (setS (setL st d (.arr t vs)) (some d) (.one (.loc d 0)))
    | none => False
  | _ => K (setS (setL st d (.box t cs)) (some d) (.one (.loc d 0)))
def vcClear (st : St) (d : Option Tmp) (e : TypeId) (j : TyI) (x : SV) (K : St → Prop) : Prop :=
  match d with
  | none => match x with
    | .one (.own k) => match getW st k with
      | some (.row e' n xs) => if e' = e then K (setL st k (.row e n (replN j.zero n))) else False
      | _ => False
    | .one (.sub k l m sz) => match getW st k with
      | some (.row e' n xs) => if e' = e ∧ sz = j.size then K (setL st k (.row e n (splice xs (nmul l sz) (replN j.zero m)))) else False
      | _ => False
    | _ => False
  | some _ => False
def mapHint (st : St) : Option Operand → Bool
  | none => true
  | some x => match ev st x with
    | some (.one (.v (.int _ _))) => true
    | _ => false
def keyOK : Ty → Value → Bool
  | .int q, .int q' _ => q == q'
  | .string, .string _ => true
  | _, _ => false
/- what a look-up reads -/
def lkIs (es : List (Value × Value)) (k : Value) (agg : Bool) (z vs : List Value) : Prop := match mfind es k with
  | some v => mkV agg vs = some v
  | none => vs = z
/- what makes or writes memory, and calls -/
def vcEf (P : Program) (Γ : Tab) (an : Ann) (st : St) (d : Option Tmp) (ty : TypeId) (op : Op) (K : St → Prop) : Prop :=
  match op with
  | .alloc t => match d with
    | none => False
    | some d => match Γ t with
      | none => False
      | some i => if fresh? st d then vcNew st d t i (i.zero.map S1.v) K else False
  | .box t x => match d with
    | none => False
    | some d => match Γ t with
      | none => False
      | some i => match ev st x with
        | none => False
        | some x => match x.cells with
          | none => False
          | some cs => if fresh? st d ∧ cs.length = i.size ∧ ok1s cs then vcNew st d t i cs K else False
  | .buildSlice t n parts => match d with
    | none => False
    | some d => match Γ t with
      | none => False
      | some i => match i.ty with
        | .slice e => match Γ e with
          | none => False
          | some j => match lay st (fun f => if f < n then some (f * j.size, j.size) else none) parts.toList ((repl j.zero n).map S1.v) with
            | none => False
            | some cs => vcPubs (fun st => match lay st (fun f => if f < n then some (f * j.size, j.size) else none) parts.toList ((repl j.zero n).map S1.v) with
              | none => False
              | some cs => match toVs cs with
                | none => False
                | some vs => if fresh? st d ∧ ok1s cs ∧ n * j.size ≤ 16777216 ∧ 0 < j.size ∧ 0 < j.bytes then K (setS (setL st d (.row e n vs)) (some d) (.one (.own d))) else False) (owns1 cs) st
        | _ => False
  | .makeSlice t l c => match d with
    | none => False
    | some d => match Γ t with
      | none => False
      | some i => match i.ty with
        | .slice e => match Γ e with
          | none => False
          | some j => match ev st l with
            | some (.one (.v (.int _ l))) => match ev st c with
              | some (.one (.v (.int _ c))) => if fresh? st d ∧ 0 < j.size ∧ 0 < j.bytes then
                  eqI c l ∧ leI 0 l ∧ leI (imul l (ofN j.bytes)) 140737488355328 ∧ ∀ xs, isRepl xs j.zero l.toNat → K (setS (setL st d (.row e l.toNat xs)) (some d) (.one (.own d)))
                else False
              | _ => False
            | _ => False
        | _ => False
  | .store t a x => match d with
    | some _ => False
    | none => match ev st a with
      | none => False
      | some a => match ev st x with
        | none => False
        | some x => vcStore Γ st t a x K
  | .makeMap t r => match d with
    | none => False
    | some d => match Γ t with
      | none => False
      | some i => match i.ty with
        | .map _ _ => match mapHint st r with
          | true => ∀ b O', newM st.O O' b t → K (setS { st with O := O' } (some d) (.one (.v (.map (some b)))))
          | false => False
        | _ => False
  | .lookup t m k ok => match d with
    | none => False
    | some d => match Γ t with
      | none => False
      | some i => match i.ty with
        | .map kt e => match Γ kt with
          | none => False
          | some ki => match Γ e with
            | none => False
            | some ei => match ev st m with
              | some (.one (.v (.map A))) => match ev st k with
                | some (.one (.v kv)) => match keyOK ki.ty kv with
                  | true => ∃ es, isMap st.O A t es ∧ exQ (leavesOf Γ 9 e) fun vs cs => lkIs es kv ei.agg ei.zero vs ∧ (if vs.length = ei.size then match mkSV ei.agg cs with
                      | some r => match ok with
                        | true => K (setS st (some d) (.tup [(ei.agg, cs), (false, [.b (mhas es kv)])]))
                        | false => K (setS st (some d) r)
                      | none => False else False)
                  | false => False
                | _ => False
              | _ => False
        | _ => False
  | .mapUpdate t m k x => match d with
    | some _ => False
    | none => match Γ t with
      | none => False
      | some i => match i.ty with
        | .map kt _ => match Γ kt with
          | none => False
          | some ki => match ev st m with
            | some (.one (.v (.map A))) => match ev st k with
              | some (.one (.v kv)) => match keyOK ki.ty kv with
                | true => match ev st x with
                  | some xv => match xv.plain with
                    | some vv => ∃ es, hasM st.O A t es ∧ ∀ O', putM st.O O' A t (mput es kv vv) → K { st with O := O' }
                    | none => False
                  | none => False
                | false => False
              | _ => False
            | _ => False
        | _ => False
  | .call { callee := .builtin .append, args, argTypes } => match args.toList with
    | [s, x] => match argTypes.toList with
      | [t, t'] => if t = t' then match ev st s with
        | none => False
        | some s => match ev st x with
          | none => False
          | some x => vcAppend (an.oapd d) Γ st d t s x K
        else False
      | _ => False
    | _ => False
  | .call { callee := .builtin .clear, args, argTypes } => match args.toList with
    | [x] => match argTypes.toList with
      | [t] => match Γ t with
        | some i => match i.ty with
          | .slice e => match Γ e with
            | some j => match ev st x with
              | some x => vcClear st d e j x K
              | none => False
            | none => False
          | _ => False
        | none => False
      | _ => False
    | _ => False
  | .call { callee := .value f, args, .. } => match ev st f with
    | some (.clo f cap) => vcCall P Γ an ty st d f (fun st => match evs st args.toList with
      | some as => some (as ++ cap.map fun c => .one (res1 st c))
      | none => none) K
    | some (.one (.v (.func (.func f) first cap))) => match first.toList with
      | [] => vcCall P Γ an ty st d f (fun st => match evs st args.toList with
        | some as => some (as ++ cap.toList.map fun c => .one (.v c))
        | none => none) K
      | _ => False
    | _ => False
  | _ => False

def isRd : Op → Bool
  | .alloc _ | .box _ _ | .buildSlice .. | .makeSlice .. | .store .. | .makeMap .. | .lookup .. | .mapUpdate .. => false
  | .call { callee := .builtin .append, .. } | .call { callee := .builtin .clear, .. } | .call { callee := .value _, .. } => false
  | _ => true
def vcExec (P : Program) (Γ : Tab) (an : Ann) (st : St) (o : Oper) (K : St → Prop) : Prop :=
  match isRd o.op with
  | true => vcRd Γ st o.op fun r => K (setS st o.dst r)
  | false => vcEf P Γ an st o.dst o.type o.op K

/- a region: its operations in an order, and behind each operation that guards others a fork on what it yields -/
inductive It where
  | op (i : Nat)
  | fork (i : Nat)
def dstOf (l : List Oper) (j : Nat) : Option Tmp := match l[j]? with
  | some o => o.dst
  | none => none
def vcFork (l : List Oper) (j : Nat) (st : St) (K : St → Prop) : Prop :=
  match dstOf l j with
  | none => K st
  | some d => match st.fr[d]? with
    | some (.one (.b x)) => (x = true → K (setS st (some d) (.one .tt))) ∧ (x = false → K (setS st (some d) (.one .ff)))
    | some (.one (.v (.bool x))) => (x = true → K (setS st (some d) (.one .tt))) ∧ (x = false → K (setS st (some d) (.one .ff)))
    | _ => K st
def vcOne (P : Program) (Γ : Tab) (an : Ann) (l : List Oper) (st : St) (o : Oper) (K : St → Prop) : Prop :=
  match o.guard with
  | none => vcExec P Γ an st o K
  | some (j, want) => match dstOf l j with
    | none => False
    | some d => match st.fr[d]? with
      | some (.one .tt) => match want with
        | true => vcExec P Γ an st o K
        | false => K (setS st o.dst (.one .un))
      | some (.one .ff) => match want with
        | false => vcExec P Γ an st o K
        | true => K (setS st o.dst (.one .un))
      | some (.one .un) => K (setS st o.dst (.one .un))
      | _ => False
def vcItems (P : Program) (Γ : Tab) (an : Ann) (l : List Oper) (K : St → Prop) : List It → St → Prop
  | [], st => K st
  | .op i :: is, st => match l[i]? with
    | some o => vcOne P Γ an l st o fun st' => vcItems P Γ an l K is st'
    | none => False
  | .fork i :: is, st => vcFork l i st fun st' => vcItems P Γ an l K is st'
def guards (l : List Oper) (i : Nat) : Bool := match l with
  | [] => false
  | o :: l => match o.guard with
    | some (j, _) => if i = j then true else guards l i
    | none => guards l i
def itemsOf (l : List Oper) : List Nat → List It
  | [] => []
  | i :: is => match guards l i with
    | true => .op i :: .fork i :: itemsOf l is
    | false => .op i :: itemsOf l is

/- which slots a piece of code writes -/
def writesO : List Oper → List Nat
  | [] => []
  | o :: l => match o.dst with
    | some d => d :: writesO l
    | none => writesO l
def firstReg : Code → Nat
  | .region id _ _ => id
  | .seq a _ => firstReg a
  | .cond _ a _ => firstReg a
  | .block _ c => firstReg c
  | .loop c => firstReg c
  | _ => 0
def itemSlots : List Item → List Nat
  | [] => []
  | .slot d _ _ :: is => d :: itemSlots is
  | _ :: is => itemSlots is
def writes (an : Ann) : Code → List Nat
  | .region _ ops _ => writesO ops.toList
  | .seq a b => writes an a ++ writes an b
  | .cond _ a b => writes an a ++ writes an b
  | .block _ c => writes an c
  | .loop c => itemSlots (an.lt (firstReg c)) ++ writes an c
  | _ => []
def rowIds : List Leaf → List Nat
  | [] => []
  | .row i _ :: ls => i :: rowIds ls
  | _ :: ls => rowIds ls
def itemIds : List Item → List Nat
  | [] => []
  | .slot _ _ ls :: is => rowIds ls ++ itemIds is
  | .box _ _ ls :: is => rowIds ls ++ itemIds is
  | .arr _ _ :: is => itemIds is
  | .rowc _ _ :: is => itemIds is
def resIds (an : Ann) : List Nat → List Nat
  | [] => []
  | d :: ds => match an.res d with
    | some sh => sh.parts.flatMap (fun x => rowIds x.2) ++ resIds an ds
    | none => resIds an ds
/- numbers for objects that a piece of code may give out -/
def idsOf (an : Ann) : Code → List Nat
  | .region _ ops _ => writesO ops.toList ++ resIds an (writesO ops.toList)
  | .seq a b => idsOf an a ++ idsOf an b
  | .cond _ a b => idsOf an a ++ idsOf an b
  | .block _ c => idsOf an c
  | .loop c => itemIds (an.lt (firstReg c)) ++ idsOf an c
  | _ => []
def havF : List Nat → List SV → List SV
  | [], fr => fr
  | d :: ds, fr => havF ds (fr.set d (.one .any))
def havL : List Nat → List (Option Ent) → List (Option Ent)
  | [], L => L
  | d :: ds, L => havL ds (L.set d none)
def lock : List (Option Ent) → List (Option Ent)
  | [] => []
  | some (_, o) :: L => some (false, o) :: lock L
  | none :: L => none :: lock L
/- after the loop what could be written before it can be written again -/
def unlock : List (Option Ent) → List (Option Ent) → List (Option Ent)
  | some (true, _) :: L, some (_, o) :: L' => some (true, o) :: unlock L L'
  | _ :: L, x :: L' => x :: unlock L L'
  | _, L' => L'
/- the objects that the loop carries are laid anew at its head -/
def deadB : List Item → List (Option Ent) → List (Option Ent)
  | [], L => L
  | .slot _ _ _ :: is, L => deadB is L
  | .box i _ _ :: is, L => deadB is (L.set i (some (false, .dead)))
  | .arr i _ :: is, L => deadB is (L.set i (some (false, .dead)))
  | .rowc i _ :: is, L => deadB is (L.set i (some (false, .dead)))

def headSt (an : Ann) (c : Code) (items : List Item) (st : St) (H : Heap) (O : OMap) : St :=
  { fr := havF (itemSlots items) (havF (writes an c) st.fr), L := deadB items (havL (itemIds items) (havL (idsOf an c) (lock st.L))), H := H, O := O }
def PostI : List Item → Type → Type
  | [], R => R
  | .slot _ _ ls :: is, R => PostL ls (PostI is R)
  | .box _ _ ls :: is, R => PostL ls (PostI is R)
  | .arr _ _ :: is, R => List Value → PostI is R
  | .rowc _ _ :: is, R => Nat → List Value → PostI is R
def allI : (is : List Item) → {R : Type} → PostI is R → St → (St → R → Prop) → Prop
  | [], _, p, st, K => K st p
  | .slot d g ls :: is, _, p, st, K => allL ls p st fun cs st q => match mkSV g cs with
    | some x => allI is q (setS st (some d) x) K
    | none => False
  | .box i t ls :: is, _, p, st, K => allL ls p st fun cs st q => allI is q (setL st i (.box t cs)) K
  | .arr i t :: is, _, p, st, K => ∀ xs, allI is (p xs) (setL st i (.arr t xs)) K
  | .rowc i e :: is, _, p, st, K => match getL st i with
    | some .dead => ∀ n xs, allI is (p n xs) (setL st i (.row e n xs)) K
    | _ => False
def colI : (is : List Item) → {R : Type} → PostI is R → St → Option (R × St)
  | [], _, p, st => some (p, st)
  | .slot d g ls :: is, _, p, st => match st.fr[d]? with
    | some x => match g, resV st x with
      | true, .agg cs => match colL ls p cs st with
        | some (q, st) => colI is q st
        | none => none
      | false, .one c => match colL ls p [c] st with
        | some (q, st) => colI is q st
        | none => none
      | _, _ => none
    | none => none
  | .box i t ls :: is, _, p, st => match getW st i with
    | some (.box t' cs) => if t' = t then match colL ls p (cs.map (res1 st)) st with
      | some (q, st) => colI is q st
      | none => none
      else none
    | _ => none
  | .arr i t :: is, _, p, st => match getW st i with
    | some (.arr t' xs) => if t' = t then colI is (p xs) st else none
    | _ => none
  | .rowc i e :: is, _, p, st => match getW st i with
    | some (.row e' n xs) => if e' = e then colI is (p n xs) (setL st i .dead) else none
    | _ => none
def zipL {A B C : Type} : (ls : List Leaf) → PostL ls A → PostL ls B → (A → B → C) → PostL ls C
  | [], p, q, f => f p q
  | .int _ :: ls, p, q, f => fun n => zipL ls (p n) (q n) f
  | .bool :: ls, p, q, f => fun n => zipL ls (p n) (q n) f
  | .str :: ls, p, q, f => fun n => zipL ls (p n) (q n) f
  | .sl :: ls, p, q, f => fun A n c => zipL ls (p A n c) (q A n c) f
  | .val :: ls, p, q, f => fun n => zipL ls (p n) (q n) f
  | .cells :: ls, p, q, f => fun n => zipL ls (p n) (q n) f
  | .row _ _ :: ls, p, q, f => fun n xs => zipL ls (p n xs) (q n xs) f
def zipI {A B : Type} : (is : List Item) → PostI is A → PostI is B → PostI is (A × B)
  | [], p, q => (p, q)
  | .slot _ _ ls :: is, p, q => zipL ls p q (zipI is)
  | .box _ _ ls :: is, p, q => zipL ls p q (zipI is)
  | .arr _ _ :: is, p, q => fun xs => zipI is (p xs) (q xs)
  | .rowc _ _ :: is, p, q => fun n xs => zipI is (p n xs) (q n xs)
def allFree (st : St) : List Nat → Bool
  | [] => true
  | d :: ds => fresh? st d && allFree st ds
def ltN (a b : Nat) : Prop := a < b
/- the rows of the call's own that stand where the loop carries a public slice: they are made public, for good -/
def pubL' : List Leaf → List S1 → List Nat
  | .row _ _ :: ls, _ :: cs => pubL' ls cs
  | _ :: ls, .own i :: cs => i :: pubL' ls cs
  | _ :: ls, _ :: cs => pubL' ls cs
  | _, _ => []
def pubI : List Item → St → List Nat
  | [], _ => []
  | .slot d _ ls :: is, st => (match st.fr[d]? with
    | some x => match resV st x with
      | .agg cs => pubL' ls cs
      | .one c => pubL' ls [c]
      | _ => []
    | none => []) ++ pubI is st
  | .box i _ ls :: is, st => (match getW st i with
    | some (.box _ cs) => pubL' ls (cs.map (res1 st))
    | _ => []) ++ pubI is st
  | .arr _ _ :: is, st => pubI is st
  | .rowc _ _ :: is, st => pubI is st
/- what an invariant speaks of: public memory; and the open rows, where that is asked for -/
def HP (o : Bool) : Type := match o with
  | true => Heap → OMap → Prop
  | false => Heap → Prop
def apH (o : Bool) (p : HP o) (H : Heap) (O : OMap) : Prop := match o, p with
  | true, p => p H O
  | false, p => p H
def allO (o : Bool) (K : OMap → Prop) : Prop := match o with
  | true => ∀ O, K O
  | false => K noO
/- the end of a round -/
def vcEnd (o : Bool) (is : List Item) (p : PostI is (HP o × Nat)) (m : Nat) (st : St) : Prop :=
  vcPubs (fun st => match colI is p st with
    | some (x, _) => apH o x.1 st.H st.O ∧ ltN x.2 m
    | none => False) (pubI is st) st
/- regions that draw their order -/
/- the object that a store writes -/
def stTgt (st : St) : Op → Option Nat
  | .store _ x _ => match ev st x with
    | some (.one (.loc o _)) => some o
    | some (.one (.aelt o _)) => some o
    | _ => none
  | _ => none
def killL (W : List Nat) : Nat → List (Option Ent) → List (Option Ent)
  | _, [] => []
  | i, none :: L => none :: killL W (i + 1) L
  | i, some (f, o) :: L => (match o with
    | .row _ _ _ => some (false, .dead)
    | o => if W.contains i then some (false, .dead) else some (f, o)) :: killL W (i + 1) L
/- the state without rows and without the objects W -/
def noRows (W : List Nat) (st : St) : St := { st with L := killL W 0 st.L }
/- the operand that an address computed in the region starts from -/
def rootOf (l : List Oper) : Nat → Operand → Operand
  | 0, x => x
  | n + 1, x => match x with
    | .tmp t => match l.find? (fun o => o.dst == some t) with
      | some o => match o.op with
        | .fieldAddr _ y _ => rootOf l n y
        | .indexAddr _ y _ => rootOf l n y
        | .move y => rootOf l n y
        | .assign y => rootOf l n y
        | .nilCheck y => rootOf l n y
        | _ => x
      | none => x
    | x => x
def waits (o : Oper) (i : Nat) : Bool := o.after.toList.any fun e => e.on == i && Region.binds .any e
def isSt (o : Oper) : Bool := match o.op with
  | .store _ _ _ => true
  | _ => false
def waitsAll (o : Oper) : List Oper → Nat → Bool
  | [], _ => true
  | x :: l, i => (isSt x || waits o i) && waitsAll o l (i + 1)
/- every store waits for all that is no store -/
def allLate (l : List Oper) : List Oper → Bool
  | [] => true
  | o :: os => (!isSt o || waitsAll o l 0) && allLate l os
def late (l : List Oper) (o : Oper) : Bool := match isSt o with
  | true => allLate l l
  | false => false
def madeIn (l : List Oper) (t : Nat) : Bool :=
  match l.find? (fun o => o.dst == some t) with
  | some o => match o.op with
    | .alloc _ => true
    | .box _ _ => true
    | _ => false
  | none => false
def tgtsOf (l : List Oper) (st : St) : List Oper → List Nat
  | [] => []
  | o :: os => match o.op with
    | .store _ x _ => match late l o with
     | true => tgtsOf l st os
     | false => match rootOf l 5 x with
      | .tmp t => match madeIn l t with
        | true => t :: tgtsOf l st os
        | false => match ev st (.tmp t) with
          | some (.one (.loc o _)) => o :: tgtsOf l st os
          | some (.one (.aelt o _)) => o :: tgtsOf l st os
          | _ => tgtsOf l st os
      | _ => tgtsOf l st os
    | _ => tgtsOf l st os
/- a store writes what it is laid down that it may write -/
def stOK (W : List Nat) (st : St) (op : Op) : Bool := match stTgt st op with
  | some o => W.contains o
  | none => true
def vcTake (Γ : Tab) (W : List Nat) (l : List Oper) (st : St) (o : Oper) (K : St → Prop) : Prop :=
  match o.guard with
  | none => vcRd Γ (noRows W st) o.op fun r => K (setS st o.dst r)
  | some (j, want) => match dstOf l j with
    | none => False
    | some d => match st.fr[d]? with
      | some (.one .tt) => match want with
        | true => vcRd Γ (noRows W st) o.op fun r => K (setS st o.dst r)
        | false => K (setS st o.dst (.one .un))
      | some (.one .ff) => match want with
        | false => vcRd Γ (noRows W st) o.op fun r => K (setS st o.dst r)
        | true => K (setS st o.dst (.one .un))
      | some (.one .un) => K (setS st o.dst (.one .un))
      | _ => False
def forkIf (l : List Oper) (i : Nat) (st : St) (K : St → Prop) : Prop :=
  match guards l i with
  | true => vcFork l i st K
  | false => K st
def readyIs (ops : Array Oper) (listed : Array Bool) (j : Nat) : Bool :=
  !listed.getD j true && match ops[j]? with
  | some o => o.after.toList.all fun e => !Region.binds .any e || listed.getD e.on false
  | none => false
def rdAt (ops : Array Oper) (j : Nat) : Bool := match ops[j]? with
  | some o => isRd o.op
  | none => false
/- the order fits the region: it does not depend on any state -/
def schOK (ops : Array Oper) : Bool → Nat → Array Bool → Sch → Bool
  | _, _, listed, .done => (Region.ready .any ops listed).isEmpty
  | b, _, _, .fin => b
  | _, 0, _, .take _ _ => false
  | _, n + 1, listed, .take j r => match readyIs ops listed j && rdAt ops j && Region.free .any ops listed j with
    | true => schOK ops false n (listed.setIfInBounds j true) r
    | false => false
  | _, 0, _, .alt _ _ _ => false
  | b, n + 1, listed, .alt j r rest => match (b || Region.ready .any ops listed == j :: rest.ids) && schOK ops false n (listed.setIfInBounds j true) r with
    | true => schOK ops true (n + 1) listed rest
    | false => false
def vcSch (P : Program) (Γ : Tab) (an : Ann) (ops : Array Oper) (W : List Nat) (K : St → Prop) : Sch → St → Prop
  | .done, st => K st
  | .fin, _ => True
  | .take j r, st => match ops[j]? with
    | some o => vcTake Γ W ops.toList st o fun st' => forkIf ops.toList j st' fun st'' => vcSch P Γ an ops W K r st''
    | none => False
  | .alt j r rest, st => match rest with
    | .alt j' r' rest' => (match ops[j]? with
      | some o => match late ops.toList o || stOK W st o.op with
        | true => vcOne P Γ an ops.toList st o fun st' => forkIf ops.toList j st' fun st'' => vcSch P Γ an ops W K r st''
        | false => False
      | none => False) ∧ vcSch P Γ an ops W K (.alt j' r' rest') st
    | _ => match ops[j]? with
      | some o => match late ops.toList o || stOK W st o.op with
        | true => vcOne P Γ an ops.toList st o fun st' => forkIf ops.toList j st' fun st'' => vcSch P Γ an ops W K r st''
        | false => False
      | none => False
def upto : Nat → Nat → List Nat
  | 0, _ => []
  | n + 1, i => i :: upto n (i + 1)

def vcC (P : Program) (Γ : Tab) (an : Ann) : Code → (Exit → St → Prop) → St → Prop
  | .skip, K, st => K .normal st
  | .label _, K, st => K .normal st
  | .region id ops draw, K, st => match draw with
    | false => vcItems P Γ an ops.toList (K .normal) (itemsOf ops.toList (upto ops.toList.length 0)) st
    | true => match Region.noSelect ops with
      | true => match schOK ops false ops.size (Array.replicate ops.size false) (an.sch id) with
        | true => vcSch P Γ an ops (tgtsOf ops.toList st ops.toList) (K .normal) (an.sch id) st
        | false => False
      | false => False
  | .seq a b, K, st => vcC P Γ an a (fun e st' => match e with
      | .normal => vcC P Γ an b K st'
      | e => K e st') st
  | .cond c a b, K, st => match ev st c with
    | some (.one .tt) => vcC P Γ an a K st
    | some (.one .ff) => vcC P Γ an b K st
    | some (.one (.b x)) => (x = true → vcC P Γ an a K st) ∧ (x = false → vcC P Γ an b K st)
    | some (.one (.v (.bool x))) => (x = true → vcC P Γ an a K st) ∧ (x = false → vcC P Γ an b K st)
    | _ => False
  | .block id c, K, st => vcC P Γ an c (fun e st' => match e with
      | .exit id' => if id' = id then K .normal st' else K (.exit id') st'
      | e => K e st') st
  | .loop c, K, st => ∃ (inv : PostI (an.lt (firstReg c)) (HP an.opn)) (μ : PostI (an.lt (firstReg c)) Nat),
      vcPubs (fun st => if allFree st (itemIds (an.lt (firstReg c)) ++ idsOf an c) then
        match colI (an.lt (firstReg c)) (zipI (an.lt (firstReg c)) inv μ) st with
        | some (x, st2) => apH an.opn x.1 st.H st.O ∧
          ∀ H', Heap.le st.H H' → allO an.opn fun O' => allI (an.lt (firstReg c)) (zipI (an.lt (firstReg c)) inv μ) (headSt an c (an.lt (firstReg c)) st2 H' O') fun st1 y => apH an.opn y.1 H' O' →
            vcC P Γ an c (fun e st' => match e with
              | .normal => vcEnd an.opn (an.lt (firstReg c)) (zipI (an.lt (firstReg c)) inv μ) y.2 st'
              | e => K e { st' with L := unlock st2.L st'.L }) st1
        | none => False
        else False) (pubI (an.lt (firstReg c)) st) st
  | .exit id, K, st => K (.exit id) st
  | .ret, K, st => K .ret st
  | _, _, _ => False

/- the results at the end of a body -/
def retOne (Γ : Tab) (st : St) : ResultVar → Option SV
  | .tmp t => match st.fr[t]? with
    | some x => some (resV st x)
    | none => none
  | .cell a t => match st.fr[a]? with
    | some (.one (.loc o 0)) => match getL st o with
      | some (.box _ cs) => match Γ t with
        | some i => if cs.length = i.size then mkSV i.agg (cs.map (res1 st)) else none
        | none => none
      | _ => none
    | _ => none
def retAll (Γ : Tab) (st : St) : List ResultVar → Option (List SV)
  | [] => some []
  | r :: rs => match retOne Γ st r with
    | some x => match retAll Γ st rs with
      | some xs => some (x :: xs)
      | none => none
    | none => none
/- which rows of the results have to be made public: those that the shape does not hand on as rows -/
def pubL : List Leaf → List S1 → List Nat
  | .row _ _ :: ls, _ :: cs => pubL ls cs
  | _ :: ls, .own i :: cs => i :: pubL ls cs
  | _ :: ls, _ :: cs => pubL ls cs
  | _, _ => []
def pubR : List (Bool × List Leaf) → List SV → List Nat
  | (_, ls) :: ps, x :: xs => (match x.cells with
    | some cs => pubL ls cs
    | none => []) ++ pubR ps xs
  | _, _ => []
def vcRet (Γ : Tab) (rs : List ResultVar) (sh : RSh) (post : PostR sh.parts (Heap → Prop)) (st : St) : Prop :=
  if sh.tup = (rs.length != 1) then match retAll Γ st rs with
  | none => False
  | some xs => vcPubs (fun st => match retAll Γ st rs with
    | none => False
    | some xs => match colR sh.parts post xs st with
      | some (q, _) => q st.H
      | none => False) (pubR sh.parts xs) st
  else False
def retK (Γ : Tab) (rs : List ResultVar) (sh : RSh) (post : PostR sh.parts (Heap → Prop)) (e : Exit) (st : St) : Prop :=
  match e with
  | .normal => vcRet Γ rs sh post st
  | .ret => vcRet Γ rs sh post st
  | _ => False
def ofArg : Value → SV
  | .agg cs => .agg (cs.toList.map S1.v)
  | .pointer (some ⟨b, o, none⟩) => .one (.elt (some ⟨b, o, none⟩) 0)
  | x => .one (.v x)
def st0 (args : List Value) (n extra : Nat) (H : Heap) : St :=
  { fr := args.map ofArg ++ List.replicate (n - args.length) (.one .un), L := List.replicate (n + extra) none, H := H, O := noO }
def vcFn (P : Program) (Γ : Tab) (an : Ann) (fn : Func) (args : List Value) (extra : Nat) (H : Heap) (sh : RSh) (post : PostR sh.parts (Heap → Prop)) : Prop :=
  match fn.body with
  | none => False
  | some c => vcC P Γ an c (retK Γ fn.results.toList sh post) (st0 args fn.ntmps extra H)

/- a function that is handed a row of the caller's own at place k, and gives it up -/
def st0M (args : List Value) (k n extra : Nat) (e : TypeId) (m : Nat) (xs : List Value) (H : Heap) : St :=
  { fr := (args.map ofArg).set k (.one (.own (n + extra))) ++ List.replicate (n - args.length) (.one .un), L := List.replicate (n + extra) none ++ [some (true, .row e m xs)], H := H, O := noO }
def vcFnM (P : Program) (Γ : Tab) (an : Ann) (fn : Func) (args : List Value) (k : Nat) (e : TypeId) (m : Nat) (xs : List Value) (extra : Nat) (H : Heap) (sh : RSh) (post : PostR sh.parts (Heap → Prop)) : Prop :=
  match fn.body with
  | none => False
  | some c => vcC P Γ an c (retK Γ fn.results.toList sh post) (st0M args k fn.ntmps extra e m xs H)
/- a function that is handed a row of the caller's own at place k, and hands it back; no results -/
def st0K (args : List Value) (k n extra : Nat) (s : Value) (e : TypeId) (m : Nat) (xs : List Value) (H : Heap) : St :=
  { fr := (args.map ofArg).set k (.one (.pin (n + extra) s)) ++ List.replicate (n - args.length) (.one .un), L := List.replicate (n + extra) none ++ [some (true, .row e m xs)], H := H, O := noO }
def eqV (a b : Value) : Prop := a = b
def eqN (a b : Nat) : Prop := a = b
def retKK (rs : List ResultVar) (k i : Nat) (s : Value) (e : TypeId) (m : Nat) (post : List Value → Heap → Prop) (st : St) : Prop :=
  match rs with
  | _ :: _ => False
  | [] => match st.fr[k]? with
    | some (.one (.pin i' s')) => if i' = i then match getL st i with
      | some (.row e' n ys) => if e' = e then eqV s' s ∧ eqN n m ∧ post ys st.H else False
      | _ => False
      else False
    | _ => False
def retKE (rs : List ResultVar) (k i : Nat) (s : Value) (e : TypeId) (m : Nat) (post : List Value → Heap → Prop) (ex : Exit) (st : St) : Prop :=
  match ex with
  | .normal => retKK rs k i s e m post st
  | .ret => retKK rs k i s e m post st
  | _ => False
def vcFnK (P : Program) (Γ : Tab) (an : Ann) (fn : Func) (args : List Value) (k : Nat) (e : TypeId) (m : Nat) (xs : List Value) (extra : Nat) (H : Heap) (post : List Value → Heap → Prop) : Prop :=
  match fn.body with
  | none => False
  | some c => ∀ s, vcC P Γ an c (retKE fn.results.toList k (fn.ntmps + extra) s e m post) (st0K args k fn.ntmps extra s e m xs H)
end Go.Vc
/- How data of plain Lean types lie in cells: public slices, rows of the call's own. -/
namespace Go.Vc
open Go

theorem hle_refl (H : Heap) : Heap.le H H := fun _ _ _ h => h
theorem hle_trans {A B C : Heap} (h : Heap.le A B) (k : Heap.le B C) : Heap.le A C := fun _ _ _ x => k _ _ _ (h _ _ _ x)
theorem Cells.mono {H H' : Heap} {A : Option Addr} {j : Nat} {cs : List Value} (hle : Heap.le H H') (h : Cells H A j cs) : Cells H' A j cs := by
  rcases h with h | ⟨b, o, h1, h2⟩
  · exact .inl h
  · exact .inr ⟨b, o, h1, fun t v hv => ⟨hle _ _ _ (h2 t v hv).1, (h2 t v hv).2⟩⟩
/- a part of cells -/
theorem Cells.part {H : Heap} {A : Option Addr} {j : Nat} {xs ys zs : List Value} (h : Cells H A j (xs ++ ys ++ zs)) : Cells H A (j + xs.length) ys := by
  rcases h with h | ⟨b, o, h1, h2⟩
  · left; simp at h; exact h.2.1
  · refine .inr ⟨b, o, h1, fun t v hv => ?_⟩
    have := h2 (xs.length + t) v (by rw [List.append_assoc, List.getElem?_append_right (by omega)]; simp; rw [List.getElem?_append_left (by have := (List.getElem?_eq_some_iff.1 hv).1; exact this)]; exact hv)
    rw [show o + (j + xs.length) + t = o + j + (xs.length + t) by omega]; exact this
theorem Cells.someA {H : Heap} {A : Option Addr} {j : Nat} {xs : List Value} (h : Cells H A j xs) (hx : xs ≠ []) : someA A := by
  rcases h with h | ⟨b, o, h1, _⟩
  · exact (hx h).elim
  · exact ⟨b, o, h1⟩
theorem Cells.shift {H : Heap} {A : Option Addr} {j k : Nat} {xs : List Value} (h : Cells H A (j + k) xs) : Cells H (A.map (·.add k)) j xs := by
  rcases h with h | ⟨b, o, rfl, h2⟩
  · exact .inl h
  · refine .inr ⟨b, o + k, by simp [Addr.add], fun t v hv => ?_⟩
    have := h2 t v hv
    rw [show o + k + j + t = o + (j + k) + t by omega]; exact this

/- a type whose values lie in 'sz' cells (and 'by' bytes) -/
class Rep (T : Type) where
  sz : Nat
  byt : Nat
  rel : Heap → List Value → T → Prop
  mono : ∀ {H H' : Heap} {vs : List Value} {t : T}, Heap.le H H' → rel H vs t → rel H' vs t
  len : ∀ {H : Heap} {vs : List Value} {t : T}, rel H vs t → vs.length = sz
  pos : 0 < sz
  bpos : 0 < byt
  one : ∀ {H : Heap} {vs : List Value} {t : T}, rel H vs t → ∀ v ∈ vs, v.oneCell' = true

section
variable {T : Type} [Rep T]
/- a public slice -/
structure Sl (H : Heap) (A : Option Addr) (n c : Nat) (l : List T) : Prop where
  len : l.length = n
  cap : n ≤ c
  bnd : n * Rep.byt T ≤ 140737488355328
  bn : n ≤ 140737488355328
  get : ∀ i (h : i < l.length), ∃ vs, Cells H A (i * Rep.sz T) vs ∧ Rep.rel H vs l[i]
theorem Sl.mono {H H' : Heap} {A : Option Addr} {n c : Nat} {l : List T} (hle : Heap.le H H') (h : Sl H A n c l) : Sl H' A n c l :=
  ⟨h.len, h.cap, h.bnd, h.bn, fun i hi => let ⟨vs, h1, h2⟩ := h.get i hi; ⟨vs, h1.mono hle, Rep.mono hle h2⟩⟩
theorem Sl.nil {H : Heap} {A : Option Addr} {c : Nat} : Sl (T := T) H A 0 c [] := ⟨rfl, Nat.zero_le _, by simp, by simp, fun i h => by simp at h⟩
theorem Sl.someA {H : Heap} {A : Option Addr} {n c : Nat} {l : List T} (h : Sl H A n c l) (hn : 0 < n) : someA A := by
  obtain ⟨vs, h1, h2⟩ := h.get 0 (by have := h.len; omega)
  exact h1.someA (fun e => by have := Rep.len h2; have := Rep.pos (T := T); rw [e] at *; simp at *; omega)
/- reading at an Int index in a grown heap -/
theorem Sl.at {H H' : Heap} {A : Option Addr} {n c : Nat} {l : List T} (h : Sl H A n c l) (hle : Heap.le H H') {i : Int} (h0 : 0 ≤ i) (h1 : i < n) :
    ∃ (hi : i.toNat < l.length), Vc.someA A ∧ ∃ vs, Cells H' A (i.toNat * Rep.sz T) vs ∧ Rep.rel H' vs l[i.toNat] := by
  have hi : i.toNat < l.length := by have := h.len; omega
  obtain ⟨vs, k1, k2⟩ := h.get _ hi
  exact ⟨hi, h.someA (by omega), vs, k1.mono hle, Rep.mono hle k2⟩

/- cells of a row -/
def Row (H : Heap) : List Value → List T → Prop
  | xs, [] => xs = []
  | xs, t :: l => ∃ vs ys, xs = vs ++ ys ∧ Rep.rel H vs t ∧ Row H ys l
theorem Row.mono {H H' : Heap} (hle : Heap.le H H') : ∀ {xs : List Value} {l : List T}, Row H xs l → Row H' xs l
  | _, [], h => h
  | _, _ :: _, ⟨vs, ys, h1, h2, h3⟩ => ⟨vs, ys, h1, Rep.mono hle h2, h3.mono hle⟩
theorem Row.length {H : Heap} : ∀ {xs : List Value} {l : List T}, Row H xs l → xs.length = l.length * Rep.sz T
  | _, [], h => by simp [show _ = [] from h]
  | _, _ :: l, ⟨vs, ys, h1, h2, h3⟩ => by rw [h1, List.length_append, h3.length, Rep.len h2, List.length_cons, Nat.succ_mul]; omega
theorem Row.append {H : Heap} : ∀ {xs ys : List Value} {l m : List T}, Row H xs l → Row H ys m → Row H (xs ++ ys) (l ++ m)
  | _, _, [], _, h, k => by rw [show _ = [] from h]; exact k
  | _, ys, _ :: _, m, ⟨vs, zs, h1, h2, h3⟩, k => ⟨vs, zs ++ ys, by rw [h1, List.append_assoc], h2, h3.append k⟩
theorem Row.one {H : Heap} {vs : List Value} {t : T} (h : Rep.rel H vs t) : Row H vs [t] := ⟨vs, [], by simp, h, rfl⟩
theorem Row.parts {H : Heap} : ∀ {xs : List Value} {l : List T} {i : Nat}, Row H xs l → (h : i < l.length) → ∃ as vs bs, xs = as ++ vs ++ bs ∧ as.length = i * Rep.sz T ∧ Rep.rel H vs l[i] ∧
    (∀ {us : List Value} {t : T}, Rep.rel H us t → Row H (as ++ us ++ bs) (l.set i t))
  | _, t :: l, 0, ⟨vs, ys, h1, h2, h3⟩, _ => ⟨[], vs, ys, by simpa using h1, by simp, h2, fun {us t} k => by simpa using (Row.one k).append h3⟩
  | _, t :: l, i + 1, ⟨vs, ys, h1, h2, h3⟩, h => by
    obtain ⟨as, us, bs, k1, k2, k3, k4⟩ := h3.parts (i := i) (by simpa using h)
    refine ⟨vs ++ as, us, bs, by rw [h1, k1]; simp, by rw [List.length_append, k2, Rep.len h2, Nat.succ_mul]; omega, by simpa using k3, fun {ws t'} k => ?_⟩
    have := k4 k
    simp only [List.set_cons_succ, List.append_assoc]
    refine ⟨vs, _, by simp; rfl, h2, ?_⟩
    simpa using this
theorem Row.getw {H : Heap} {xs : List Value} {l : List T} {i : Nat} (h : Row H xs l) (hi : i < l.length) : Rep.rel H (win xs (i * Rep.sz T) (Rep.sz T)) l[i] := by
  obtain ⟨as, vs, bs, h1, h2, h3, _⟩ := h.parts hi
  have : win xs (i * Rep.sz T) (Rep.sz T) = vs := by
    unfold Vc.win; rw [h1, ← h2, List.append_assoc, List.drop_left, ← Rep.len h3, List.take_left]
  rw [this]; exact h3
theorem Row.setw {H : Heap} {xs : List Value} {l : List T} {i : Nat} (h : Row H xs l) (hi : i < l.length) {us : List Value} {t : T} (hu : Rep.rel H us t) : Row H (splice xs (i * Rep.sz T) us) (l.set i t) := by
  obtain ⟨as, vs, bs, h1, h2, h3, h4⟩ := h.parts hi
  have : splice xs (i * Rep.sz T) us = as ++ us ++ bs := by
    have e : us.length = vs.length := (Rep.len hu).trans (Rep.len h3).symm
    unfold Vc.splice; rw [h1, ← h2, e, ← List.drop_drop, List.append_assoc as vs bs, List.take_left, List.drop_left, List.drop_left]
  rw [this]; exact h4 hu
theorem Row.getf {H : Heap} {xs : List Value} {l : List T} {i : Nat} (h : Row H xs l) (hi : i < l.length) : ∃ vs, Rep.rel H vs l[i] ∧ (∀ k m, k + m ≤ Rep.sz T → Vc.win xs (i * Rep.sz T + k) m = (vs.drop k).take m) ∧
    (∀ k us t, k + us.length ≤ Rep.sz T → Rep.rel H (vs.take k ++ us ++ vs.drop (k + us.length)) t → Row H (Vc.splice xs (i * Rep.sz T + k) us) (l.set i t)) := by
  obtain ⟨as, vs, bs, h1, h2, h3, h4⟩ := h.parts hi
  have hl := Rep.len h3
  refine ⟨vs, h3, fun k m hk => ?_, fun k us t hk hr => ?_⟩
  · unfold Vc.win
    rw [h1, ← h2, List.append_assoc, ← List.drop_drop, List.drop_left, List.drop_append_of_le_length (by omega), List.take_append_of_le_length (by simp; omega)]
  · have : Vc.splice xs (i * Rep.sz T + k) us = as ++ (vs.take k ++ us ++ vs.drop (k + us.length)) ++ bs := by
      unfold Vc.splice
      rw [h1, ← h2, List.append_assoc as vs bs, List.take_append, List.take_of_length_le (by omega), Nat.add_sub_cancel_left, List.take_append_of_le_length (by omega), Nat.add_assoc, ← List.drop_drop, List.drop_left,
        List.drop_append_of_le_length (by omega)]
      simp [List.append_assoc]
    rw [this]; exact h4 hr
theorem Row.zeros {H : Heap} {z : List Value} {t : T} (hz : Rep.rel H z t) : ∀ n, Row H (Vc.repl z n) (List.replicate n t)
  | 0 => rfl
  | n + 1 => ⟨z, Vc.repl z n, rfl, hz, Row.zeros hz n⟩
/- a row that is made public -/
theorem Row.sl {H H' : Heap} {A : Option Addr} {n c : Nat} {xs : List Value} {l : List T} (h : Row H xs l) (hle : Heap.le H H') (hc : Cells H' A 0 xs) (hl : l.length = n) (hn : n ≤ c)
    (hb : n * Rep.byt T ≤ 140737488355328) (hb2 : n ≤ 140737488355328) : Sl H' A n c l := by
  refine ⟨hl, hn, hb, hb2, fun i hi => ?_⟩
  obtain ⟨as, vs, bs, h1, h2, h3, _⟩ := h.parts hi
  rw [h1] at hc
  have := hc.part
  rw [h2, Nat.zero_add] at this
  exact ⟨vs, this, Rep.mono hle h3⟩
/- the cells of a public slice, all of them -/
theorem Sl.row {H : Heap} {A : Option Addr} {n c : Nat} {l : List T} (h : Sl H A n c l) : ∃ ys, Cells H A 0 ys ∧ Row H ys l := by
  have key : ∀ (k : Nat) (m : List T), (∀ i (hi : i < m.length), ∃ vs, Cells H A (k + i * Rep.sz T) vs ∧ Rep.rel H vs m[i]) → ∃ ys, Cells H A k ys ∧ Row H ys m := by
    intro k m
    induction m generalizing k with
    | nil => exact fun _ => ⟨[], .inl rfl, rfl⟩
    | cons t m ih =>
      intro hm
      obtain ⟨vs, h1, h2⟩ := hm 0 (by simp)
      obtain ⟨ys, h3, h4⟩ := ih (k + Rep.sz T) (fun i hi => by
        obtain ⟨vs, a, b⟩ := hm (i + 1) (by simpa using hi)
        exact ⟨vs, by rw [Nat.succ_mul] at a; rw [show k + Rep.sz T + i * Rep.sz T = k + (i * Rep.sz T + Rep.sz T) by omega]; exact a, by simpa using b⟩)
      refine ⟨vs ++ ys, ?_, vs, ys, rfl, h2, h4⟩
      have hlen := Rep.len h2
      rcases h1 with rfl | ⟨b, o, e1, e2⟩
      · have := Rep.pos (T := T); simp at hlen; omega
      · refine .inr ⟨b, o, e1, fun t v hv => ?_⟩
        by_cases ht : t < vs.length
        · rw [List.getElem?_append_left ht] at hv
          have := e2 t v hv
          simpa using this
        · rw [List.getElem?_append_right (by omega)] at hv
          rcases h3 with rfl | ⟨b', o', e1', e2'⟩
          · simp at hv
          · rw [e1] at e1'; cases e1'
            have := e2' _ _ hv
            rw [show o + k + t = o + (k + Rep.sz T) + (t - vs.length) by omega]; exact this
  exact key 0 l (fun i hi => by simpa using h.get i hi)
theorem Sl.drop {H : Heap} {A : Option Addr} {n c : Nat} {l : List T} (h : Sl H A n c l) {k : Nat} (hk : k ≤ n) : Sl H (subA A c k (Rep.sz T)) (n - k) (c - k) (l.drop k) := by
  refine ⟨by simp [h.len], by have := h.cap; omega, Nat.le_trans (Nat.mul_le_mul_right _ (Nat.sub_le _ _)) h.bnd, by have := h.bn; omega, fun i hi => ?_⟩
  simp at hi
  obtain ⟨vs, h1, h2⟩ := h.get (k + i) (by omega)
  refine ⟨vs, ?_, by simpa using h2⟩
  unfold subA
  split
  · have := h.cap; have := h.len; omega
  · rw [show (k + i) * Rep.sz T = i * Rep.sz T + k * Rep.sz T by rw [Nat.add_mul]; omega] at h1
    exact h1.shift
theorem Sl.take {H : Heap} {A : Option Addr} {n c : Nat} {l : List T} (h : Sl H A n c l) {k : Nat} (hk : k ≤ n) : Sl H A k c (l.take k) := by
  refine ⟨by simp [h.len]; omega, by have := h.cap; omega, Nat.le_trans (Nat.mul_le_mul_right _ hk) h.bnd, by have := h.bn; omega, fun i hi => ?_⟩
  obtain ⟨vs, h1, h2⟩ := h.get i (by simp at hi; omega)
  exact ⟨vs, h1, by simpa using h2⟩
theorem Sl.sub {H : Heap} {A : Option Addr} {n c : Nat} {l : List T} (h : Sl H A n c l) {j k : Nat} (hj : j ≤ k) (hk : k ≤ n) : Sl H (subA A c j (Rep.sz T)) (k - j) (c - j) ((l.take k).drop j) :=
  (h.take hk).drop hj
end


theorem Cells.at1 {H : Heap} {A : Option Addr} {j k : Nat} {cs : List Value} {v : Value} (h : Cells H A j cs) (hv : cs[k]? = some v) : Cells H A (j + k) [v] := by
  obtain ⟨hk, e⟩ := List.getElem?_eq_some_iff.1 hv
  have : cs = cs.take k ++ [v] ++ cs.drop (k + 1) := by
    rw [← e, List.append_assoc]; simp
  rw [this] at h
  have := h.part
  rwa [List.length_take, Nat.min_eq_left (by omega)] at this
theorem Cells.at2 {H : Heap} {A : Option Addr} {j k : Nat} {cs : List Value} {u v : Value} (h : Cells H A j cs) (hu : cs[k]? = some u) (hv : cs[k + 1]? = some v) : Cells H A (j + k) [u, v] := by
  obtain ⟨hk, e⟩ := List.getElem?_eq_some_iff.1 hu
  obtain ⟨hk', e'⟩ := List.getElem?_eq_some_iff.1 hv
  have : cs = cs.take k ++ [u, v] ++ cs.drop (k + 2) := by
    rw [← e, ← e', List.append_assoc]; simp
  rw [this] at h
  have := h.part
  rwa [List.length_take, Nat.min_eq_left (by omega)] at this
theorem drop_at {T : Type} {l : List T} {i : Int} (h0 : 0 ≤ i) (hi : i.toNat < l.length) : l.drop i.toNat = l[i.toNat] :: l.drop (i + 1).toNat := by
  rw [List.drop_eq_getElem_cons hi]; congr 1; congr 1; omega
theorem drop_end {T : Type} {l : List T} {i : Int} {n : Nat} (h : ¬ i < n) (hl : l.length = n) : l.drop i.toNat = [] := List.drop_eq_nil_of_le (by omega)
abbrev shB : RSh := ⟨false, [(false, [.bool])]⟩
abbrev shI : RSh := ⟨false, [(false, [.int .i64])]⟩
abbrev shS : RSh := ⟨false, [(false, [.sl])]⟩
instance : Rep Int where
  sz := 1
  byt := 8
  rel _ vs n := vs = [.int .i64 n] ∧ rng .i64 n
  mono _ h := h
  len h := by simp [h.1]
  pos := by decide
  bpos := by decide
  one h := by rw [h.1]; simp [Value.oneCell']
instance : Rep Bool where
  sz := 1
  byt := 1
  rel _ vs n := vs = [.bool n]
  mono _ h := h
  len h := by simp [h]
  pos := by decide
  bpos := by decide
  one h := by rw [h]; simp [Value.oneCell']
instance : Rep ByteArray where
  sz := 1
  byt := 16
  rel _ vs s := vs = [.string s] ∧ s.size ≤ 140737488355328
  mono _ h := h
  len h := by simp [h.1]
  pos := by decide
  bpos := by decide
  one h := by rw [h.1]; simp [Value.oneCell']
instance {T : Type} [Rep T] : Rep (List T) where
  sz := 1
  byt := 24
  rel H vs l := ∃ A n c, vs = [.slice A n c] ∧ Sl H A n c l
  mono := fun hle ⟨A, n, c, h1, h2⟩ => ⟨A, n, c, h1, h2.mono hle⟩
  len := fun ⟨A, n, c, h1, h2⟩ => by simp [h1]
  pos := by decide
  bpos := by decide
  one := fun ⟨A, n, c, h1, h2⟩ => by rw [h1]; simp [Value.oneCell']
end Go.Vc
/- The program's data as plain Lean data, and how they lie in cells. -/
namespace Go.Vc
open Go
structure Per where
  lo : Int
  hi : Int
deriving DecidableEq
structure Val where
  kind : Int
  n : Int
  s : ByteArray
deriving DecidableEq
structure Col where
  id : Int
  name : ByteArray
  kind : Int
deriving DecidableEq
structure Ver where
  rc : Per
  cols : List Col
deriving DecidableEq
structure FKey where
  cols : List Int
  table : ByteArray
  refs : List Int
deriving DecidableEq
structure Cst where
  kind : Int
  cols : List Int
deriving DecidableEq
structure TSch where
  name : ByteArray
  vers : List Ver
  key : List Int
  fks : List FKey
  csts : List Cst
deriving DecidableEq

def str (s : ByteArray) : Prop := s.size ≤ 140737488355328
instance : Rep Per where
  sz := 2
  byt := 16
  rel _ vs p := vs = [.int .i64 p.lo, .int .i64 p.hi] ∧ rng .i64 p.lo ∧ rng .i64 p.hi
  mono _ h := h
  len h := by simp [h.1]
  pos := by decide
  bpos := by decide
  one h := by rw [h.1]; simp [Value.oneCell']
instance : Rep Val where
  sz := 3
  byt := 32
  rel _ vs v := vs = [.int .i64 v.kind, .int .i64 v.n, .string v.s] ∧ rng .i64 v.kind ∧ rng .i64 v.n ∧ str v.s
  mono _ h := h
  len h := by simp [h.1]
  pos := by decide
  bpos := by decide
  one h := by rw [h.1]; simp [Value.oneCell']
instance : Rep Col where
  sz := 3
  byt := 32
  rel _ vs v := vs = [.int .i64 v.id, .string v.name, .int .i64 v.kind] ∧ rng .i64 v.id ∧ str v.name ∧ rng .i64 v.kind
  mono _ h := h
  len h := by simp [h.1]
  pos := by decide
  bpos := by decide
  one h := by rw [h.1]; simp [Value.oneCell']
instance : Rep Ver where
  sz := 3
  byt := 40
  rel H vs v := ∃ A n c, vs = [.int .i64 v.rc.lo, .int .i64 v.rc.hi, .slice A n c] ∧ rng .i64 v.rc.lo ∧ rng .i64 v.rc.hi ∧ Sl H A n c v.cols
  mono := fun hle ⟨A, n, c, h1, h2, h3, h4⟩ => ⟨A, n, c, h1, h2, h3, h4.mono hle⟩
  len := fun ⟨A, n, c, h1, _⟩ => by simp [h1]
  pos := by decide
  bpos := by decide
  one := fun ⟨A, n, c, h1, _⟩ => by rw [h1]; simp [Value.oneCell']
instance : Rep FKey where
  sz := 3
  byt := 64
  rel H vs v := ∃ A n c B m d, vs = [.slice A n c, .string v.table, .slice B m d] ∧ Sl H A n c v.cols ∧ str v.table ∧ Sl H B m d v.refs
  mono := fun hle ⟨A, n, c, B, m, d, h1, h2, h3, h4⟩ => ⟨A, n, c, B, m, d, h1, h2.mono hle, h3, h4.mono hle⟩
  len := fun ⟨A, n, c, B, m, d, h1, _⟩ => by simp [h1]
  pos := by decide
  bpos := by decide
  one := fun ⟨A, n, c, B, m, d, h1, _⟩ => by rw [h1]; simp [Value.oneCell']
instance : Rep Cst where
  sz := 2
  byt := 32
  rel H vs v := ∃ A n c, vs = [.int .i64 v.kind, .slice A n c] ∧ rng .i64 v.kind ∧ Sl H A n c v.cols
  mono := fun hle ⟨A, n, c, h1, h2, h3⟩ => ⟨A, n, c, h1, h2, h3.mono hle⟩
  len := fun ⟨A, n, c, h1, _⟩ => by simp [h1]
  pos := by decide
  bpos := by decide
  one := fun ⟨A, n, c, h1, _⟩ => by rw [h1]; simp [Value.oneCell']
instance : Rep TSch where
  sz := 5
  byt := 112
  rel H vs v := ∃ A n c B m d E k e F l f, vs = [.string v.name, .slice A n c, .slice B m d, .slice E k e, .slice F l f] ∧ str v.name ∧ Sl H A n c v.vers ∧ Sl H B m d v.key ∧ Sl H E k e v.fks ∧ Sl H F l f v.csts
  mono := fun hle ⟨A, n, c, B, m, d, E, k, e, F, l, f, h1, h2, h3, h4, h5, h6⟩ => ⟨A, n, c, B, m, d, E, k, e, F, l, f, h1, h2, h3.mono hle, h4.mono hle, h5.mono hle, h6.mono hle⟩
  len := fun ⟨A, n, c, B, m, d, E, k, e, F, l, f, h1, _⟩ => by simp [h1]
  pos := by decide
  bpos := by decide
  one := fun ⟨A, n, c, B, m, d, E, k, e, F, l, f, h1, _⟩ => by rw [h1]; simp [Value.oneCell']
end Go.Vc
/- What the abstract states say of the machine's. -/
namespace Go.Vc
open Go Go.RowKit

section
variable (ρ : Nat → Nat) (σ : Nat → Value)
def S1.rel : S1 → Value → Prop
  | .any, _ => True
  | .un, y => y = undef
  | .v x, y => y = x
  | .b x, y => y = .bool x
  | .tt, y => y = .bool true
  | .ff, y => y = .bool false
  | .loc i off, y => y = .pointer (some ⟨ρ i, off, none⟩)
  | .aelt i j, y => y = .pointer (some ⟨ρ i, j, none⟩)
  | .elt A j, y => ∃ b o, A = some ⟨b, o, none⟩ ∧ y = .pointer (some ⟨b, o + j, none⟩)
  | .oelt i j, y => ∃ g n c, σ i = .slice (some ⟨g, 0, none⟩) n c ∧ y = .pointer (some ⟨g, j, none⟩)
  | .own i, y => y = σ i
  | .sub i l m sz, y => ∃ A n c, σ i = .slice A n c ∧ l + m ≤ n ∧ y = .slice (subA A c l sz) m (c - l)
  | .pin i s, y => y = σ i ∧ y = s
def relL : List S1 → List Value → Prop
  | [], [] => True
  | c :: cs, y :: ys => c.rel ρ σ y ∧ relL cs ys
  | _, _ => False
def relT : List (Bool × List S1) → List Value → Prop
  | [], [] => True
  | (true, c) :: cs, y :: ys => (∃ zs : Array Value, y = .agg zs ∧ relL ρ σ c zs.toList) ∧ relT cs ys
  | (false, c) :: cs, y :: ys => relL ρ σ c [y] ∧ relT cs ys
  | _, _ => False
def SV.rel : SV → Value → Prop
  | .one x, y => x.rel ρ σ y
  | .agg cs, y => ∃ ys : Array Value, y = .agg ys ∧ relL ρ σ cs ys.toList
  | .clo f cap, y => ∃ ys : Array Value, y = .func (.func f) #[] ys ∧ relL ρ σ cap ys.toList
  | .tup cs, y => ∃ ys : Array Value, y = .tuple ys ∧ relT ρ σ cs ys.toList
end

/- which of the call's own objects a value names -/
def S1.refs (d : Nat) : S1 → Prop
  | .loc i _ => i = d
  | .aelt i _ => i = d
  | .oelt i _ => i = d
  | .own i => i = d
  | .sub i _ _ _ => i = d
  | .pin i _ => i = d
  | _ => False
def refsL (d : Nat) (cs : List S1) : Prop := ∃ c ∈ cs, c.refs d
def SV.refs (d : Nat) : SV → Prop
  | .one x => x.refs d
  | .agg cs => refsL d cs
  | .clo _ cap => refsL d cap
  | .tup cs => ∃ x ∈ cs, refsL d x.2
def LObj.refs (d : Nat) : LObj → Prop
  | .box _ cs => refsL d cs
  | _ => False
structure St.noRef (st : St) (d : Nat) : Prop where
  fr : ∀ (j : Nat) (x : SV), st.fr[j]? = some x → ¬ x.refs d
  obj : ∀ (j : Nat) (f : Bool) (o : LObj), st.L[j]? = some (some (f, o)) → ¬ o.refs d

def ObjOK (P : Program) (w0 : W0) (w : World) (H : Heap) (ρ : Nat → Nat) (σ : Nat → Value) (i : Nat) : LObj → Prop
  | .box t cs => ∃ ys : Array Value, w.heap[ρ i]? = some (.cells ys t (0, 0)) ∧ relL ρ σ cs ys.toList ∧ w0.nw (ρ i) ∧ ∀ o, H (ρ i) o = none
  | .arr t xs => w.heap[ρ i]? = some (.cells ⟨xs⟩ t (0, 0)) ∧ (∀ x ∈ xs, x.oneCell' = true) ∧ w0.nw (ρ i) ∧ ∀ o, H (ρ i) o = none
  | .row e n xs => owns w w0 e (P.cellsOf e) (σ i) n xs ∧ (∀ x ∈ xs, x.oneCell' = true) ∧ ∀ g, (σ i).ownBlock = some g → ∀ o, H g o = none
  | .pub A n c => σ i = .slice A n c
  | .dead => True
def blk (ρ : Nat → Nat) (σ : Nat → Value) (i : Nat) : LObj → Option Nat
  | .box _ _ => some (ρ i)
  | .arr _ _ => some (ρ i)
  | .row _ _ _ => (σ i).ownBlock
  | _ => none

/- a row that is public as far as it is filled -/
def keyW (P : Program) (t : TypeId) (v : Value) : Prop := ∃ k e, P.underlying t = some (.map k e) ∧ ((∃ q a, P.underlying k = some (.int q) ∧ v = .int q a) ∨ ∃ s, P.underlying k = some .string ∧ v = .string s)
def XOb (P : Program) : XO → Obj → Prop
  | .row e n c, ob => ∃ cur, ob = .cells cur e (0, 0) ∧ n ≤ c ∧ c ≤ maxLen ∧ cur.size = c * P.cellsOf e
  | .mp t es, ob => ∃ arr clock, ob = .map arr clock ∧ arr.toList.map (fun e => (e.key, e.val)) = es ∧ ∀ p ∈ es, keyW P t p.1
def XFree (P : Program) : XO → Nat → Prop
  | .row e n _, t => n * P.cellsOf e ≤ t
  | .mp _ _, _ => True
def OpenOK (P : Program) (w0 : W0) (w : World) (H : Heap) (b : Nat) (x : XO) : Prop :=
  w0.nw (b) ∧ (∃ ob, w.heap[b]? = some ob ∧ XOb P x ob) ∧ ∀ t, XFree P x t → H b t = none
structure Good (P : Program) (w0 : W0) (H0 : Heap) (st : St) (a : Act) (w : World) (ρ : Nat → Nat) (σ : Nat → Value) : Prop where
  defers : a.defers = []
  size : a.tmps.size = st.fr.length
  fr : ∀ (i : Nat) (x : SV), st.fr[i]? = some x → x.rel ρ σ (a.tmps.getD i undef)
  below : BelS w0.w w w0.g
  le : Heap.le H0 st.H
  old : ∀ b, ¬ w0.nw b → ∀ o, st.H b o = H0 b o
  snap : Snap st.H w
  obj : ∀ i f o, st.L[i]? = some (some (f, o)) → ObjOK P w0 w st.H ρ σ i o
  sep : ∀ i j f f' o o' g, i ≠ j → st.L[i]? = some (some (f, o)) → st.L[j]? = some (some (f', o')) → blk ρ σ i o = some g → blk ρ σ j o' ≠ some g
  nr : ∀ d, st.L[d]? = some none → st.noRef d
  sl : ∀ i, ∃ A n c, σ i = .slice A n c
  opn : ∀ b x, st.O b = some x → OpenOK P w0 w st.H b x ∧ ∀ i f o, st.L[i]? = some (some (f, o)) → blk ρ σ i o ≠ some b

section
variable {ρ : Nat → Nat} {σ : Nat → Value}
theorem relL_length : ∀ {cs : List S1} {ys : List Value}, relL ρ σ cs ys → cs.length = ys.length
  | [], [], _ => rfl
  | _ :: _, _ :: _, h => by simp [relL_length h.2]
  | [], _ :: _, h => h.elim
  | _ :: _, [], h => h.elim
theorem relL_append : ∀ {cs cs' : List S1} {ys ys' : List Value}, relL ρ σ cs ys → relL ρ σ cs' ys' → relL ρ σ (cs ++ cs') (ys ++ ys')
  | [], _, [], _, _, h' => h'
  | _ :: _, _, _ :: _, _, h, h' => ⟨h.1, relL_append h.2 h'⟩
  | [], _, _ :: _, _, h, _ => h.elim
  | _ :: _, _, [], _, h, _ => h.elim
theorem relL_take : ∀ {cs : List S1} {ys : List Value} (k : Nat), relL ρ σ cs ys → relL ρ σ (cs.take k) (ys.take k)
  | [], [], k, _ => by simp [relL]
  | _ :: _, _ :: _, 0, _ => by simp [relL]
  | _ :: _, _ :: _, k + 1, h => ⟨h.1, relL_take k h.2⟩
  | [], _ :: _, _, h => h.elim
  | _ :: _, [], _, h => h.elim
theorem relL_drop : ∀ {cs : List S1} {ys : List Value} (k : Nat), relL ρ σ cs ys → relL ρ σ (cs.drop k) (ys.drop k)
  | [], [], k, _ => by simp [relL]
  | _ :: _, _ :: _, 0, h => h
  | _ :: _, _ :: _, k + 1, h => relL_drop k h.2
  | [], _ :: _, _, h => h.elim
  | _ :: _, [], _, h => h.elim
theorem relL_v : ∀ (xs : List Value), relL ρ σ (xs.map S1.v) xs
  | [] => trivial
  | _ :: xs => ⟨rfl, relL_v xs⟩
theorem S1.toV_rel {c : S1} {x y : Value} (h : c.toV = some x) (hr : c.rel ρ σ y) : y = x := by
  cases c <;> simp [S1.toV] at h <;> subst h <;> exact hr
theorem toVs_rel : ∀ {cs : List S1} {xs ys : List Value}, toVs cs = some xs → relL ρ σ cs ys → ys = xs
  | [], xs, [], h, _ => by simp [toVs] at h; exact h.symm
  | c :: cs, xs, y :: ys, h, hr => by
    simp only [toVs] at h
    split at h
    · rename_i x hx
      split at h
      · rename_i xs' hxs
        simp at h
        subst h
        rw [S1.toV_rel hx hr.1, toVs_rel hxs hr.2]
      · simp at h
    · simp at h
  | [], _, _ :: _, _, h => h.elim
  | _ :: _, _, [], _, h => h.elim
theorem S1.asB_rel {c : S1} {b : Bool} {y : Value} (h : c.asB = some b) (hr : c.rel ρ σ y) : y = .bool b := by
  cases c <;> simp only [S1.asB] at h <;> try (simp at h; done)
  case v x =>
    cases x <;> simp at h
    subst h; exact hr
  all_goals (simp at h; subst h; exact hr)
theorem S1.ok1_rel (hsl : ∀ i, ∃ A n c, σ i = .slice A n c) {c : S1} {y : Value} (h : c.ok1 = true) (hr : c.rel ρ σ y) : y.oneCell' = true := by
  cases c <;> simp only [S1.ok1] at h <;> simp only [S1.rel] at hr <;> try (simp at h; done)
  case v x => cases x <;> simp at h <;> subst hr <;> rfl
  case own i => obtain ⟨A, n, c, e⟩ := hsl i; subst hr; rw [e]; rfl
  case oelt i j => obtain ⟨g, n, c, _, e⟩ := hr; subst e; rfl
  case sub i l m sz => obtain ⟨A, n, c, _, _, e⟩ := hr; subst e; rfl
  case pin i s => obtain ⟨A, n, c, e⟩ := hsl i; rw [hr.1, e]; rfl
  all_goals (subst hr; rfl)
theorem ok1s_rel (hsl : ∀ i, ∃ A n c, σ i = .slice A n c) : ∀ {cs : List S1} {ys : List Value}, ok1s cs = true → relL ρ σ cs ys → ∀ y ∈ ys, y.oneCell' = true
  | [], [], _, _ => by simp
  | c :: cs, y :: ys, h, hr => by
    simp only [ok1s, Bool.and_eq_true] at h
    intro z hz
    rcases List.mem_cons.1 hz with rfl | hz
    · exact S1.ok1_rel hsl h.1 hr.1
    · exact ok1s_rel hsl h.2 hr.2 z hz
  | [], _ :: _, _, h => h.elim
  | _ :: _, [], _, h => h.elim
end

section
variable {P : Program} {w0 : W0} {w : World} {H0 : Heap} {st : St} {a : Act} {ρ : Nat → Nat} {σ : Nat → Value}
theorem getL_some {i : Nat} {o : LObj} (h : getL st i = some o) : ∃ f, st.L[i]? = some (some (f, o)) := by
  unfold getL at h
  split at h
  · rename_i f o' ho
    simp at h; subst h
    exact ⟨f, ho⟩
  · simp at h
theorem getW_some {i : Nat} {o : LObj} (h : getW st i = some o) : st.L[i]? = some (some (true, o)) := by
  unfold getW at h
  split at h
  · rename_i o' ho
    simp at h; subst h
    exact ho
  · simp at h
theorem fresh?_some {d : Nat} (h : fresh? st d = true) : st.L[d]? = some none := by
  unfold fresh? at h
  split at h
  · assumption
  · simp at h
theorem res1_rel (hobj : ∀ i f o, st.L[i]? = some (some (f, o)) → ObjOK P w0 w st.H ρ σ i o) {c : S1} {y : Value} (h : c.rel ρ σ y) : (res1 st c).rel ρ σ y := by
  cases c <;> simp only [res1] <;> try exact h
  case own i =>
    split
    · rename_i A n c hg
      obtain ⟨f, hf⟩ := getL_some hg
      have := hobj _ _ _ hf
      simp only [ObjOK] at this
      simp only [S1.rel] at h ⊢
      rw [h, this]
    · exact h
  case pin i s =>
    split
    · rename_i A n c hg
      obtain ⟨f, hf⟩ := getL_some hg
      have := hobj _ _ _ hf
      simp only [ObjOK] at this
      simp only [S1.rel] at h ⊢
      rw [h.1, this]
    · exact h.1
theorem resL_rel (hobj : ∀ i f o, st.L[i]? = some (some (f, o)) → ObjOK P w0 w st.H ρ σ i o) : ∀ {cs : List S1} {ys : List Value}, relL ρ σ cs ys → relL ρ σ (cs.map (res1 st)) ys
  | [], [], _ => trivial
  | _ :: _, _ :: _, h => ⟨res1_rel hobj h.1, resL_rel hobj h.2⟩
  | [], _ :: _, h => h.elim
  | _ :: _, [], h => h.elim
theorem resT_rel (hobj : ∀ i f o, st.L[i]? = some (some (f, o)) → ObjOK P w0 w st.H ρ σ i o) : ∀ {cs : List (Bool × List S1)} {ys : List Value}, relT ρ σ cs ys → relT ρ σ (cs.map fun x => (x.1, x.2.map (res1 st))) ys
  | [], [], _ => trivial
  | (true, _) :: _, _ :: _, h => by
    obtain ⟨⟨zs, e, hz⟩, h2⟩ := h
    exact ⟨⟨zs, e, resL_rel hobj hz⟩, resT_rel hobj h2⟩
  | (false, _) :: _, _ :: _, h => ⟨resL_rel hobj h.1, resT_rel hobj h.2⟩
  | [], _ :: _, h => h.elim
  | (true, _) :: _, [], h => h.elim
  | (false, _) :: _, [], h => h.elim
theorem resV_rel (hobj : ∀ i f o, st.L[i]? = some (some (f, o)) → ObjOK P w0 w st.H ρ σ i o) {x : SV} {y : Value} (h : x.rel ρ σ y) : (resV st x).rel ρ σ y := by
  cases x <;> simp only [resV, SV.rel] at h ⊢
  case one x => exact res1_rel hobj h
  case agg cs => obtain ⟨ys, e, hr⟩ := h; exact ⟨ys, e, resL_rel hobj hr⟩
  case clo f cap => obtain ⟨ys, e, hr⟩ := h; exact ⟨ys, e, resL_rel hobj hr⟩
  case tup cs => obtain ⟨ys, e, hr⟩ := h; exact ⟨ys, e, resT_rel hobj hr⟩
theorem res1_refs {c : S1} {d : Nat} (h : (res1 st c).refs d) : c.refs d := by
  cases c <;> simp only [res1] at h <;> try exact h
  all_goals
    split at h
    · exact h.elim
    · exact h
theorem resL_refs {cs : List S1} {d : Nat} (h : refsL d (cs.map (res1 st))) : refsL d cs := by
  obtain ⟨c, hc, hr⟩ := h
  obtain ⟨c', hc', rfl⟩ := List.mem_map.1 hc
  exact ⟨c', hc', res1_refs hr⟩
theorem resV_refs {x : SV} {d : Nat} (h : (resV st x).refs d) : x.refs d := by
  cases x <;> simp only [resV, SV.refs] at h ⊢
  case one x => exact res1_refs h
  case agg cs => exact resL_refs h
  case clo f cap => exact resL_refs h
  case tup cs =>
    obtain ⟨x, hx, hr⟩ := h
    obtain ⟨y, hy, rfl⟩ := List.mem_map.1 hx
    exact ⟨y, hy, resL_refs hr⟩
theorem ofV_rel (v : Value) : (ofV v).rel ρ σ v := by
  cases v <;> simp only [ofV]
  case bool b => cases b <;> rfl
  case agg cs => exact ⟨cs, rfl, relL_v _⟩
  all_goals rfl
theorem refsL_v {d : Nat} {xs : List Value} (h : refsL d (xs.map S1.v)) : False := by
  obtain ⟨c, hc, hr⟩ := h
  obtain ⟨x, _, rfl⟩ := List.mem_map.1 hc
  exact hr
theorem ofV_refs {v : Value} {d : Nat} (h : (ofV v).refs d) : False := by
  cases v <;> simp only [ofV] at h
  case bool b => cases b <;> exact h
  case agg cs => exact refsL_v h
  all_goals exact h
variable (hg : Good P w0 H0 st a w ρ σ)
include hg
theorem ev_rel {x : Operand} {r : SV} (h : ev st x = some r) : r.rel ρ σ (a.eval x) := by
  cases x <;> simp only [ev] at h
  case tmp t =>
    split at h
    · rename_i x hx
      simp at h; subst h
      exact resV_rel hg.obj (hg.fr _ _ hx)
    · simp at h
  case const v => simp at h; subst h; exact ofV_rel v
  case func f => simp at h; subst h; exact ⟨#[], rfl, trivial⟩
  case global g => simp at h
omit hg in
theorem ev_refs {x : Operand} {r : SV} (h : ev st x = some r) {d : Nat} (hn : st.noRef d) : ¬ r.refs d := by
  cases x <;> simp only [ev] at h
  case tmp t =>
    split at h
    · rename_i x hx
      simp at h; subst h
      exact fun hh => hn.fr _ _ hx (resV_refs hh)
    · simp at h
  case const v => simp at h; subst h; exact ofV_refs
  case func f => simp at h; subst h; rintro ⟨c, hc, _⟩; simp at hc
  case global g => simp at h
theorem evs_rel : ∀ {xs : List Operand} {rs : List SV}, evs st xs = some rs → rs.length = xs.length ∧ ∀ (k : Nat) (r : SV) (x : Operand), rs[k]? = some r → xs[k]? = some x → r.rel ρ σ (a.eval x)
  | [], rs, h => by simp [evs] at h; subst h; simp
  | x :: xs, rs, h => by
    simp only [evs] at h
    split at h
    · rename_i r hr
      split at h
      · rename_i rs' hrs
        simp at h; subst h
        obtain ⟨hl, hk⟩ := evs_rel hrs
        refine ⟨by simp [hl], fun k r' x' h1 h2 => ?_⟩
        cases k with
        | zero => simp at h1 h2; subst h1 h2; exact ev_rel hg hr
        | succ k => exact hk k r' x' (by simpa using h1) (by simpa using h2)
      · simp at h
    · simp at h
end
end Go.Vc
/- The reading operations: what the verification condition asks suffices for the machine's step. -/
namespace Go.Vc
open Go Go.RowKit

def EKOK (P : Program) (q : EK) (t : TypeId) : Prop :=
  match q with
  | .int => ∃ k', P.underlying t = some (.int k')
  | .bool => P.underlying t = some .bool
  | .str => P.underlying t = some .string
structure TyOK (P : Program) (t : TypeId) (i : TyI) : Prop where
  und : match i.ty with
    | .int k => P.underlying t = some (.int k)
    | .bool => P.underlying t = some .bool
    | .string => P.underlying t = some .string
    | .slice e => P.underlying t = some (.slice e)
    | .struct fs => ∃ F : Array Field, P.underlying t = some (.struct F) ∧ F.toList.map (fun f => (f.offset, f.type)) = fs ∧ ∀ f ∈ F.toList, ∃ inf, P.info? f.type = some inf
    | .array n e => P.underlying t = some (.array n e)
    | .map k e => P.underlying t = some (.map k e)
    | .other => True
  agg : ∀ w, (isAgg t).run P w = .ok i.agg w
  info : ∃ inf z, P.info? t = some inf ∧ inf.size = i.size ∧ inf.bytes = i.bytes ∧ inf.zero = some z ∧ z.cells = ⟨i.zero⟩
  zlen : i.zero.length = i.size
  zform : ∀ inf z, P.info? t = some inf → inf.zero = some z → (i.agg = true ↔ ∃ cs, z = .agg cs)
  zone : ∀ z ∈ i.zero, z.oneCell' = true
  zagg : i.agg = true ↔ ((∃ fs, i.ty = .struct fs) ∨ ∃ n e, i.ty = .array n e)
  eq : i.eqk ≠ [] → ∃ F : Array Field, P.underlying t = some (.struct F) ∧ P.eqGuardType P.depth t = false ∧ P.stoodInHeld t = false ∧
    F.toList.length = i.eqk.length ∧ ∀ (k : Nat) (f : Field) (q : EK), F.toList[k]? = some f → i.eqk[k]? = some q → f.offset = k ∧ f.name ≠ "_" ∧
      EKOK P q f.type
def TabOK (P : Program) (Γ : Tab) : Prop := ∀ t i, Γ t = some i → TyOK P t i

section
variable {P : Program} {t : TypeId} {i : TyI}
theorem TyOK.run_size (h : TyOK P t i) (w : World) : (sizeOf t).run P w = .ok i.size w := by
  obtain ⟨inf, z, h1, h2, _⟩ := h.info
  simp [sizeOf, typeInfo, h1, h2]
theorem TyOK.run_zero (h : TyOK P t i) (w : World) : ∃ z, (zeroValue t).run P w = .ok z w ∧ z.cells = ⟨i.zero⟩ := by
  obtain ⟨inf, z, h1, _, _, h4, h5⟩ := h.info
  exact ⟨z, by simp [zeroValue, typeInfo, h1, h4], h5⟩
theorem run_und {P : Program} {t : TypeId} {d : TypeDesc} (h : P.underlying t = some d) (w : World) : (underlying t).run P w = .ok d w := by
  simp [underlying, h]
end

theorem add_plain (b o n : Nat) : (⟨b, o, none⟩ : Addr).add n = ⟨b, o + n, none⟩ := by
  unfold Addr.add; split <;> simp_all
theorem run_loadCellsFrom {P : Program} (w : World) (b o : Nat) : ∀ (n i : Nat) (ys : List Value) (acc : Array Value), ys.length = n →
    (∀ k y, ys[k]? = some y → w.cell? ⟨b, o + i + k, none⟩ = some y) → (loadCellsFrom ⟨b, o, none⟩ i n acc).run P w = .ok (acc ++ ⟨ys⟩) w
  | 0, i, ys, acc, hl, _ => by
    have : ys = [] := List.eq_nil_of_length_eq_zero hl
    subst this
    simp [loadCellsFrom]
  | n + 1, i, [], acc, hl, _ => by simp at hl
  | n + 1, i, y :: ys, acc, hl, h => by
    have h0 := h 0 y rfl
    simp only [Nat.add_zero] at h0
    simp only [loadCellsFrom, Sem.run_bind, add_plain, run_load, h0, Result.andThen_ok]
    rw [run_loadCellsFrom w b o n (i + 1) ys (acc.push y) (by simpa using hl) (fun k z hz => by
      have := h (k + 1) z (by simpa using hz)
      rw [show o + (i + 1) + k = o + i + (k + 1) from by omega]; exact this)]
    congr 1
    apply Array.ext'
    simp
theorem run_loadCells {P : Program} (w : World) (b o : Nat) (ys : List Value) (h : ∀ k y, ys[k]? = some y → w.cell? ⟨b, o + k, none⟩ = some y) :
    (loadCells ⟨b, o, none⟩ ys.length).run P w = .ok ⟨ys⟩ w := by
  unfold loadCells
  rw [run_loadCellsFrom w b o ys.length 0 ys #[] rfl (by simpa using h)]
  simp
/- the value that cells make up -/
def valMk (g : Bool) (ys : List Value) : Value := if g then .agg ⟨ys⟩ else ys.headD undef
theorem run_loadVar {P : Program} {t : TypeId} {i : TyI} (hT : TyOK P t i) (w : World) (b o : Nat) (ys : List Value)
    (h : ∀ k y, ys[k]? = some y → w.cell? ⟨b, o + k, none⟩ = some y) (hl : ys.length = i.size) (h1 : i.agg = true ∨ ys.length = 1) :
    (loadVar t ⟨b, o, none⟩).run P w = .ok (valMk i.agg ys) w := by
  unfold loadVar valMk
  simp only [Sem.run_bind, hT.agg w, Result.andThen_ok]
  cases hg : i.agg
  · simp only [Bool.false_eq_true, if_false, Sem.run_ite]
    rcases h1 with h1 | h1
    · rw [hg] at h1; simp at h1
    · match ys, h1 with
      | [y], _ =>
        have := h 0 y rfl
        simp only [Nat.add_zero] at this
        simp [this]
  · simp only [if_true, Sem.run_bind, hT.run_size w, Result.andThen_ok, ← hl, run_loadCells w b o ys h, Sem.run_pure]

section
variable {ρ : Nat → Nat} {σ : Nat → Value}
theorem mkSV_rel {g : Bool} {cs : List S1} {r : SV} {ys : List Value} (h : mkSV g cs = some r) (hr : relL ρ σ cs ys) :
    r.rel ρ σ (valMk g ys) ∧ (g = true ∨ ys.length = 1) ∧ ∀ d, r.refs d → refsL d cs := by
  cases g
  · match cs, h with
    | [c], h =>
      simp [mkSV] at h; subst h
      match ys, hr with
      | [y], hr => exact ⟨hr.1, .inr rfl, fun d hd => ⟨c, by simp, hd⟩⟩
      | [], hr => exact hr.elim
      | _ :: _ :: _, hr => exact hr.2.elim
    | [], h => simp [mkSV] at h
    | _ :: _ :: _, h => simp [mkSV] at h
  · simp [mkSV] at h; subst h
    exact ⟨⟨_, rfl, hr⟩, .inl rfl, fun d hd => hd⟩
theorem vcMk_sound {g : Bool} {cs : List S1} {K : SV → Prop} {ys : List Value} (h : vcMk g cs K) (hr : relL ρ σ cs ys) :
    ∃ r, r.rel ρ σ (valMk g ys) ∧ (g = true ∨ ys.length = 1) ∧ (∀ d, r.refs d → refsL d cs) ∧ K r := by
  unfold vcMk at h
  split at h
  · rename_i r hm
    obtain ⟨h1, h2, h3⟩ := mkSV_rel hm hr
    exact ⟨r, h1, h2, h3, h⟩
  · exact h.elim
theorem exQ_sound : ∀ {ls : List Leaf} {K : List Value → List S1 → Prop}, exQ ls K → ∃ vs cs, relL ρ σ cs vs ∧ (∀ d, ¬ refsL d cs) ∧ K vs cs
  | [], K, h => ⟨[], [], trivial, fun d => by rintro ⟨c, hc, _⟩; simp at hc, h⟩
  | l :: ls, K, h => by
    have key : ∀ (v : Value) (c : S1), c.rel ρ σ v → (∀ d, ¬ c.refs d) → exQ ls (fun vs cs => K (v :: vs) (c :: cs)) → ∃ vs cs, relL ρ σ cs vs ∧ (∀ d, ¬ refsL d cs) ∧ K vs cs := by
      intro v c hv hc h
      obtain ⟨vs, cs, h1, h2, h3⟩ := exQ_sound h
      refine ⟨v :: vs, c :: cs, ⟨hv, h1⟩, fun d => ?_, h3⟩
      rintro ⟨x, hx, hr⟩
      rcases List.mem_cons.1 hx with rfl | hx
      · exact hc d hr
      · exact h2 d ⟨x, hx, hr⟩
    cases l <;> simp only [exQ] at h
    case sl =>
      obtain ⟨A, n, c, h⟩ := h
      refine key _ _ ?_ ?_ h
      · exact rfl
      · exact fun _ hh => hh
    all_goals
      obtain ⟨n, h⟩ := h
      refine key _ _ ?_ ?_ h
      · exact rfl
      · exact fun _ hh => hh
end

section
variable {P : Program} {Γ : Tab} {w0 : W0} {w : World} {H0 : Heap} {st : St} {a : Act} {ρ : Nat → Nat} {σ : Nat → Value}
variable (hT : TabOK P Γ) (hg : Good P w0 H0 st a w ρ σ)
/- a world that shows what w shows, as far as reading goes -/
structure SameFor (st : St) (ρ : Nat → Nat) (σ : Nat → Value) (w w' : World) : Prop where
  snap : Snap st.H w'
  box : ∀ (i : Nat) (f : Bool) (t : TypeId) (cs : List S1), st.L[i]? = some (some (f, .box t cs)) → w'.heap[ρ i]? = w.heap[ρ i]?
  arr : ∀ (i : Nat) (f : Bool) (t : TypeId) (xs : List Value), st.L[i]? = some (some (f, .arr t xs)) → w'.heap[ρ i]? = w.heap[ρ i]?
  row : ∀ (i : Nat) (f : Bool) (e : TypeId) (n : Nat) (xs : List Value), st.L[i]? = some (some (f, .row e n xs)) → ∀ g, (σ i).ownBlock = some g → w'.heap[g]? = w.heap[g]?
theorem SameFor.refl (hg : Good P w0 H0 st a w ρ σ) : SameFor st ρ σ w w := ⟨hg.snap, fun _ _ _ _ _ => rfl, fun _ _ _ _ _ => rfl, fun _ _ _ _ _ _ _ _ => rfl⟩
theorem ownsRow_same0 {w w' : World} {B sz n : Nat} {e : TypeId} {v : Value} {xs : List Value} (hs : ∀ g, v.ownBlock = some g → w'.heap[g]? = w.heap[g]?) (h : w.ownsRow B e sz v n xs) : w'.ownsRow B e sz v n xs := by
  refine ⟨h.1, ?_⟩
  rcases h.2 with h | ⟨g, cap, cur, hv, h1, h2, h3⟩
  · exact .inl h
  · exact .inr ⟨g, cap, cur, hv, h1, (hs g (by rw [hv]; rfl)).trans h2, h3⟩
theorem ownsRow_same {w w' : World} {w0 : W0} {sz n : Nat} {e : TypeId} {v : Value} {xs : List Value} (hs : ∀ g, v.ownBlock = some g → w'.heap[g]? = w.heap[g]?) (h : owns w w0 e sz v n xs) : owns w' w0 e sz v n xs := ⟨ownsRow_same0 hs h.row, h.nw⟩
def RdOK (P : Program) (st : St) (ρ : Nat → Nat) (σ : Nat → Value) (w : World) (m : Sem Value) (K : SV → Prop) : Prop :=
  ∃ v r, (∀ w', SameFor st ρ σ w w' → m.run P w' = .ok v w') ∧ SV.rel ρ σ r v ∧ (∀ d, st.noRef d → ¬ r.refs d) ∧ K r
theorem cell_of_block {w : World} {g j : Nat} {cs : Array Value} {t : TypeId} (h : w.heap[g]? = some (.cells cs t (0, 0))) : w.cell? ⟨g, j, none⟩ = cs[j]? := by
  simp [World.cell?, h]
include hT hg
omit hT in
theorem box_of {o : Nat} {t : TypeId} {cs : List S1} (h : getL st o = some (.box t cs)) :
    ∃ ys : Array Value, w.heap[ρ o]? = some (.cells ys t (0, 0)) ∧ relL ρ σ cs ys.toList ∧ ∀ d, st.noRef d → ¬ refsL d cs := by
  obtain ⟨f, hf⟩ := getL_some h
  obtain ⟨ys, h1, h2, _⟩ := hg.obj _ _ _ hf
  exact ⟨ys, h1, h2, fun d hd => hd.obj _ _ _ hf⟩
omit hT in
theorem arr_of {o : Nat} {t : TypeId} {xs : List Value} (h : getL st o = some (.arr t xs)) : w.heap[ρ o]? = some (.cells ⟨xs⟩ t (0, 0)) := by
  obtain ⟨f, hf⟩ := getL_some h
  exact (hg.obj _ _ _ hf).1
omit hT in
theorem row_of {o : Nat} {e : TypeId} {n : Nat} {xs : List Value} (h : getL st o = some (.row e n xs)) : owns w w0 e (P.cellsOf e) (σ o) n xs := by
  obtain ⟨f, hf⟩ := getL_some h
  exact (hg.obj _ _ _ hf).1
omit hT hg in
theorem row_cells {o : Nat} {e : TypeId} {n : Nat} {xs : List Value} (h : owns w w0 e (P.cellsOf e) (σ o) n xs) {g m c : Nat} (hs : σ o = .slice (some ⟨g, 0, none⟩) m c) :
    ∀ k x, xs[k]? = some x → w.cell? ⟨g, k, none⟩ = some x := by
  intro k x hx
  have := h.cells (g := g) (by rw [hs]; rfl) k x hx
  rwa [add_plain, Nat.zero_add] at this
theorem win_get {xs ys : List Value} {j n : Nat} (h : win xs j n = ys) (k : Nat) (y : Value) (hy : ys[k]? = some y) : xs[j + k]? = some y := by
  unfold win at h
  subst h
  rw [List.getElem?_take] at hy
  split at hy
  · rwa [List.getElem?_drop] at hy
  · simp at hy
theorem vcLoad_sound {t : TypeId} {x : SV} {v : Value} (hx : x.rel ρ σ v) {K : SV → Prop} (h : vcLoad Γ st t x K) : RdOK P st ρ σ w (Instr.loadAt t v) K := by
  unfold vcLoad at h
  split at h
  · exact h.elim
  · rename_i i hi
    have hTy := hT _ _ hi
    split at h
    · rename_i o off
      simp only [SV.rel, S1.rel] at hx
      subst hx
      split at h
      · rename_i t0 cs hL
        split at h
        · rename_i hlen
          obtain ⟨ys, hb, hr, hn⟩ := box_of hg hL
          have hr' := relL_take i.size (relL_drop off hr)
          have hl : ((ys.toList.drop off).take i.size).length = i.size := by
            have := relL_length hr
            simp only [List.length_take, List.length_drop]; omega
          obtain ⟨r, h1, h2, h3, h4⟩ := vcMk_sound h hr'
          refine ⟨_, r, ?_, h1, fun d hd hh => ?_, h4⟩
          · intro w' hw'
            obtain ⟨fl, hfl⟩ := getL_some hL
            simp only [Instr.loadAt, Instr.sureAddr, Sem.run_bind, Sem.run_pure, Result.andThen_ok]
            refine run_loadVar hTy w' _ _ _ (fun k y hy => ?_) hl h2
            rw [cell_of_block ((hw'.box _ _ _ _ hfl).trans hb)]
            rw [List.getElem?_take] at hy
            split at hy
            · rw [List.getElem?_drop] at hy; simpa using hy
            · simp at hy
          · obtain ⟨c, hc, hcr⟩ := h3 d hh
            exact hn d hd ⟨c, List.mem_of_mem_drop (List.mem_of_mem_take hc), hcr⟩
        · exact h.elim
      · rename_i t0 xs hL
        obtain ⟨vs, cs, hr, hn, hw, h⟩ := exQ_sound (ρ := ρ) (σ := σ) h
        split at h
        · rename_i hl
          obtain ⟨r, h1, h2, h3, h4⟩ := vcMk_sound h hr
          refine ⟨_, r, ?_, h1, fun d _ hh => hn d (h3 d hh), h4⟩
          intro w' hw'
          obtain ⟨fl, hfl⟩ := getL_some hL
          simp only [Instr.loadAt, Instr.sureAddr, Sem.run_bind, Sem.run_pure, Result.andThen_ok]
          refine run_loadVar hTy w' _ _ _ (fun k y hy => ?_) hl h2
          rw [cell_of_block ((hw'.arr _ _ _ _ hfl).trans (arr_of hg hL))]
          simpa using win_get hT hg hw k y hy
        · exact h.elim
      · exact h.elim
    · rename_i A j
      obtain ⟨b, o, rfl, rfl⟩ := hx
      obtain ⟨vs, cs, hr, hn, hc, h⟩ := exQ_sound (ρ := ρ) (σ := σ) h
      split at h
      · rename_i hl
        obtain ⟨r, h1, h2, h3, h4⟩ := vcMk_sound h hr
        refine ⟨_, r, ?_, h1, fun d _ hh => hn d (h3 d hh), h4⟩
        intro w' hw'
        simp only [Instr.loadAt, Instr.sureAddr, Sem.run_bind, Sem.run_pure, Result.andThen_ok]
        refine run_loadVar hTy w' _ _ _ (fun k y hy => ?_) hl h2
        rcases hc with rfl | ⟨b', o', hA, hc⟩
        · simp at hy
        · injection hA with hA; injection hA with e1 e2; subst e1 e2
          exact (hw'.snap _ _ _ (hc k y hy).1).cell (hc k y hy).2
      · exact h.elim
    · rename_i o j
      simp only [SV.rel, S1.rel] at hx
      subst hx
      split at h
      · rename_i t0 xs hL
        obtain ⟨vs, cs, hr, hn, hw, h⟩ := exQ_sound (ρ := ρ) (σ := σ) h
        split at h
        · rename_i hl
          obtain ⟨r, h1, h2, h3, h4⟩ := vcMk_sound h hr
          refine ⟨_, r, ?_, h1, fun d _ hh => hn d (h3 d hh), h4⟩
          intro w' hw'
          obtain ⟨fl, hfl⟩ := getL_some hL
          simp only [Instr.loadAt, Instr.sureAddr, Sem.run_bind, Sem.run_pure, Result.andThen_ok]
          refine run_loadVar hTy w' _ _ _ (fun k y hy => ?_) hl h2
          rw [cell_of_block ((hw'.arr _ _ _ _ hfl).trans (arr_of hg hL))]
          simpa using win_get hT hg hw k y hy
        · exact h.elim
      · exact h.elim
    · rename_i o j
      obtain ⟨g, n, c, hs, rfl⟩ := hx
      split at h
      · rename_i e m xs hL
        obtain ⟨vs, cs, hr, hn, hw, h⟩ := exQ_sound (ρ := ρ) (σ := σ) h
        split at h
        · rename_i hl
          obtain ⟨r, h1, h2, h3, h4⟩ := vcMk_sound h hr
          refine ⟨_, r, ?_, h1, fun d _ hh => hn d (h3 d hh), h4⟩
          intro w' hw'
          obtain ⟨fl, hfl⟩ := getL_some hL
          simp only [Instr.loadAt, Instr.sureAddr, Sem.run_bind, Sem.run_pure, Result.andThen_ok]
          refine run_loadVar hTy w' _ _ _ (fun k y hy => ?_) hl h2
          exact row_cells (ownsRow_same (hw'.row _ _ _ _ _ hfl) (row_of hg hL)) hs _ _ (win_get hT hg hw k y hy)
        · exact h.elim
      · exact h.elim
    · exact h.elim
end
end Go.Vc
namespace Go.Vc
open Go
def tabRaw : Tab := fun t => (match Nat.blt t 114 with
 | true => (match Nat.blt t 57 with
  | true => (match Nat.blt t 30 with
   | true => (match Nat.blt t 16 with
    | true => (match Nat.blt t 7 with
     | true => (match Nat.blt t 4 with
      | true => (match Nat.blt t 2 with
       | true => (match Nat.beq t 1 with
        | true => some ⟨.other, 1, 8, [.nilFunc], false, []⟩
        | false => none)
       | false => (match Nat.blt t 3 with
        | true => (match Nat.beq t 2 with
         | true => some ⟨.int .i64, 1, 8, [.int .i64 0], false, []⟩
         | false => none)
        | false => (match Nat.beq t 3 with
         | true => some ⟨.int .i64, 1, 8, [.int .i64 0], false, []⟩
         | false => none)))
      | false => (match Nat.blt t 5 with
       | true => (match Nat.beq t 4 with
        | true => some ⟨.bool, 1, 1, [.bool false], false, []⟩
        | false => none)
       | false => (match Nat.blt t 6 with
        | true => (match Nat.beq t 5 with
         | true => some ⟨.int .u8, 1, 1, [.int .u8 0], false, []⟩
         | false => none)
        | false => (match Nat.beq t 6 with
         | true => some ⟨.int .u8, 1, 1, [.int .u8 0], false, []⟩
         | false => none))))
     | false => (match Nat.blt t 10 with
      | true => (match Nat.blt t 8 with
       | true => (match Nat.beq t 7 with
        | true => some ⟨.struct [(0, 2), (1, 3), (2, 4), (3, 6)], 4, 24, [.int .i64 0, .int .i64 0, .bool false, .int .u8 0], true, [.int, .int, .bool, .int]⟩
        | false => none)
       | false => (match Nat.blt t 9 with
        | true => (match Nat.beq t 8 with
         | true => some ⟨.struct [(0, 2), (1, 3), (2, 4), (3, 6)], 4, 24, [.int .i64 0, .int .i64 0, .bool false, .int .u8 0], true, [.int, .int, .bool, .int]⟩
         | false => none)
        | false => (match Nat.beq t 9 with
         | true => some ⟨.string, 1, 16, [.string ⟨#[]⟩], false, []⟩
         | false => none)))
      | false => (match Nat.blt t 12 with
       | true => (match Nat.blt t 11 with
        | true => (match Nat.beq t 10 with
         | true => some ⟨.string, 1, 16, [.string ⟨#[]⟩], false, []⟩
         | false => none)
        | false => (match Nat.beq t 11 with
         | true => some ⟨.string, 1, 16, [.string ⟨#[]⟩], false, []⟩
         | false => none))
       | false => (match Nat.blt t 15 with
        | true => (match Nat.beq t 12 with
         | true => some ⟨.int .u64, 1, 8, [.int .u64 0], false, []⟩
         | false => none)
        | false => (match Nat.beq t 15 with
         | true => some ⟨.other, 1, 8, [.pointer none], false, []⟩
         | false => none)))))
    | false => (match Nat.blt t 23 with
     | true => (match Nat.blt t 19 with
      | true => (match Nat.blt t 17 with
       | true => (match Nat.beq t 16 with
        | true => some ⟨.other, 1, 8, [.pointer none], false, []⟩
        | false => none)
       | false => (match Nat.blt t 18 with
        | true => (match Nat.beq t 17 with
         | true => some ⟨.other, 1, 8, [.pointer none], false, []⟩
         | false => none)
        | false => (match Nat.beq t 18 with
         | true => some ⟨.struct [(0, 17)], 1, 8, [.pointer none], true, []⟩
         | false => none)))
      | false => (match Nat.blt t 21 with
       | true => (match Nat.blt t 20 with
        | true => (match Nat.beq t 19 with
         | true => some ⟨.struct [(0, 17)], 1, 8, [.pointer none], true, []⟩
         | false => none)
        | false => (match Nat.beq t 20 with
         | true => some ⟨.other, 1, 16, [.nilIface], false, []⟩
         | false => none))
       | false => (match Nat.blt t 22 with
        | true => (match Nat.beq t 21 with
         | true => some ⟨.int .i32, 1, 4, [.int .i32 0], false, []⟩
         | false => none)
        | false => (match Nat.beq t 22 with
         | true => some ⟨.slice 57, 1, 24, [.slice none 0 0], false, []⟩
         | false => none))))
     | false => (match Nat.blt t 26 with
      | true => (match Nat.blt t 24 with
       | true => (match Nat.beq t 23 with
        | true => some ⟨.slice 3, 1, 24, [.slice none 0 0], false, []⟩
        | false => none)
       | false => (match Nat.blt t 25 with
        | true => (match Nat.beq t 24 with
         | true => some ⟨.slice 80, 1, 24, [.slice none 0 0], false, []⟩
         | false => none)
        | false => (match Nat.beq t 25 with
         | true => some ⟨.other, 1, 8, [.nilFunc], false, []⟩
         | false => none)))
      | false => (match Nat.blt t 28 with
       | true => (match Nat.blt t 27 with
        | true => (match Nat.beq t 26 with
         | true => some ⟨.other, 1, 8, [.nilFunc], false, []⟩
         | false => none)
        | false => (match Nat.beq t 27 with
         | true => some ⟨.slice 53, 1, 24, [.slice none 0 0], false, []⟩
         | false => none))
       | false => (match Nat.blt t 29 with
        | true => (match Nat.beq t 28 with
         | true => some ⟨.other, 1, 8, [.nilFunc], false, []⟩
         | false => none)
        | false => (match Nat.beq t 29 with
         | true => some ⟨.other, 1, 8, [.nilFunc], false, []⟩
         | false => none))))))
   | false => (match Nat.blt t 43 with
    | true => (match Nat.blt t 36 with
     | true => (match Nat.blt t 33 with
      | true => (match Nat.blt t 31 with
       | true => (match Nat.beq t 30 with
        | true => some ⟨.slice 51, 1, 24, [.slice none 0 0], false, []⟩
        | false => none)
       | false => (match Nat.blt t 32 with
        | true => (match Nat.beq t 31 with
         | true => some ⟨.other, 1, 8, [.nilFunc], false, []⟩
         | false => none)
        | false => (match Nat.beq t 32 with
         | true => some ⟨.other, 1, 8, [.nilFunc], false, []⟩
         | false => none)))
      | false => (match Nat.blt t 34 with
       | true => (match Nat.beq t 33 with
        | true => some ⟨.other, 1, 8, [.nilFunc], false, []⟩
        | false => none)
       | false => (match Nat.blt t 35 with
        | true => (match Nat.beq t 34 with
         | true => some ⟨.other, 1, 8, [.nilFunc], false, []⟩
         | false => none)
        | false => (match Nat.beq t 35 with
         | true => some ⟨.slice 77, 1, 24, [.slice none 0 0], false, []⟩
         | false => none))))
     | false => (match Nat.blt t 39 with
      | true => (match Nat.blt t 37 with
       | true => (match Nat.beq t 36 with
        | true => some ⟨.int .u16, 1, 2, [.int .u16 0], false, []⟩
        | false => none)
       | false => (match Nat.blt t 38 with
        | true => (match Nat.beq t 37 with
         | true => some ⟨.other, 1, 8, [.nilFunc], false, []⟩
         | false => none)
        | false => (match Nat.beq t 38 with
         | true => some ⟨.other, 1, 8, [.nilFunc], false, []⟩
         | false => none)))
      | false => (match Nat.blt t 41 with
       | true => (match Nat.blt t 40 with
        | true => (match Nat.beq t 39 with
         | true => some ⟨.other, 1, 8, [.nilFunc], false, []⟩
         | false => none)
        | false => (match Nat.beq t 40 with
         | true => some ⟨.other, 1, 8, [.nilFunc], false, []⟩
         | false => none))
       | false => (match Nat.blt t 42 with
        | true => (match Nat.beq t 41 with
         | true => some ⟨.other, 1, 8, [.nilFunc], false, []⟩
         | false => none)
        | false => (match Nat.beq t 42 with
         | true => some ⟨.slice 45, 1, 24, [.slice none 0 0], false, []⟩
         | false => none)))))
    | false => (match Nat.blt t 50 with
     | true => (match Nat.blt t 46 with
      | true => (match Nat.blt t 44 with
       | true => (match Nat.beq t 43 with
        | true => some ⟨.other, 1, 8, [.nilFunc], false, []⟩
        | false => none)
       | false => (match Nat.blt t 45 with
        | true => (match Nat.beq t 44 with
         | true => some ⟨.struct [(0, 24), (1, 23)], 2, 48, [.slice none 0 0, .slice none 0 0], true, []⟩
         | false => none)
        | false => (match Nat.beq t 45 with
         | true => some ⟨.struct [(0, 24), (1, 23)], 2, 48, [.slice none 0 0, .slice none 0 0], true, []⟩
         | false => none)))
      | false => (match Nat.blt t 48 with
       | true => (match Nat.blt t 47 with
        | true => (match Nat.beq t 46 with
         | true => some ⟨.other, 1, 8, [.nilFunc], false, []⟩
         | false => none)
        | false => (match Nat.beq t 47 with
         | true => some ⟨.other, 1, 8, [.nilFunc], false, []⟩
         | false => none))
       | false => (match Nat.blt t 49 with
        | true => (match Nat.beq t 48 with
         | true => some ⟨.other, 1, 8, [.nilFunc], false, []⟩
         | false => none)
        | false => (match Nat.beq t 49 with
         | true => some ⟨.other, 1, 8, [.nilFunc], false, []⟩
         | false => none))))
     | false => (match Nat.blt t 53 with
      | true => (match Nat.blt t 51 with
       | true => (match Nat.beq t 50 with
        | true => some ⟨.struct [(0, 3), (1, 3)], 2, 16, [.int .i64 0, .int .i64 0], true, [.int, .int]⟩
        | false => none)
       | false => (match Nat.blt t 52 with
        | true => (match Nat.beq t 51 with
         | true => some ⟨.struct [(0, 3), (1, 3)], 2, 16, [.int .i64 0, .int .i64 0], true, [.int, .int]⟩
         | false => none)
        | false => (match Nat.beq t 52 with
         | true => some ⟨.struct [(0, 51), (2, 23)], 3, 40, [.int .i64 0, .int .i64 0, .slice none 0 0], true, []⟩
         | false => none)))
      | false => (match Nat.blt t 55 with
       | true => (match Nat.blt t 54 with
        | true => (match Nat.beq t 53 with
         | true => some ⟨.struct [(0, 51), (2, 23)], 3, 40, [.int .i64 0, .int .i64 0, .slice none 0 0], true, []⟩
         | false => none)
        | false => (match Nat.beq t 54 with
         | true => some ⟨.other, 1, 8, [.nilFunc], false, []⟩
         | false => none))
       | false => (match Nat.blt t 56 with
        | true => (match Nat.beq t 55 with
         | true => some ⟨.other, 1, 8, [.nilFunc], false, []⟩
         | false => none)
        | false => (match Nat.beq t 56 with
         | true => some ⟨.struct [(0, 24), (1, 51), (3, 23)], 4, 64, [.slice none 0 0, .int .i64 0, .int .i64 0, .slice none 0 0], true, []⟩
         | false => none)))))))
  | false => (match Nat.blt t 85 with
   | true => (match Nat.blt t 71 with
    | true => (match Nat.blt t 64 with
     | true => (match Nat.blt t 60 with
      | true => (match Nat.blt t 58 with
       | true => (match Nat.beq t 57 with
        | true => some ⟨.struct [(0, 24), (1, 51), (3, 23)], 4, 64, [.slice none 0 0, .int .i64 0, .int .i64 0, .slice none 0 0], true, []⟩
        | false => none)
       | false => (match Nat.blt t 59 with
        | true => (match Nat.beq t 58 with
         | true => some ⟨.other, 1, 8, [.nilFunc], false, []⟩
         | false => none)
        | false => (match Nat.beq t 59 with
         | true => some ⟨.other, 1, 8, [.nilFunc], false, []⟩
         | false => none)))
      | false => (match Nat.blt t 61 with
       | true => (match Nat.beq t 60 with
        | true => some ⟨.other, 1, 8, [.nilFunc], false, []⟩
        | false => none)
       | false => (match Nat.blt t 63 with
        | true => (match Nat.beq t 61 with
         | true => some ⟨.other, 1, 8, [.nilFunc], false, []⟩
         | false => none)
        | false => (match Nat.beq t 63 with
         | true => some ⟨.other, 1, 8, [.nilFunc], false, []⟩
         | false => none))))
     | false => (match Nat.blt t 67 with
      | true => (match Nat.blt t 65 with
       | true => (match Nat.beq t 64 with
        | true => some ⟨.other, 1, 8, [.nilFunc], false, []⟩
        | false => none)
       | false => (match Nat.blt t 66 with
        | true => (match Nat.beq t 65 with
         | true => some ⟨.other, 1, 8, [.nilFunc], false, []⟩
         | false => none)
        | false => (match Nat.beq t 66 with
         | true => some ⟨.other, 1, 8, [.nilFunc], false, []⟩
         | false => none)))
      | false => (match Nat.blt t 69 with
       | true => (match Nat.blt t 68 with
        | true => (match Nat.beq t 67 with
         | true => some ⟨.other, 1, 8, [.nilFunc], false, []⟩
         | false => none)
        | false => (match Nat.beq t 68 with
         | true => some ⟨.map 9 30, 1, 8, [.map none], false, []⟩
         | false => none))
       | false => (match Nat.blt t 70 with
        | true => (match Nat.beq t 69 with
         | true => some ⟨.slice 72, 1, 24, [.slice none 0 0], false, []⟩
         | false => none)
        | false => (match Nat.beq t 70 with
         | true => some ⟨.other, 1, 8, [.nilFunc], false, []⟩
         | false => none)))))
    | false => (match Nat.blt t 78 with
     | true => (match Nat.blt t 74 with
      | true => (match Nat.blt t 72 with
       | true => (match Nat.beq t 71 with
        | true => some ⟨.struct [(0, 24), (1, 22)], 2, 48, [.slice none 0 0, .slice none 0 0], true, []⟩
        | false => none)
       | false => (match Nat.blt t 73 with
        | true => (match Nat.beq t 72 with
         | true => some ⟨.struct [(0, 24), (1, 22)], 2, 48, [.slice none 0 0, .slice none 0 0], true, []⟩
         | false => none)
        | false => (match Nat.beq t 73 with
         | true => some ⟨.other, 1, 8, [.nilFunc], false, []⟩
         | false => none)))
      | false => (match Nat.blt t 76 with
       | true => (match Nat.blt t 75 with
        | true => (match Nat.beq t 74 with
         | true => some ⟨.other, 1, 8, [.nilFunc], false, []⟩
         | false => none)
        | false => (match Nat.beq t 75 with
         | true => some ⟨.other, 1, 8, [.nilFunc], false, []⟩
         | false => none))
       | false => (match Nat.blt t 77 with
        | true => (match Nat.beq t 76 with
         | true => some ⟨.other, 1, 8, [.nilFunc], false, []⟩
         | false => none)
        | false => (match Nat.beq t 77 with
         | true => some ⟨.array 5 36, 5, 10, [.int .u16 0, .int .u16 0, .int .u16 0, .int .u16 0, .int .u16 0], true, []⟩
         | false => none))))
     | false => (match Nat.blt t 81 with
      | true => (match Nat.blt t 79 with
       | true => (match Nat.beq t 78 with
        | true => some ⟨.slice 23, 1, 24, [.slice none 0 0], false, []⟩
        | false => none)
       | false => (match Nat.blt t 80 with
        | true => (match Nat.beq t 79 with
         | true => some ⟨.struct [(0, 3), (1, 2), (2, 9)], 3, 32, [.int .i64 0, .int .i64 0, .string ⟨#[]⟩], true, [.int, .int, .str]⟩
         | false => none)
        | false => (match Nat.beq t 80 with
         | true => some ⟨.struct [(0, 3), (1, 2), (2, 9)], 3, 32, [.int .i64 0, .int .i64 0, .string ⟨#[]⟩], true, [.int, .int, .str]⟩
         | false => none)))
      | false => (match Nat.blt t 83 with
       | true => (match Nat.blt t 82 with
        | true => (match Nat.beq t 81 with
         | true => some ⟨.other, 1, 8, [.nilFunc], false, []⟩
         | false => none)
        | false => (match Nat.beq t 82 with
         | true => some ⟨.other, 1, 8, [.nilFunc], false, []⟩
         | false => none))
       | false => (match Nat.blt t 84 with
        | true => (match Nat.beq t 83 with
         | true => some ⟨.other, 1, 8, [.nilFunc], false, []⟩
         | false => none)
        | false => (match Nat.beq t 84 with
         | true => some ⟨.other, 1, 8, [.nilFunc], false, []⟩
         | false => none))))))
   | false => (match Nat.blt t 99 with
    | true => (match Nat.blt t 92 with
     | true => (match Nat.blt t 88 with
      | true => (match Nat.blt t 86 with
       | true => (match Nat.beq t 85 with
        | true => some ⟨.other, 1, 8, [.nilFunc], false, []⟩
        | false => none)
       | false => (match Nat.blt t 87 with
        | true => (match Nat.beq t 86 with
         | true => some ⟨.other, 1, 8, [.nilFunc], false, []⟩
         | false => none)
        | false => (match Nat.beq t 87 with
         | true => some ⟨.other, 1, 8, [.nilFunc], false, []⟩
         | false => none)))
      | false => (match Nat.blt t 89 with
       | true => (match Nat.beq t 88 with
        | true => some ⟨.other, 1, 8, [.nilFunc], false, []⟩
        | false => none)
       | false => (match Nat.blt t 90 with
        | true => (match Nat.beq t 89 with
         | true => some ⟨.other, 1, 8, [.nilFunc], false, []⟩
         | false => none)
        | false => (match Nat.beq t 90 with
         | true => some ⟨.other, 1, 8, [.nilFunc], false, []⟩
         | false => none))))
     | false => (match Nat.blt t 95 with
      | true => (match Nat.blt t 93 with
       | true => (match Nat.beq t 92 with
        | true => some ⟨.other, 1, 8, [.nilFunc], false, []⟩
        | false => none)
       | false => (match Nat.blt t 94 with
        | true => (match Nat.beq t 93 with
         | true => some ⟨.other, 1, 8, [.nilFunc], false, []⟩
         | false => none)
        | false => (match Nat.beq t 94 with
         | true => some ⟨.other, 1, 8, [.nilFunc], false, []⟩
         | false => none)))
      | false => (match Nat.blt t 97 with
       | true => (match Nat.blt t 96 with
        | true => (match Nat.beq t 95 with
         | true => some ⟨.other, 1, 8, [.nilFunc], false, []⟩
         | false => none)
        | false => (match Nat.beq t 96 with
         | true => some ⟨.other, 1, 8, [.nilFunc], false, []⟩
         | false => none))
       | false => (match Nat.blt t 98 with
        | true => (match Nat.beq t 97 with
         | true => some ⟨.other, 1, 8, [.nilFunc], false, []⟩
         | false => none)
        | false => (match Nat.beq t 98 with
         | true => some ⟨.other, 1, 8, [.nilFunc], false, []⟩
         | false => none)))))
    | false => (match Nat.blt t 106 with
     | true => (match Nat.blt t 102 with
      | true => (match Nat.blt t 100 with
       | true => (match Nat.beq t 99 with
        | true => some ⟨.map 9 3, 1, 8, [.map none], false, []⟩
        | false => none)
       | false => (match Nat.blt t 101 with
        | true => (match Nat.beq t 100 with
         | true => some ⟨.other, 1, 8, [.nilFunc], false, []⟩
         | false => none)
        | false => (match Nat.beq t 101 with
         | true => some ⟨.other, 1, 8, [.nilFunc], false, []⟩
         | false => none)))
      | false => (match Nat.blt t 104 with
       | true => (match Nat.blt t 103 with
        | true => (match Nat.beq t 102 with
         | true => some ⟨.other, 1, 8, [.pointer none], false, []⟩
         | false => none)
        | false => (match Nat.beq t 103 with
         | true => some ⟨.slice 5, 1, 24, [.slice none 0 0], false, []⟩
         | false => none))
       | false => (match Nat.blt t 105 with
        | true => (match Nat.beq t 104 with
         | true => some ⟨.struct [(0, 102), (1, 103)], 2, 32, [.pointer none, .slice none 0 0], true, []⟩
         | false => none)
        | false => (match Nat.beq t 105 with
         | true => some ⟨.struct [(0, 102), (1, 103)], 2, 32, [.pointer none, .slice none 0 0], true, []⟩
         | false => none))))
     | false => (match Nat.blt t 110 with
      | true => (match Nat.blt t 107 with
       | true => (match Nat.beq t 106 with
        | true => some ⟨.other, 1, 16, [.nilIface], false, []⟩
        | false => none)
       | false => (match Nat.blt t 109 with
        | true => (match Nat.beq t 107 with
         | true => some ⟨.other, 1, 16, [.nilIface], false, []⟩
         | false => none)
        | false => (match Nat.beq t 109 with
         | true => some ⟨.other, 1, 8, [.nilFunc], false, []⟩
         | false => none)))
      | false => (match Nat.blt t 112 with
       | true => (match Nat.blt t 111 with
        | true => (match Nat.beq t 110 with
         | true => some ⟨.other, 1, 8, [.nilFunc], false, []⟩
         | false => none)
        | false => (match Nat.beq t 111 with
         | true => some ⟨.other, 1, 8, [.nilFunc], false, []⟩
         | false => none))
       | false => (match Nat.blt t 113 with
        | true => (match Nat.beq t 112 with
         | true => some ⟨.other, 1, 8, [.nilFunc], false, []⟩
         | false => none)
        | false => (match Nat.beq t 113 with
         | true => some ⟨.other, 1, 8, [.nilFunc], false, []⟩
         | false => none))))))))
 | false => (match Nat.blt t 170 with
  | true => (match Nat.blt t 141 with
   | true => (match Nat.blt t 127 with
    | true => (match Nat.blt t 120 with
     | true => (match Nat.blt t 117 with
      | true => (match Nat.blt t 115 with
       | true => (match Nat.beq t 114 with
        | true => some ⟨.other, 1, 8, [.nilFunc], false, []⟩
        | false => none)
       | false => (match Nat.blt t 116 with
        | true => (match Nat.beq t 115 with
         | true => some ⟨.other, 1, 8, [.nilFunc], false, []⟩
         | false => none)
        | false => (match Nat.beq t 116 with
         | true => some ⟨.other, 1, 8, [.nilFunc], false, []⟩
         | false => none)))
      | false => (match Nat.blt t 118 with
       | true => (match Nat.beq t 117 with
        | true => some ⟨.other, 1, 8, [.nilFunc], false, []⟩
        | false => none)
       | false => (match Nat.blt t 119 with
        | true => (match Nat.beq t 118 with
         | true => some ⟨.slice 9, 1, 24, [.slice none 0 0], false, []⟩
         | false => none)
        | false => (match Nat.beq t 119 with
         | true => some ⟨.other, 1, 8, [.nilFunc], false, []⟩
         | false => none))))
     | false => (match Nat.blt t 123 with
      | true => (match Nat.blt t 121 with
       | true => (match Nat.beq t 120 with
        | true => some ⟨.other, 1, 8, [.nilFunc], false, []⟩
        | false => none)
       | false => (match Nat.blt t 122 with
        | true => (match Nat.beq t 121 with
         | true => some ⟨.other, 1, 8, [.nilFunc], false, []⟩
         | false => none)
        | false => (match Nat.beq t 122 with
         | true => some ⟨.other, 1, 8, [.nilFunc], false, []⟩
         | false => none)))
      | false => (match Nat.blt t 125 with
       | true => (match Nat.blt t 124 with
        | true => (match Nat.beq t 123 with
         | true => some ⟨.other, 1, 8, [.nilFunc], false, []⟩
         | false => none)
        | false => (match Nat.beq t 124 with
         | true => some ⟨.int .u64, 1, 8, [.int .u64 0], false, []⟩
         | false => none))
       | false => (match Nat.blt t 126 with
        | true => (match Nat.beq t 125 with
         | true => some ⟨.other, 1, 8, [.nilFunc], false, []⟩
         | false => none)
        | false => (match Nat.beq t 126 with
         | true => some ⟨.slice 129, 1, 24, [.slice none 0 0], false, []⟩
         | false => none)))))
    | false => (match Nat.blt t 134 with
     | true => (match Nat.blt t 130 with
      | true => (match Nat.blt t 128 with
       | true => (match Nat.beq t 127 with
        | true => some ⟨.other, 1, 8, [.nilFunc], false, []⟩
        | false => none)
       | false => (match Nat.blt t 129 with
        | true => (match Nat.beq t 128 with
         | true => some ⟨.struct [(0, 24), (1, 42), (2, 23)], 3, 72, [.slice none 0 0, .slice none 0 0, .slice none 0 0], true, []⟩
         | false => none)
        | false => (match Nat.beq t 129 with
         | true => some ⟨.struct [(0, 24), (1, 42), (2, 23)], 3, 72, [.slice none 0 0, .slice none 0 0, .slice none 0 0], true, []⟩
         | false => none)))
      | false => (match Nat.blt t 132 with
       | true => (match Nat.blt t 131 with
        | true => (match Nat.beq t 130 with
         | true => some ⟨.array 2 23, 2, 48, [.slice none 0 0, .slice none 0 0], true, []⟩
         | false => none)
        | false => (match Nat.beq t 131 with
         | true => some ⟨.other, 1, 8, [.nilFunc], false, []⟩
         | false => none))
       | false => (match Nat.blt t 133 with
        | true => (match Nat.beq t 132 with
         | true => some ⟨.other, 1, 8, [.nilFunc], false, []⟩
         | false => none)
        | false => (match Nat.beq t 133 with
         | true => some ⟨.other, 1, 8, [.nilFunc], false, []⟩
         | false => none))))
     | false => (match Nat.blt t 137 with
      | true => (match Nat.blt t 135 with
       | true => (match Nat.beq t 134 with
        | true => some ⟨.other, 1, 8, [.nilFunc], false, []⟩
        | false => none)
       | false => (match Nat.blt t 136 with
        | true => (match Nat.beq t 135 with
         | true => some ⟨.other, 1, 8, [.nilFunc], false, []⟩
         | false => none)
        | false => (match Nat.beq t 136 with
         | true => some ⟨.other, 1, 8, [.nilFunc], false, []⟩
         | false => none)))
      | false => (match Nat.blt t 139 with
       | true => (match Nat.blt t 138 with
        | true => (match Nat.beq t 137 with
         | true => some ⟨.other, 1, 8, [.nilFunc], false, []⟩
         | false => none)
        | false => (match Nat.beq t 138 with
         | true => some ⟨.other, 1, 8, [.pointer none], false, []⟩
         | false => none))
       | false => (match Nat.blt t 140 with
        | true => (match Nat.beq t 139 with
         | true => some ⟨.other, 1, 8, [.nilFunc], false, []⟩
         | false => none)
        | false => (match Nat.beq t 140 with
         | true => some ⟨.other, 1, 8, [.nilFunc], false, []⟩
         | false => none))))))
   | false => (match Nat.blt t 156 with
    | true => (match Nat.blt t 148 with
     | true => (match Nat.blt t 145 with
      | true => (match Nat.blt t 142 with
       | true => (match Nat.beq t 141 with
        | true => some ⟨.other, 1, 8, [.nilFunc], false, []⟩
        | false => none)
       | false => (match Nat.blt t 143 with
        | true => (match Nat.beq t 142 with
         | true => some ⟨.other, 1, 8, [.nilFunc], false, []⟩
         | false => none)
        | false => (match Nat.beq t 143 with
         | true => some ⟨.other, 1, 8, [.nilFunc], false, []⟩
         | false => none)))
      | false => (match Nat.blt t 146 with
       | true => (match Nat.beq t 145 with
        | true => some ⟨.other, 1, 8, [.nilFunc], false, []⟩
        | false => none)
       | false => (match Nat.blt t 147 with
        | true => (match Nat.beq t 146 with
         | true => some ⟨.other, 1, 8, [.nilFunc], false, []⟩
         | false => none)
        | false => (match Nat.beq t 147 with
         | true => some ⟨.other, 1, 8, [.nilFunc], false, []⟩
         | false => none))))
     | false => (match Nat.blt t 151 with
      | true => (match Nat.blt t 149 with
       | true => (match Nat.beq t 148 with
        | true => some ⟨.other, 1, 8, [.nilFunc], false, []⟩
        | false => none)
       | false => (match Nat.blt t 150 with
        | true => (match Nat.beq t 149 with
         | true => some ⟨.other, 1, 8, [.nilFunc], false, []⟩
         | false => none)
        | false => (match Nat.beq t 150 with
         | true => some ⟨.other, 1, 8, [.nilFunc], false, []⟩
         | false => none)))
      | false => (match Nat.blt t 153 with
       | true => (match Nat.blt t 152 with
        | true => (match Nat.beq t 151 with
         | true => some ⟨.other, 1, 8, [.nilFunc], false, []⟩
         | false => none)
        | false => (match Nat.beq t 152 with
         | true => some ⟨.other, 1, 8, [.nilFunc], false, []⟩
         | false => none))
       | false => (match Nat.blt t 155 with
        | true => (match Nat.beq t 153 with
         | true => some ⟨.int .i64, 1, 8, [.int .i64 0], false, []⟩
         | false => none)
        | false => (match Nat.beq t 155 with
         | true => some ⟨.other, 1, 8, [.nilFunc], false, []⟩
         | false => none)))))
    | false => (match Nat.blt t 163 with
     | true => (match Nat.blt t 159 with
      | true => (match Nat.blt t 157 with
       | true => (match Nat.beq t 156 with
        | true => some ⟨.other, 1, 8, [.nilFunc], false, []⟩
        | false => none)
       | false => (match Nat.blt t 158 with
        | true => (match Nat.beq t 157 with
         | true => some ⟨.other, 1, 8, [.nilFunc], false, []⟩
         | false => none)
        | false => (match Nat.beq t 158 with
         | true => some ⟨.other, 1, 8, [.nilFunc], false, []⟩
         | false => none)))
      | false => (match Nat.blt t 161 with
       | true => (match Nat.blt t 160 with
        | true => (match Nat.beq t 159 with
         | true => some ⟨.other, 1, 8, [.nilFunc], false, []⟩
         | false => none)
        | false => (match Nat.beq t 160 with
         | true => some ⟨.int .u32, 1, 4, [.int .u32 0], false, []⟩
         | false => none))
       | false => (match Nat.blt t 162 with
        | true => (match Nat.beq t 161 with
         | true => some ⟨.other, 1, 8, [.nilFunc], false, []⟩
         | false => none)
        | false => (match Nat.beq t 162 with
         | true => some ⟨.int .u64, 1, 8, [.int .u64 0], false, []⟩
         | false => none))))
     | false => (match Nat.blt t 166 with
      | true => (match Nat.blt t 164 with
       | true => (match Nat.beq t 163 with
        | true => some ⟨.other, 1, 8, [.nilFunc], false, []⟩
        | false => none)
       | false => (match Nat.blt t 165 with
        | true => (match Nat.beq t 164 with
         | true => some ⟨.other, 1, 8, [.nilFunc], false, []⟩
         | false => none)
        | false => (match Nat.beq t 165 with
         | true => some ⟨.other, 1, 8, [.nilFunc], false, []⟩
         | false => none)))
      | false => (match Nat.blt t 168 with
       | true => (match Nat.blt t 167 with
        | true => (match Nat.beq t 166 with
         | true => some ⟨.other, 1, 8, [.nilFunc], false, []⟩
         | false => none)
        | false => (match Nat.beq t 167 with
         | true => some ⟨.other, 1, 8, [.nilFunc], false, []⟩
         | false => none))
       | false => (match Nat.blt t 169 with
        | true => (match Nat.beq t 168 with
         | true => some ⟨.other, 1, 8, [.pointer none], false, []⟩
         | false => none)
        | false => (match Nat.beq t 169 with
         | true => some ⟨.other, 1, 8, [.nilFunc], false, []⟩
         | false => none)))))))
  | false => (match Nat.blt t 199 with
   | true => (match Nat.blt t 184 with
    | true => (match Nat.blt t 177 with
     | true => (match Nat.blt t 174 with
      | true => (match Nat.blt t 171 with
       | true => (match Nat.beq t 170 with
        | true => some ⟨.array 24 5, 24, 24, [.int .u8 0, .int .u8 0, .int .u8 0, .int .u8 0, .int .u8 0, .int .u8 0, .int .u8 0, .int .u8 0, .int .u8 0, .int .u8 0, .int .u8 0, .int .u8 0, .int .u8 0, .int .u8 0, .int .u8 0, .int .u8 0, .int .u8 0, .int .u8 0, .int .u8 0, .int .u8 0, .int .u8 0, .int .u8 0, .int .u8 0, .int .u8 0], true, []⟩
        | false => none)
       | false => (match Nat.blt t 173 with
        | true => (match Nat.beq t 171 with
         | true => some ⟨.other, 1, 8, [.nilFunc], false, []⟩
         | false => none)
        | false => (match Nat.beq t 173 with
         | true => some ⟨.other, 1, 8, [.nilFunc], false, []⟩
         | false => none)))
      | false => (match Nat.blt t 175 with
       | true => (match Nat.beq t 174 with
        | true => some ⟨.other, 1, 8, [.nilFunc], false, []⟩
        | false => none)
       | false => (match Nat.blt t 176 with
        | true => (match Nat.beq t 175 with
         | true => some ⟨.other, 1, 8, [.nilFunc], false, []⟩
         | false => none)
        | false => (match Nat.beq t 176 with
         | true => some ⟨.other, 1, 8, [.nilFunc], false, []⟩
         | false => none))))
     | false => (match Nat.blt t 180 with
      | true => (match Nat.blt t 178 with
       | true => (match Nat.beq t 177 with
        | true => some ⟨.other, 1, 8, [.nilFunc], false, []⟩
        | false => none)
       | false => (match Nat.blt t 179 with
        | true => (match Nat.beq t 178 with
         | true => some ⟨.other, 1, 8, [.nilFunc], false, []⟩
         | false => none)
        | false => (match Nat.beq t 179 with
         | true => some ⟨.other, 1, 8, [.nilFunc], false, []⟩
         | false => none)))
      | false => (match Nat.blt t 182 with
       | true => (match Nat.blt t 181 with
        | true => (match Nat.beq t 180 with
         | true => some ⟨.other, 1, 8, [.nilFunc], false, []⟩
         | false => none)
        | false => (match Nat.beq t 181 with
         | true => some ⟨.other, 1, 8, [.nilFunc], false, []⟩
         | false => none))
       | false => (match Nat.blt t 183 with
        | true => (match Nat.beq t 182 with
         | true => some ⟨.other, 1, 8, [.nilFunc], false, []⟩
         | false => none)
        | false => (match Nat.beq t 183 with
         | true => some ⟨.other, 1, 8, [.nilFunc], false, []⟩
         | false => none)))))
    | false => (match Nat.blt t 191 with
     | true => (match Nat.blt t 187 with
      | true => (match Nat.blt t 185 with
       | true => (match Nat.beq t 184 with
        | true => some ⟨.other, 1, 8, [.nilFunc], false, []⟩
        | false => none)
       | false => (match Nat.blt t 186 with
        | true => (match Nat.beq t 185 with
         | true => some ⟨.other, 1, 8, [.nilFunc], false, []⟩
         | false => none)
        | false => (match Nat.beq t 186 with
         | true => some ⟨.other, 1, 8, [.nilFunc], false, []⟩
         | false => none)))
      | false => (match Nat.blt t 189 with
       | true => (match Nat.blt t 188 with
        | true => (match Nat.beq t 187 with
         | true => some ⟨.int .u64, 1, 8, [.int .u64 0], false, []⟩
         | false => none)
        | false => (match Nat.beq t 188 with
         | true => some ⟨.other, 1, 8, [.nilFunc], false, []⟩
         | false => none))
       | false => (match Nat.blt t 190 with
        | true => (match Nat.beq t 189 with
         | true => some ⟨.other, 1, 8, [.nilFunc], false, []⟩
         | false => none)
        | false => (match Nat.beq t 190 with
         | true => some ⟨.other, 1, 8, [.nilFunc], false, []⟩
         | false => none))))
     | false => (match Nat.blt t 194 with
      | true => (match Nat.blt t 192 with
       | true => (match Nat.beq t 191 with
        | true => some ⟨.other, 1, 8, [.pointer none], false, []⟩
        | false => none)
       | false => (match Nat.blt t 193 with
        | true => (match Nat.beq t 192 with
         | true => some ⟨.other, 1, 8, [.nilFunc], false, []⟩
         | false => none)
        | false => (match Nat.beq t 193 with
         | true => some ⟨.other, 1, 8, [.nilFunc], false, []⟩
         | false => none)))
      | false => (match Nat.blt t 196 with
       | true => (match Nat.blt t 195 with
        | true => (match Nat.beq t 194 with
         | true => some ⟨.other, 1, 8, [.nilFunc], false, []⟩
         | false => none)
        | false => (match Nat.beq t 195 with
         | true => some ⟨.other, 1, 8, [.nilFunc], false, []⟩
         | false => none))
       | false => (match Nat.blt t 197 with
        | true => (match Nat.beq t 196 with
         | true => some ⟨.other, 1, 8, [.nilFunc], false, []⟩
         | false => none)
        | false => (match Nat.beq t 197 with
         | true => some ⟨.array 20 162, 20, 160, [.int .u64 0, .int .u64 0, .int .u64 0, .int .u64 0, .int .u64 0, .int .u64 0, .int .u64 0, .int .u64 0, .int .u64 0, .int .u64 0, .int .u64 0, .int .u64 0, .int .u64 0, .int .u64 0, .int .u64 0, .int .u64 0, .int .u64 0, .int .u64 0, .int .u64 0, .int .u64 0], true, []⟩
         | false => none))))))
   | false => (match Nat.blt t 214 with
    | true => (match Nat.blt t 206 with
     | true => (match Nat.blt t 202 with
      | true => (match Nat.blt t 200 with
       | true => (match Nat.beq t 199 with
        | true => some ⟨.other, 1, 8, [.nilFunc], false, []⟩
        | false => none)
       | false => (match Nat.blt t 201 with
        | true => (match Nat.beq t 200 with
         | true => some ⟨.other, 1, 8, [.nilFunc], false, []⟩
         | false => none)
        | false => (match Nat.beq t 201 with
         | true => some ⟨.other, 1, 8, [.nilFunc], false, []⟩
         | false => none)))
      | false => (match Nat.blt t 204 with
       | true => (match Nat.blt t 203 with
        | true => (match Nat.beq t 202 with
         | true => some ⟨.other, 1, 8, [.nilFunc], false, []⟩
         | false => none)
        | false => (match Nat.beq t 203 with
         | true => some ⟨.other, 1, 8, [.nilFunc], false, []⟩
         | false => none))
       | false => (match Nat.blt t 205 with
        | true => (match Nat.beq t 204 with
         | true => some ⟨.other, 1, 8, [.nilFunc], false, []⟩
         | false => none)
        | false => (match Nat.beq t 205 with
         | true => some ⟨.other, 1, 8, [.nilFunc], false, []⟩
         | false => none))))
     | false => (match Nat.blt t 210 with
      | true => (match Nat.blt t 208 with
       | true => (match Nat.beq t 206 with
        | true => some ⟨.other, 1, 8, [.pointer none], false, []⟩
        | false => none)
       | false => (match Nat.blt t 209 with
        | true => (match Nat.beq t 208 with
         | true => some ⟨.other, 1, 8, [.nilFunc], false, []⟩
         | false => none)
        | false => (match Nat.beq t 209 with
         | true => some ⟨.other, 1, 8, [.nilFunc], false, []⟩
         | false => none)))
      | false => (match Nat.blt t 212 with
       | true => (match Nat.blt t 211 with
        | true => (match Nat.beq t 210 with
         | true => some ⟨.other, 1, 8, [.nilFunc], false, []⟩
         | false => none)
        | false => (match Nat.beq t 211 with
         | true => some ⟨.other, 1, 8, [.nilFunc], false, []⟩
         | false => none))
       | false => (match Nat.blt t 213 with
        | true => (match Nat.beq t 212 with
         | true => some ⟨.other, 1, 8, [.nilFunc], false, []⟩
         | false => none)
        | false => (match Nat.beq t 213 with
         | true => some ⟨.array 32 5, 32, 32, [.int .u8 0, .int .u8 0, .int .u8 0, .int .u8 0, .int .u8 0, .int .u8 0, .int .u8 0, .int .u8 0, .int .u8 0, .int .u8 0, .int .u8 0, .int .u8 0, .int .u8 0, .int .u8 0, .int .u8 0, .int .u8 0, .int .u8 0, .int .u8 0, .int .u8 0, .int .u8 0, .int .u8 0, .int .u8 0, .int .u8 0, .int .u8 0, .int .u8 0, .int .u8 0, .int .u8 0, .int .u8 0, .int .u8 0, .int .u8 0, .int .u8 0, .int .u8 0], true, []⟩
         | false => none)))))
    | false => (match Nat.blt t 221 with
     | true => (match Nat.blt t 217 with
      | true => (match Nat.blt t 215 with
       | true => (match Nat.beq t 214 with
        | true => some ⟨.array 64 5, 64, 64, [.int .u8 0, .int .u8 0, .int .u8 0, .int .u8 0, .int .u8 0, .int .u8 0, .int .u8 0, .int .u8 0, .int .u8 0, .int .u8 0, .int .u8 0, .int .u8 0, .int .u8 0, .int .u8 0, .int .u8 0, .int .u8 0, .int .u8 0, .int .u8 0, .int .u8 0, .int .u8 0, .int .u8 0, .int .u8 0, .int .u8 0, .int .u8 0, .int .u8 0, .int .u8 0, .int .u8 0, .int .u8 0, .int .u8 0, .int .u8 0, .int .u8 0, .int .u8 0, .int .u8 0, .int .u8 0, .int .u8 0, .int .u8 0, .int .u8 0, .int .u8 0, .int .u8 0, .int .u8 0, .int .u8 0, .int .u8 0, .int .u8 0, .int .u8 0, .int .u8 0, .int .u8 0, .int .u8 0, .int .u8 0, .int .u8 0, .int .u8 0, .int .u8 0, .int .u8 0, .int .u8 0, .int .u8 0, .int .u8 0, .int .u8 0, .int .u8 0, .int .u8 0, .int .u8 0, .int .u8 0, .int .u8 0, .int .u8 0, .int .u8 0, .int .u8 0], true, []⟩
        | false => none)
       | false => (match Nat.blt t 216 with
        | true => (match Nat.beq t 215 with
         | true => some ⟨.struct [(0, 17), (1, 17), (2, 17), (3, 9)], 4, 40, [.pointer none, .pointer none, .pointer none, .string ⟨#[]⟩], true, []⟩
         | false => none)
        | false => (match Nat.beq t 216 with
         | true => some ⟨.struct [(0, 17), (1, 17), (2, 17), (3, 9)], 4, 40, [.pointer none, .pointer none, .pointer none, .string ⟨#[]⟩], true, []⟩
         | false => none)))
      | false => (match Nat.blt t 219 with
       | true => (match Nat.blt t 218 with
        | true => (match Nat.beq t 217 with
         | true => some ⟨.array 0 16, 0, 0, [], true, []⟩
         | false => none)
        | false => (match Nat.beq t 218 with
         | true => some ⟨.struct [(0, 217)], 0, 0, [], true, []⟩
         | false => none))
       | false => (match Nat.blt t 220 with
        | true => (match Nat.beq t 219 with
         | true => some ⟨.struct [(0, 217)], 0, 0, [], true, []⟩
         | false => none)
        | false => (match Nat.beq t 220 with
         | true => some ⟨.other, 1, 8, [.nilFunc], false, []⟩
         | false => none))))
     | false => (match Nat.blt t 224 with
      | true => (match Nat.blt t 222 with
       | true => (match Nat.beq t 221 with
        | true => some ⟨.int .u8, 1, 1, [.int .u8 0], false, []⟩
        | false => none)
       | false => (match Nat.blt t 223 with
        | true => (match Nat.beq t 222 with
         | true => some ⟨.int .u8, 1, 1, [.int .u8 0], false, []⟩
         | false => none)
        | false => (match Nat.beq t 223 with
         | true => some ⟨.other, 1, 8, [.nilFunc], false, []⟩
         | false => none)))
      | false => (match Nat.blt t 226 with
       | true => (match Nat.blt t 225 with
        | true => (match Nat.beq t 224 with
         | true => some ⟨.int .i32, 1, 4, [.int .i32 0], false, []⟩
         | false => none)
        | false => (match Nat.beq t 225 with
         | true => some ⟨.int .i32, 1, 4, [.int .i32 0], false, []⟩
         | false => none))
       | false => (match Nat.blt t 227 with
        | true => (match Nat.beq t 226 with
         | true => some ⟨.struct [(0, 12), (1, 12), (2, 160), (3, 221), (4, 5), (5, 5), (6, 222), (7, 223), (8, 138), (9, 224), (10, 225)], 11, 48, [.int .u64 0, .int .u64 0, .int .u32 0, .int .u8 0, .int .u8 0, .int .u8 0, .int .u8 0, .nilFunc, .pointer none, .int .i32 0, .int .i32 0], true, []⟩
         | false => none)
        | false => (match Nat.beq t 227 with
         | true => some ⟨.struct [(0, 12), (1, 12), (2, 160), (3, 221), (4, 5), (5, 5), (6, 222), (7, 223), (8, 138), (9, 224), (10, 225)], 11, 48, [.int .u64 0, .int .u64 0, .int .u32 0, .int .u8 0, .int .u8 0, .int .u8 0, .int .u8 0, .nilFunc, .pointer none, .int .i32 0, .int .i32 0], true, []⟩
         | false => none)))))))))
def tab : Tab := fun t => if t < 228 then tabRaw t else none
def tups : TypeId → Option (List TypeId)
  | 0 => some []
  | 62 => some [3, 23]
  | 91 => some [3, 4]
  | 108 => some [3, 107]
  | 144 => some [51, 4]
  | 154 => some [3, 153]
  | 172 => some [103, 9]
  | 207 => some [3, 3]
  | _ => none
end Go.Vc
/- Tuples, rows, violations as plain Lean data. -/
namespace Go.Vc
open Go
/- api.Tuple -/
structure Tup where
  vals : List Val
  p : Per
  lin : List Int
deriving DecidableEq
/- a tuple with its key values -/
structure Kd where
  key : List Val
  t : Tup
deriving DecidableEq
/- api.Row -/
structure Rw where
  vals : List Val
  lin : List Int
deriving DecidableEq
/- api.Violation -/
structure Vio where
  p : Per
  ids : List Int
deriving DecidableEq
instance : Rep Tup where
  sz := 4
  byt := 64
  rel H vs v := ∃ A n c B m d, vs = [.slice A n c, .int .i64 v.p.lo, .int .i64 v.p.hi, .slice B m d] ∧ Sl H A n c v.vals ∧ rng .i64 v.p.lo ∧ rng .i64 v.p.hi ∧ Sl H B m d v.lin
  mono := fun hle ⟨A, n, c, B, m, d, h1, h2, h3, h4, h5⟩ => ⟨A, n, c, B, m, d, h1, h2.mono hle, h3, h4, h5.mono hle⟩
  len := fun ⟨A, n, c, B, m, d, h1, _⟩ => by simp [h1]
  pos := by decide
  bpos := by decide
  one := fun ⟨A, n, c, B, m, d, h1, _⟩ => by rw [h1]; simp [Value.oneCell']
instance : Rep Kd where
  sz := 5
  byt := 88
  rel H vs v := ∃ E k e A n c B m d, vs = [.slice E k e, .slice A n c, .int .i64 v.t.p.lo, .int .i64 v.t.p.hi, .slice B m d] ∧ Sl H E k e v.key ∧ Sl H A n c v.t.vals ∧ rng .i64 v.t.p.lo ∧ rng .i64 v.t.p.hi ∧ Sl H B m d v.t.lin
  mono := fun hle ⟨E, k, e, A, n, c, B, m, d, h1, h0, h2, h3, h4, h5⟩ => ⟨E, k, e, A, n, c, B, m, d, h1, h0.mono hle, h2.mono hle, h3, h4, h5.mono hle⟩
  len := fun ⟨E, k, e, A, n, c, B, m, d, h1, _⟩ => by simp [h1]
  pos := by decide
  bpos := by decide
  one := fun ⟨E, k, e, A, n, c, B, m, d, h1, _⟩ => by rw [h1]; simp [Value.oneCell']
instance : Rep Rw where
  sz := 2
  byt := 48
  rel H vs v := ∃ A n c B m d, vs = [.slice A n c, .slice B m d] ∧ Sl H A n c v.vals ∧ Sl H B m d v.lin
  mono := fun hle ⟨A, n, c, B, m, d, h1, h2, h3⟩ => ⟨A, n, c, B, m, d, h1, h2.mono hle, h3.mono hle⟩
  len := fun ⟨A, n, c, B, m, d, h1, _⟩ => by simp [h1]
  pos := by decide
  bpos := by decide
  one := fun ⟨A, n, c, B, m, d, h1, _⟩ => by rw [h1]; simp [Value.oneCell']
instance : Rep Vio where
  sz := 3
  byt := 40
  rel H vs v := ∃ A n c, vs = [.int .i64 v.p.lo, .int .i64 v.p.hi, .slice A n c] ∧ rng .i64 v.p.lo ∧ rng .i64 v.p.hi ∧ Sl H A n c v.ids
  mono := fun hle ⟨A, n, c, h1, h2, h3, h4⟩ => ⟨A, n, c, h1, h2, h3, h4.mono hle⟩
  len := fun ⟨A, n, c, h1, _⟩ => by simp [h1]
  pos := by decide
  bpos := by decide
  one := fun ⟨A, n, c, h1, _⟩ => by rw [h1]; simp [Value.oneCell']
end Go.Vc
/- Sets of points as lists of periods: normal form, its uniqueness, insertion, merging. Plain laws, no program. -/
namespace Go.Vc
abbrev maxT : Int := 1099511627776
def pOk (p : Per) : Bool := decide (0 ≤ p.lo) && decide (p.lo < p.hi) && decide (p.hi ≤ maxT)
theorem pOk_iff {p : Per} : pOk p = true ↔ 0 ≤ p.lo ∧ p.lo < p.hi ∧ p.hi ≤ maxT := by simp [pOk, and_assoc]
def pIn (p : Per) (t : Int) : Bool := pOk p && decide (p.lo ≤ t) && decide (t < p.hi)
theorem pIn_iff {p : Per} {t : Int} : pIn p t = true ↔ (0 ≤ p.lo ∧ p.lo < p.hi ∧ p.hi ≤ maxT) ∧ p.lo ≤ t ∧ t < p.hi := by simp [pIn, pOk, and_assoc]
def inSet (l : List Per) (t : Int) : Bool := l.any fun p => pIn p t
theorem inSet_nil {t : Int} : inSet [] t = false := rfl
theorem inSet_cons {p : Per} {l : List Per} {t : Int} : inSet (p :: l) t = (pIn p t || inSet l t) := rfl
theorem inSet_append {l m : List Per} {t : Int} : inSet (l ++ m) t = (inSet l t || inSet m t) := by simp [inSet]
def nrmGo : Int → List Per → Bool
  | _, [] => true
  | h, p :: r => pOk p && decide (h < p.lo) && nrmGo p.hi r
def nrm (l : List Per) : Bool := nrmGo (-1) l
theorem nrmGo_cons {h : Int} {p : Per} {r : List Per} : nrmGo h (p :: r) = true ↔ (0 ≤ p.lo ∧ p.lo < p.hi ∧ p.hi ≤ maxT) ∧ h < p.lo ∧ nrmGo p.hi r = true := by
  simp [nrmGo, pOk, and_assoc]
theorem nrmGo_mono {h k : Int} : ∀ {l : List Per}, nrmGo h l = true → k ≤ h → nrmGo k l = true
  | [], _, _ => rfl
  | p :: r, h1, h2 => by
    rw [nrmGo_cons] at h1 ⊢
    exact ⟨h1.1, by omega, h1.2.2⟩
theorem nrmGo_gt {t : Int} : ∀ {l : List Per} {h : Int}, nrmGo h l = true → inSet l t = true → h < t
  | [], _, _, h => by simp [inSet] at h
  | p :: r, h, h1, h2 => by
    rw [nrmGo_cons] at h1
    rw [inSet_cons, Bool.or_eq_true] at h2
    rcases h2 with h2 | h2
    · rw [pIn_iff] at h2; omega
    · have := nrmGo_gt h1.2.2 h2; omega
theorem nrmGo_ok : ∀ {l : List Per} {h : Int}, nrmGo h l = true → ∀ p ∈ l, h < p.lo ∧ 0 ≤ p.lo ∧ p.lo < p.hi ∧ p.hi ≤ maxT
  | q :: r, h, h1, p, hp => by
    rw [nrmGo_cons] at h1
    rcases List.mem_cons.1 hp with rfl | hp
    · omega
    · have := nrmGo_ok h1.2.2 p hp; omega
/- two lists in normal form that denote one set are one list -/
theorem nrm_ext : ∀ {a b : List Per} {h k : Int}, nrmGo h a = true → nrmGo k b = true → (∀ t, inSet a t = inSet b t) → a = b
  | [], [], _, _, _, _, _ => rfl
  | [], q :: s, _, k, _, hb, he => by
    rw [nrmGo_cons] at hb
    have := he q.lo
    rw [inSet_nil, inSet_cons, show pIn q q.lo = true from pIn_iff.2 (by omega)] at this
    simp at this
  | p :: r, [], h, _, ha, _, he => by
    rw [nrmGo_cons] at ha
    have := he p.lo
    rw [inSet_nil, inSet_cons, show pIn p p.lo = true from pIn_iff.2 (by omega)] at this
    simp at this
  | p :: r, q :: s, h, k, ha, hb, he => by
    rw [nrmGo_cons] at ha hb
    have key : ∀ (x y : Per) (u v : List Per), (0 ≤ x.lo ∧ x.lo < x.hi ∧ x.hi ≤ maxT) → (0 ≤ y.lo ∧ y.lo < y.hi ∧ y.hi ≤ maxT) → nrmGo x.hi u = true → nrmGo y.hi v = true → (∀ t, inSet (x :: u) t = inSet (y :: v) t) → y.lo ≤ x.lo := by
      intro x y u v hx hy hu hv hxy
      have h1 := hxy x.lo
      rw [inSet_cons, show pIn x x.lo = true from pIn_iff.2 (by omega), Bool.true_or] at h1
      have h1 := h1.symm
      rw [inSet_cons, Bool.or_eq_true] at h1
      rcases h1 with h1 | h1
      · rw [pIn_iff] at h1; omega
      · have := nrmGo_gt hv h1; omega
    have e1 : p.lo = q.lo := Int.le_antisymm (key q p s r hb.1 ha.1 hb.2.2 ha.2.2 fun t => (he t).symm) (key p q r s ha.1 hb.1 ha.2.2 hb.2.2 he)
    have key2 : ∀ (x y : Per) (u v : List Per), (0 ≤ x.lo ∧ x.lo < x.hi ∧ x.hi ≤ maxT) → (0 ≤ y.lo ∧ y.lo < y.hi ∧ y.hi ≤ maxT) → x.lo = y.lo → nrmGo x.hi u = true → nrmGo y.hi v = true → (∀ t, inSet (x :: u) t = inSet (y :: v) t) → y.hi ≤ x.hi := by
      intro x y u v hx hy hl hu hv hxy
      rcases Int.lt_or_le x.hi y.hi with hlt | hle
      · have h1 := hxy x.hi
        rw [inSet_cons, inSet_cons, show pIn y x.hi = true from pIn_iff.2 (by omega), Bool.true_or, Bool.or_eq_true] at h1
        rcases h1 with h1 | h1
        · rw [pIn_iff] at h1; omega
        · have := nrmGo_gt hu h1; omega
      · exact hle
    have e2 : p.hi = q.hi := Int.le_antisymm (key2 q p s r hb.1 ha.1 e1.symm hb.2.2 ha.2.2 fun t => (he t).symm) (key2 p q r s ha.1 hb.1 e1 ha.2.2 hb.2.2 he)
    obtain rfl : p = q := by cases p; cases q; simp_all
    refine congrArg _ (nrm_ext ha.2.2 hb.2.2 fun t => ?_)
    have h1 := he t
    rw [inSet_cons, inSet_cons] at h1
    cases hr : inSet r t with
    | true =>
      have := nrmGo_gt ha.2.2 hr
      have hp : pIn p t = false := by rw [← Bool.not_eq_true, pIn_iff]; omega
      rw [hp, hr] at h1; simpa using h1
    | false =>
      cases hs : inSet s t with
      | false => rfl
      | true =>
        have := nrmGo_gt hb.2.2 hs
        have hp : pIn p t = false := by rw [← Bool.not_eq_true, pIn_iff]; omega
        rw [hp, hr, hs] at h1; simp at h1
/- appending lists in normal form -/
theorem nrmGo_append {m : Int} : ∀ {x y : List Per} {h : Int}, nrmGo h x = true → (∀ p ∈ x, p.hi ≤ m) → h ≤ m → nrmGo m y = true → nrmGo h (x ++ y) = true
  | [], y, h, _, _, h2, h3 => nrmGo_mono h3 h2
  | p :: r, y, h, h1, h2, h3, h4 => by
    rw [nrmGo_cons] at h1
    rw [List.cons_append, nrmGo_cons]
    exact ⟨h1.1, h1.2.1, nrmGo_append h1.2.2 (fun q hq => h2 q (List.mem_cons_of_mem _ hq)) (h2 p List.mem_cons_self) h4⟩

/- insertion as the definition does it -/
def ins2 : Int → Int → List Per → List Per
  | lo, hi, [] => [⟨lo, hi⟩]
  | lo, hi, q :: r => if q.lo ≤ hi then ins2 (min lo q.lo) (max hi q.hi) r else ⟨lo, hi⟩ :: q :: r
def ins (p : Per) : List Per → List Per
  | [] => [p]
  | q :: r => if q.hi < p.lo then q :: ins p r else ins2 p.lo p.hi (q :: r)
theorem ins2_law : ∀ {l : List Per} {lo hi h : Int}, nrmGo h l = true → h < lo → 0 ≤ lo → lo < hi → hi ≤ maxT → (∀ q ∈ l, lo ≤ q.hi) →
    nrmGo h (ins2 lo hi l) = true ∧ ∀ t, inSet (ins2 lo hi l) t = (pIn ⟨lo, hi⟩ t || inSet l t)
  | [], lo, hi, h, _, h1, h2, h3, h4, _ => ⟨by rw [ins2, nrmGo_cons]; exact ⟨⟨h2, h3, h4⟩, h1, rfl⟩, fun t => by simp [ins2, inSet]⟩
  | q :: r, lo, hi, h, hn, h1, h2, h3, h4, h5 => by
    have hn' := hn
    rw [nrmGo_cons] at hn
    have hq := h5 q List.mem_cons_self
    rw [ins2]
    split
    · rename_i hle
      obtain ⟨k1, k2⟩ := ins2_law (l := r) (lo := min lo q.lo) (hi := max hi q.hi) (h := h) (nrmGo_mono hn.2.2 (by omega)) (by omega) (by omega) (by omega) (by omega)
        (fun x hx => by have := nrmGo_ok hn.2.2 x hx; omega)
      refine ⟨k1, fun t => ?_⟩
      rw [k2, inSet_cons, ← Bool.or_assoc]
      congr 1
      rw [Bool.eq_iff_iff, Bool.or_eq_true, pIn_iff, pIn_iff, pIn_iff]
      dsimp only
      omega
    · rename_i hle
      refine ⟨?_, fun t => rfl⟩
      rw [nrmGo_cons, nrmGo_cons]
      exact ⟨⟨h2, h3, h4⟩, h1, hn.1, by dsimp only; omega, hn.2.2⟩
theorem ins_law {p : Per} (hp : 0 ≤ p.lo ∧ p.lo < p.hi ∧ p.hi ≤ maxT) : ∀ {l : List Per} {h : Int}, nrmGo h l = true → h < p.lo →
    nrmGo h (ins p l) = true ∧ ∀ t, inSet (ins p l) t = (pIn p t || inSet l t)
  | [], h, _, h1 => ⟨by rw [ins, nrmGo_cons]; exact ⟨hp, h1, rfl⟩, fun t => rfl⟩
  | q :: r, h, hn, h1 => by
    have hn' := hn
    rw [nrmGo_cons] at hn
    rw [ins]
    split
    · rename_i hlt
      obtain ⟨k1, k2⟩ := ins_law hp hn.2.2 hlt
      refine ⟨by rw [nrmGo_cons]; exact ⟨hn.1, hn.2.1, k1⟩, fun t => ?_⟩
      rw [inSet_cons, k2, inSet_cons]
      simp only [Bool.or_left_comm]
    · rename_i hlt
      obtain ⟨k1, k2⟩ := ins2_law hn' h1 hp.1 hp.2.1 hp.2.2 (fun x hx => by
        rcases List.mem_cons.1 hx with rfl | hx
        · omega
        · have := nrmGo_ok hn.2.2 x hx; omega)
      exact ⟨k1, k2⟩
def nrmFrom : List Per → List Per → List Per
  | acc, [] => acc
  | acc, p :: r => nrmFrom (if pOk p then ins p acc else acc) r
def norm (l : List Per) : List Per := nrmFrom [] l
theorem nrmFrom_law : ∀ {l acc : List Per}, nrm acc = true → nrm (nrmFrom acc l) = true ∧ ∀ t, inSet (nrmFrom acc l) t = (inSet acc t || inSet l t)
  | [], acc, h => ⟨h, fun t => by simp [nrmFrom, inSet]⟩
  | p :: r, acc, h => by
    rw [nrmFrom]
    cases hp : pOk p with
    | true =>
      have hp' := pOk_iff.1 hp
      obtain ⟨k1, k2⟩ := ins_law hp' h (by omega)
      obtain ⟨q1, q2⟩ := nrmFrom_law (l := r) (acc := ins p acc) k1
      refine ⟨q1, fun t => ?_⟩
      rw [if_pos rfl, q2, k2, inSet_cons, Bool.or_comm (pIn p t), Bool.or_assoc]
    | false =>
      obtain ⟨q1, q2⟩ := nrmFrom_law (l := r) (acc := acc) h
      refine ⟨q1, fun t => ?_⟩
      rw [if_neg (by simp), q2, inSet_cons, show pIn p t = false by simp [pIn, hp], Bool.false_or]
theorem norm_nrm (l : List Per) : nrm (norm l) = true := (nrmFrom_law (acc := []) rfl).1
theorem norm_in (l : List Per) (t : Int) : inSet (norm l) t = inSet l t := by rw [norm, (nrmFrom_law (acc := []) rfl).2]; rfl
theorem nrm_eq {a b : List Per} (ha : nrm a = true) (hb : nrm b = true) (h : ∀ t, inSet a t = inSet b t) : a = b := nrm_ext ha hb h
theorem ins2_length : ∀ (l : List Per) (lo hi : Int), (ins2 lo hi l).length ≤ l.length + 1
  | [], lo, hi => by simp [ins2]
  | q :: r, lo, hi => by
    rw [ins2]; split
    · have := ins2_length r (min lo q.lo) (max hi q.hi); simp; omega
    · simp
theorem ins_length (p : Per) : ∀ (l : List Per), (ins p l).length ≤ l.length + 1
  | [] => by simp [ins]
  | q :: r => by
    rw [ins]; split
    · have := ins_length p r; simp; omega
    · exact ins2_length _ _ _
theorem nrmFrom_length : ∀ (l acc : List Per), (nrmFrom acc l).length ≤ acc.length + l.length
  | [], acc => by simp [nrmFrom]
  | p :: r, acc => by
    rw [nrmFrom]
    have h1 := nrmFrom_length r (if pOk p then ins p acc else acc)
    have h2 : (if pOk p then ins p acc else acc).length ≤ acc.length + 1 := by
      split
      · exact ins_length p acc
      · omega
    simp; omega
theorem norm_length (l : List Per) : (norm l).length ≤ l.length := by have := nrmFrom_length l []; simpa [norm] using this

/- merging a list sorted by its starts, as the program does it -/
def mrg : Per → List Per → List Per
  | q, [] => [q]
  | q, p :: r => if p.lo ≤ q.hi then mrg ⟨q.lo, max q.hi p.hi⟩ r else q :: mrg p r
def mrgAll : List Per → List Per
  | [] => []
  | q :: r => mrg q r
theorem mrg_law : ∀ {l : List Per} {q : Per} {h : Int}, (∀ p ∈ q :: l, 0 ≤ p.lo ∧ p.lo < p.hi ∧ p.hi ≤ maxT) → (q :: l).Pairwise (fun a b => a.lo ≤ b.lo) → h < q.lo →
    nrmGo h (mrg q l) = true ∧ ∀ t, inSet (mrg q l) t = inSet (q :: l) t
  | [], q, h, h1, _, h3 => ⟨by rw [mrg, nrmGo_cons]; exact ⟨h1 q List.mem_cons_self, h3, rfl⟩, fun t => rfl⟩
  | p :: r, q, h, h1, h2, h3 => by
    have hq := h1 q List.mem_cons_self
    have hp := h1 p (List.mem_cons_of_mem _ List.mem_cons_self)
    have hqp := (List.pairwise_cons.1 h2).1 p List.mem_cons_self
    rw [mrg]
    split
    · rename_i hle
      obtain ⟨k1, k2⟩ := mrg_law (l := r) (q := ⟨q.lo, max q.hi p.hi⟩) (h := h) (fun x hx => by
        rcases List.mem_cons.1 hx with rfl | hx
        · dsimp only; omega
        · exact h1 x (by simp [hx])) (List.pairwise_cons.2 ⟨fun x hx => (List.pairwise_cons.1 h2).1 x (List.mem_cons_of_mem _ hx), (List.pairwise_cons.1 (List.pairwise_cons.1 h2).2).2⟩) h3
      refine ⟨k1, fun t => ?_⟩
      rw [k2, inSet_cons, inSet_cons, inSet_cons, ← Bool.or_assoc]
      congr 1
      rw [Bool.eq_iff_iff, Bool.or_eq_true, pIn_iff, pIn_iff, pIn_iff]
      dsimp only
      omega
    · rename_i hle
      obtain ⟨k1, k2⟩ := mrg_law (l := r) (q := p) (h := q.hi) (fun x hx => h1 x (List.mem_cons_of_mem _ hx)) (List.pairwise_cons.1 h2).2 (by omega)
      refine ⟨by rw [nrmGo_cons]; exact ⟨hq, h3, k1⟩, fun t => ?_⟩
      rw [inSet_cons, k2]; rfl
theorem mrgAll_norm {l m : List Per} (hp : m.Perm (l.filter pOk)) (hs : m.Pairwise (fun a b => a.lo ≤ b.lo)) : mrgAll m = norm l := by
  have hin : ∀ t, inSet m t = inSet l t := fun t => by
    rw [Bool.eq_iff_iff]
    simp only [inSet, List.any_eq_true]
    constructor
    · rintro ⟨p, h1, h2⟩
      exact ⟨p, (List.mem_filter.1 (hp.mem_iff.1 h1)).1, h2⟩
    · rintro ⟨p, h1, h2⟩
      exact ⟨p, hp.mem_iff.2 (List.mem_filter.2 ⟨h1, by simp [pIn] at h2; exact h2.1.1⟩), h2⟩
  have hok : ∀ p ∈ m, 0 ≤ p.lo ∧ p.lo < p.hi ∧ p.hi ≤ maxT := fun p h => pOk_iff.1 (List.mem_filter.1 (hp.mem_iff.1 h)).2
  cases m with
  | nil => exact (nrm_eq (norm_nrm l) rfl fun t => by rw [norm_in, ← hin]; rfl).symm
  | cons q r =>
    obtain ⟨k1, k2⟩ := mrg_law (h := -1) hok hs (by have := hok q List.mem_cons_self; omega)
    exact nrm_eq k1 (norm_nrm l) fun t => by rw [mrgAll, k2, hin, norm_in]
end Go.Vc
/- Intersection and difference of sets of points; lengths. Plain laws, no program. -/
namespace Go.Vc
def perInt (a b : Per) : Per := ⟨max a.lo b.lo, min a.hi b.hi⟩
def perHit (a b : Per) : Bool := pOk a && pOk b && decide (max a.lo b.lo < min a.hi b.hi)
theorem perHit_iff {a b : Per} : perHit a b = true ↔ (0 ≤ a.lo ∧ a.lo < a.hi ∧ a.hi ≤ maxT) ∧ (0 ≤ b.lo ∧ b.lo < b.hi ∧ b.hi ≤ maxT) ∧ max a.lo b.lo < min a.hi b.hi := by
  simp only [perHit, Bool.and_eq_true, pOk_iff, decide_eq_true_eq, and_assoc]
def hits (p : Per) (b : List Per) : List Per := (b.filter (perHit p)).map (perInt p)
theorem hits_cons {p q : Per} {r : List Per} : hits p (q :: r) = (if perHit p q then perInt p q :: hits p r else hits p r) := by
  unfold hits; rw [List.filter_cons]; split <;> rfl
theorem hits_in {p : Per} {t : Int} : ∀ {b : List Per}, inSet (hits p b) t = (pIn p t && inSet b t)
  | [] => by simp [hits, inSet]
  | q :: r => by
    rw [hits_cons, inSet_cons, Bool.and_or_distrib_left, ← hits_in (b := r)]
    split
    · rename_i h
      rw [perHit_iff] at h
      rw [inSet_cons]
      congr 1
      rw [Bool.eq_iff_iff, Bool.and_eq_true, pIn_iff, pIn_iff, pIn_iff]
      simp only [perInt]
      omega
    · rename_i h
      rw [perHit_iff] at h
      have : (pIn p t && pIn q t) = false := by
        rw [← Bool.not_eq_true, Bool.and_eq_true, pIn_iff, pIn_iff]
        omega
      rw [this, Bool.false_or]
theorem hits_nrm {p : Per} : ∀ {b : List Per} {h k : Int}, nrmGo h b = true → (k < p.lo ∨ k ≤ h) → nrmGo k (hits p b) = true
  | [], _, _, _, _ => rfl
  | q :: r, h, k, h1, h2 => by
    rw [nrmGo_cons] at h1
    rw [hits_cons]
    split
    · rename_i hh
      rw [perHit_iff] at hh
      rw [nrmGo_cons]
      simp only [perInt]
      refine ⟨by omega, by omega, ?_⟩
      exact hits_nrm h1.2.2 (by omega)
    · exact hits_nrm h1.2.2 (by omega)
theorem hits_hi {p x : Per} {b : List Per} (hx : x ∈ hits p b) : x.hi ≤ p.hi := by
  simp only [hits, List.mem_map, List.mem_filter] at hx
  obtain ⟨q, -, rfl⟩ := hx
  simp only [perInt]; omega
def isectGo (a b : List Per) : List Per := a.flatMap fun p => hits p b
def isect (a b : List Per) : List Per := isectGo (norm a) (norm b)
theorem isectGo_in {b : List Per} {t : Int} : ∀ {a : List Per}, inSet (isectGo a b) t = (inSet a t && inSet b t)
  | [] => by simp [isectGo, inSet]
  | p :: r => by
    rw [isectGo, List.flatMap_cons, inSet_append, hits_in, inSet_cons, Bool.and_or_distrib_right]
    congr 1
    exact isectGo_in
theorem isectGo_nrm {b : List Per} (hb : nrm b = true) : ∀ {a : List Per} {h : Int}, nrmGo h a = true → nrmGo h (isectGo a b) = true
  | [], _, _ => rfl
  | p :: r, h, h1 => by
    rw [nrmGo_cons] at h1
    rw [isectGo, List.flatMap_cons]
    exact nrmGo_append (m := p.hi) (hits_nrm hb (.inl h1.2.1)) (fun x hx => hits_hi hx) (by omega) (isectGo_nrm hb h1.2.2)
theorem isect_in (a b : List Per) (t : Int) : inSet (isect a b) t = (inSet a t && inSet b t) := by rw [isect, isectGo_in, norm_in, norm_in]
theorem isect_nrm (a b : List Per) : nrm (isect a b) = true := isectGo_nrm (norm_nrm b) (norm_nrm a)
/- two pointers, as the program does it -/
def zipI2 : Nat → List Per → List Per → List Per
  | 0, _, _ => []
  | n + 1, p :: a, q :: b => (if perHit p q then [perInt p q] else []) ++ (if p.hi < q.hi then zipI2 n a (q :: b) else zipI2 n (p :: a) b)
  | _ + 1, _, _ => []
theorem zipI2_in {t : Int} : ∀ {n : Nat} {a b : List Per} {h k : Int}, a.length + b.length ≤ n → nrmGo h a = true → nrmGo k b = true → inSet (zipI2 n a b) t = (inSet a t && inSet b t)
  | 0, a, b, _, _, h, _, _ => by
    rw [List.eq_nil_of_length_eq_zero (by omega : a.length = 0)]; rfl
  | n + 1, [], b, _, _, _, _, _ => rfl
  | n + 1, p :: a, [], _, _, _, _, _ => by simp [zipI2, inSet]
  | n + 1, p :: a, q :: b, h, k, hl, ha, hb => by
    have ha' := ha; have hb' := hb
    rw [nrmGo_cons] at ha hb
    have e1 : inSet (if perHit p q then [perInt p q] else []) t = (pIn p t && pIn q t) := by
      split
      · rename_i hh
        rw [perHit_iff] at hh
        rw [inSet_cons, inSet_nil, Bool.or_false, Bool.eq_iff_iff, Bool.and_eq_true, pIn_iff, pIn_iff, pIn_iff]
        simp only [perInt]; omega
      · rename_i hh
        rw [perHit_iff] at hh
        rw [inSet_nil]
        symm
        rw [← Bool.not_eq_true, Bool.and_eq_true, pIn_iff, pIn_iff]
        omega
    rw [zipI2, inSet_append, e1]
    simp only [List.length_cons] at hl
    split
    · rename_i hlt
      rw [zipI2_in (by simp; omega) ha.2.2 hb']
      simp only [inSet_cons]
      have hx : pIn p t = true → inSet b t = false := by
        intro h1
        cases hbt : inSet b t with
        | false => rfl
        | true => have := nrmGo_gt hb.2.2 hbt; rw [pIn_iff] at h1; omega
      cases h1 : pIn p t <;> cases h2 : pIn q t <;> cases h3 : inSet a t <;> cases h4 : inSet b t <;> simp_all
    · rename_i hlt
      rw [zipI2_in (by simp; omega) ha' hb.2.2]
      simp only [inSet_cons]
      have hx : pIn q t = true → inSet a t = false := by
        intro h1
        cases hat : inSet a t with
        | false => rfl
        | true => have := nrmGo_gt ha.2.2 hat; rw [pIn_iff] at h1; omega
      cases h1 : pIn p t <;> cases h2 : pIn q t <;> cases h3 : inSet a t <;> cases h4 : inSet b t <;> simp_all
theorem zipI2_isect (a b : List Per) : norm (zipI2 ((norm a).length + (norm b).length) (norm a) (norm b)) = isect a b :=
  nrm_eq (norm_nrm _) (isect_nrm a b) fun t => by rw [norm_in, zipI2_in (Nat.le_refl _) (norm_nrm a) (norm_nrm b), isect_in, norm_in, norm_in]
/- difference, the program's way -/
def cut : Int → Int → List Per → List Per
  | t, hi, [] => if t < hi then [⟨t, hi⟩] else []
  | t, hi, q :: r => if q.hi ≤ t ∨ hi ≤ q.lo then cut t hi r else (if t < q.lo then [⟨t, q.lo⟩] else []) ++ cut q.hi hi r
theorem cut_law {hi : Int} (h1 : hi ≤ maxT) : ∀ {b : List Per} {t k h : Int}, nrmGo h b = true → 0 ≤ t → k < t →
    (∀ u, inSet (cut t hi b) u = (decide (t ≤ u) && decide (u < hi) && !inSet b u)) ∧ nrmGo k (cut t hi b) = true ∧ ∀ p ∈ cut t hi b, p.hi ≤ hi
  | [], t, k, h, _, h2, h3 => by
    rw [cut]
    split
    · refine ⟨fun u => ?_, by rw [nrmGo_cons]; exact ⟨⟨h2, by assumption, h1⟩, h3, rfl⟩, by simp⟩
      rw [inSet_cons, inSet_nil, Bool.or_false, Bool.not_false, Bool.and_true, Bool.eq_iff_iff, pIn_iff, Bool.and_eq_true, decide_eq_true_eq, decide_eq_true_eq]
      dsimp only; omega
    · refine ⟨fun u => ?_, rfl, by simp⟩
      rw [inSet_nil]
      symm
      rw [← Bool.not_eq_true, Bool.and_eq_true, Bool.and_eq_true, decide_eq_true_eq, decide_eq_true_eq]
      omega
  | q :: r, t, k, h, hb, h2, h3 => by
    rw [nrmGo_cons] at hb
    rw [cut]
    have hqr : ∀ u, inSet r u = true → q.hi < u := fun u hu => nrmGo_gt hb.2.2 hu
    split
    · rename_i hs
      obtain ⟨k1, k2, k3⟩ := cut_law h1 (b := r) (t := t) (k := k) hb.2.2 h2 h3
      refine ⟨fun u => ?_, k2, k3⟩
      rw [k1, inSet_cons]
      have hx : decide (t ≤ u) = true → decide (u < hi) = true → pIn q u = false := by
        intro a b
        rw [decide_eq_true_eq] at a b
        rw [← Bool.not_eq_true, pIn_iff]; omega
      cases h5 : decide (t ≤ u) <;> cases h6 : decide (u < hi) <;> simp_all
    · rename_i hs
      obtain ⟨k1, k2, k3⟩ := cut_law h1 (b := r) (t := q.hi) (k := q.lo) hb.2.2 (by omega) (by omega)
      refine ⟨fun u => ?_, ?_, ?_⟩
      · rw [inSet_append, k1, inSet_cons]
        have e1 : inSet (if t < q.lo then [⟨t, q.lo⟩] else []) u = (decide (t ≤ u) && decide (u < q.lo)) := by
          split
          · rw [inSet_cons, inSet_nil, Bool.or_false, Bool.eq_iff_iff, pIn_iff, Bool.and_eq_true, decide_eq_true_eq, decide_eq_true_eq]
            dsimp only; omega
          · rw [inSet_nil]; symm
            rw [← Bool.not_eq_true, Bool.and_eq_true, decide_eq_true_eq, decide_eq_true_eq]; omega
        rw [e1]
        have e2 := hqr u
        cases h5 : inSet r u with
        | true =>
          have e2 := e2 h5
          simp only [Bool.or_true, Bool.not_true, Bool.and_false, Bool.or_false]
          rw [← Bool.not_eq_true, Bool.and_eq_true, decide_eq_true_eq, decide_eq_true_eq]; omega
        | false =>
          simp only [Bool.or_false, Bool.not_false, Bool.and_true]
          rw [Bool.eq_iff_iff]
          simp only [Bool.or_eq_true, Bool.and_eq_true, decide_eq_true_eq, Bool.not_eq_true', ← Bool.not_eq_true, pIn_iff]
          omega
      · split
        · rw [List.singleton_append, nrmGo_cons]
          exact ⟨by dsimp only; omega, h3, k2⟩
        · rw [List.nil_append]
          exact (cut_law h1 (b := r) (t := q.hi) (k := k) hb.2.2 (by omega) (by omega)).2.1
      · intro p hp
        rcases List.mem_append.1 hp with hp | hp
        · split at hp
          · rw [List.mem_singleton] at hp; subst hp; dsimp only; omega
          · simp at hp
        · exact k3 p hp
def cutAll (a b : List Per) : List Per := a.flatMap fun p => cut p.lo p.hi b
theorem cutAll_law {b : List Per} (hb : nrm b = true) : ∀ {a : List Per} {h : Int}, nrmGo h a = true → nrmGo h (cutAll a b) = true ∧ ∀ t, inSet (cutAll a b) t = (inSet a t && !inSet b t)
  | [], _, _ => ⟨rfl, fun t => rfl⟩
  | p :: r, h, h1 => by
    rw [nrmGo_cons] at h1
    obtain ⟨k1, k2⟩ := cutAll_law hb h1.2.2
    obtain ⟨q1, q2, q3⟩ := cut_law h1.1.2.2 (b := b) (t := p.lo) (k := h) hb h1.1.1 h1.2.1
    rw [cutAll, List.flatMap_cons]
    refine ⟨nrmGo_append (m := p.hi) q2 q3 (by omega) k1, fun t => ?_⟩
    rw [inSet_append, q1, inSet_cons, Bool.and_or_distrib_right]
    congr 1
    · congr 1
      rw [Bool.eq_iff_iff, Bool.and_eq_true, pIn_iff, decide_eq_true_eq, decide_eq_true_eq]
      omega
    · exact k2 t
def diff (a b : List Per) : List Per := cutAll (norm a) (norm b)
theorem diff_nrm (a b : List Per) : nrm (diff a b) = true := (cutAll_law (norm_nrm b) (norm_nrm a)).1
theorem diff_in (a b : List Per) (t : Int) : inSet (diff a b) t = (inSet a t && !inSet b t) := by rw [diff, (cutAll_law (norm_nrm b) (norm_nrm a)).2, norm_in, norm_in]
end Go.Vc
namespace Go.Vc
theorem nrm_len : ∀ {l : List Per} {h : Int}, nrmGo h l = true → l ≠ [] → h + 2 * l.length ≤ maxT
  | [], _, _, h => absurd rfl h
  | p :: r, h, h1, _ => by
    rw [nrmGo_cons] at h1
    cases r with
    | nil => simp; omega
    | cons q s => have := nrm_len h1.2.2 (by simp); simp only [List.length_cons] at this ⊢; omega
theorem nrm_bnd {l : List Per} (h : nrm l = true) : l.length * 16 ≤ 140737488355328 := by
  by_cases h0 : l = []
  · subst h0; simp
  · have := nrm_len h h0; have : maxT = 1099511627776 := rfl; omega
theorem nrm_len2 {l : List Per} (h : nrm l = true) : l.length ≤ 549755813889 := by
  by_cases h0 : l = []
  · subst h0; simp
  · have := nrm_len h h0; have : maxT = 1099511627776 := rfl; omega
theorem zipI2_length : ∀ (n : Nat) (a b : List Per), (zipI2 n a b).length ≤ n
  | 0, _, _ => by simp [zipI2]
  | n + 1, [], _ => by simp [zipI2]
  | n + 1, _ :: _, [] => by simp [zipI2]
  | n + 1, p :: a, q :: b => by
    have h1 := zipI2_length n a (q :: b); have h2 := zipI2_length n (p :: a) b
    rw [zipI2, List.length_append]
    split <;> split <;> simp <;> omega
end Go.Vc
