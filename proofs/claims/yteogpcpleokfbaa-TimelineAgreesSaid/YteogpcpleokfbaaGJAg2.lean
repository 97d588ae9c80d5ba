/- Contracts, effects, regions, code: the verification condition. Definitions only. -/
import Derived.Test.YteogpcpleokfbaaGJAg0
import Derived.Test.YteogpcpleokfbaaGJAg1
import Derived.OrdersHeld
set_option linter.unusedSectionVars false
set_option linter.unusedSimpArgs false
set_option linter.unusedVariables false
namespace Go.Vc
open Go Go.RowKit

def PostL : List Leaf → Type → Type
  | [], R => R
  | .int _ :: ls, R => Int → PostL ls R
  | .bool :: ls, R => Bool → PostL ls R
  | .str :: ls, R => ByteArray → PostL ls R
  | .sl :: ls, R => Option Addr → Nat → Nat → PostL ls R
  | .mp :: ls, R => Option Nat → PostL ls R
  | .val :: ls, R => Value → PostL ls R
  | .cells :: ls, R => List Value → PostL ls R
  | .row _ _ :: ls, R => Nat → List Value → PostL ls R
structure RSh where
  tup : Bool
  parts : List (Bool × List Leaf)
def PostR : List (Bool × List Leaf) → Type → Type
  | [], R => R
  | (_, ls) :: r, R => PostL ls (PostR r R)

/- a new row in a result: slice value, element type, length, cells -/
structure NRow where
  s : Value
  e : TypeId
  n : Nat
  xs : List Value
/- the values that a typed post lets through -/
def exL : (ls : List Leaf) → {R : Type} → PostL ls R → List NRow → (List Value → List NRow → R → Prop) → Prop
  | [], _, p, nr, K => K [] nr p
  | .int k :: ls, _, p, nr, K => ∃ n : Int, exL ls (p n) nr fun vs nr q => K (.int k n :: vs) nr q
  | .bool :: ls, _, p, nr, K => ∃ b : Bool, exL ls (p b) nr fun vs nr q => K (.bool b :: vs) nr q
  | .str :: ls, _, p, nr, K => ∃ s : ByteArray, exL ls (p s) nr fun vs nr q => K (.string s :: vs) nr q
  | .sl :: ls, _, p, nr, K => ∃ A n c, exL ls (p A n c) nr fun vs nr q => K (.slice A n c :: vs) nr q
  | .mp :: ls, _, p, nr, K => ∃ A, exL ls (p A) nr fun vs nr q => K (.map A :: vs) nr q
  | .val :: ls, _, p, nr, K => ∃ v : Value, v.oneCell' = true ∧ exL ls (p v) nr fun vs nr q => K (v :: vs) nr q
  | .cells :: _, _, _, _, _ => False
  | .row _ e :: ls, _, p, nr, K => ∃ r nr', nr = r :: nr' ∧ r.e = e ∧ exL ls (p r.n r.xs) nr' fun vs nr q => K (r.s :: vs) nr q
def mkV (agg : Bool) (vs : List Value) : Option Value :=
  match agg, vs with
  | true, vs => some (.agg ⟨vs⟩)
  | false, [v] => some v
  | false, _ => none
def exR : (ps : List (Bool × List Leaf)) → {R : Type} → PostR ps R → List NRow → (List Value → List NRow → R → Prop) → Prop
  | [], _, p, nr, K => K [] nr p
  | (g, ls) :: ps, _, p, nr, K => exL ls p nr fun vs nr q => ∃ v, mkV g vs = some v ∧ exR ps q nr fun us nr q => K (v :: us) nr q
def Fits (sh : RSh) (post : PostR sh.parts (Heap → Prop)) (v : Value) (H : Heap) (nr : List NRow) : Prop :=
  exR sh.parts post nr fun vs nr' q => nr' = [] ∧ (if sh.tup then v = .tuple ⟨vs⟩ else vs = [v]) ∧ q H

/- what public memory says of a place: the cell; or, by a mark, that the block ends there -/
def isEnd : Value → Bool
  | .tuple _ => true
  | _ => false
def seen (w : World) (b o : Nat) (v : Value) : Prop := match isEnd v with
  | false => w.cell? ⟨b, o, none⟩ = some v
  | true => ∃ cs t fz, w.heap[b]? = some (.cells cs t fz) ∧ cs.size = o
theorem isEnd_one {v : Value} (h : v.oneCell' = true) : isEnd v = false := by
  cases v <;> first | rfl | simp [Value.oneCell'] at h
theorem seen.keep {w w' : World} {b o : Nat} {v : Value} (h : seen w b o v) (k : w'.heap[b]? = w.heap[b]?) : seen w' b o v := by
  unfold seen at *
  split at h
  · rename_i he
    exact (World.cell?_of_block (a := ⟨b, o, none⟩) k).trans h
  · rename_i he
    obtain ⟨cs, t, fz, h1, h2⟩ := h
    exact ⟨cs, t, fz, k.trans h1, h2⟩
theorem seen.cell {w : World} {b o : Nat} {v : Value} (h : seen w b o v) (h1 : v.oneCell' = true) : w.cell? ⟨b, o, none⟩ = some v := by
  unfold seen at h
  rw [isEnd_one h1] at h
  exact h
theorem seen.of {w : World} {b o : Nat} {v : Value} (h : w.cell? ⟨b, o, none⟩ = some v) (h1 : v.oneCell' = true) : seen w b o v := by
  unfold seen
  rw [isEnd_one h1]
  exact h
theorem seen.lt {w : World} {b o : Nat} {v : Value} (h : seen w b o v) : b < w.heap.size := by
  unfold seen at h
  split at h
  · exact World.block_lt_of_cell? w ⟨b, o, none⟩ h
  · obtain ⟨cs, t, fz, h1, _⟩ := h
    exact (Array.getElem?_eq_some_iff.1 h1).1
def Snap (H : Heap) (w : World) : Prop := ∀ b o v, H b o = some v → seen w b o v
def FnOK (P : Program) (f : FuncId) : Prop := ∃ fn, P.funcs[f]? = some fn ∧ fn.body.isSome = true ∧ (fn.name == "runtime.NumGoroutine") = false
/- how the world and the public memory may grow during a call -/
structure Grows (w w' : World) (H H' : Heap) : Prop where
  below : Below w.heap.size w w'
  le : Heap.le H H'
  old : ∀ b, b < w.heap.size → ∀ o, H' b o = H b o
  snap : Snap H' w'
  drawn : w.drawn ≤ w'.drawn
def NewRow (P : Program) (w w' : World) (H' : Heap) (r : NRow) : Prop :=
  w'.ownsRow w.heap.size r.e (P.cellsOf r.e) r.s r.n r.xs ∧ (∀ x ∈ r.xs, x.oneCell' = true) ∧ ∀ g, r.s.ownBlock = some g → ∀ o, H' g o = none
def apartRows (nr : List NRow) : Prop := nr.Pairwise fun r r' => ∀ g, r.s.ownBlock = some g → r'.s.ownBlock ≠ some g
/- THE CONTRACT: in whatever world that shows the public memory H, the call returns, and its result fits -/
def ConT (P : Program) (f : FuncId) (args : List Value) (H : Heap) (sh : RSh) (post : PostR sh.parts (Heap → Prop)) : Prop :=
  FnOK P f ∧ ∀ w, Snap H w → Calls P f args.toArray w fun e w' => ∃ v H' nr, e = .returned v ∧ Fits sh post v H' nr ∧ Grows w w' H H' ∧
    (∀ r ∈ nr, NewRow P w w' H' r) ∧ apartRows nr

/- a call that is handed one row of the caller's own: it may write it and hand it back -/
structure BelX (w w' : World) (g : Option Nat) : Prop where
  os : w'.os = w.os
  tape : w'.tape = w.tape
  output : w'.output = w.output
  size : w.heap.size ≤ w'.heap.size
  block : ∀ k, k < w.heap.size → g ≠ some k → w'.heap[k]? = w.heap[k]?
  drawn : w.drawn ≤ w'.drawn
/- the same for a set of blocks -/
structure BelS (w w' : World) (g : Nat → Prop) : Prop where
  os : w'.os = w.os
  tape : w'.tape = w.tape
  output : w'.output = w.output
  size : w.heap.size ≤ w'.heap.size
  block : ∀ k, k < w.heap.size → ¬ g k → w'.heap[k]? = w.heap[k]?
  drawn : w.drawn ≤ w'.drawn
/- where a call began: the world, and the blocks that it was handed -/
structure W0 where
  w : World
  g : Nat → Prop
/- a block that the call may write and give away: new, or handed -/
def W0.nw (w0 : W0) (b : Nat) : Prop := w0.w.heap.size ≤ b ∨ w0.g b
theorem W0.old {w0 : W0} {b : Nat} (h : ¬ w0.nw b) : b < w0.w.heap.size ∧ ¬ w0.g b := ⟨by
  rcases Nat.lt_or_ge b w0.w.heap.size with h1 | h1
  · exact h1
  · exact absurd (.inl h1) h, fun h1 => h (.inr h1)⟩
structure owns (w : World) (w0 : W0) (e : TypeId) (sz : Nat) (v : Value) (n : Nat) (xs : List Value) : Prop where
  row : w.ownsRow 0 e sz v n xs
  nw : ∀ g, v.ownBlock = some g → w0.nw g
theorem owns.cells {w : World} {w0 : W0} {e : TypeId} {sz : Nat} {v : Value} {n : Nat} {xs : List Value} (h : owns w w0 e sz v n xs) {g : Nat} (hg : v.ownBlock = some g) : ∀ j u, xs[j]? = some u → w.cell? ((⟨g, 0, none⟩ : Addr).add j) = some u := h.row.cells hg
theorem owns.lt {w : World} {w0 : W0} {e : TypeId} {sz : Nat} {v : Value} {n : Nat} {xs : List Value} (h : owns w w0 e sz v n xs) : ∀ k, v.ownBlock = some k → w0.nw k ∧ k < w.heap.size := fun k hk => ⟨h.nw k hk, (h.row.lt k hk).2⟩
theorem owns.kept {w w' : World} {row : Option Nat} {w0 : W0} {e : TypeId} {sz : Nat} {v : Value} {n : Nat} {xs : List Value} (h : owns w w0 e sz v n xs) (hg : w.grownBy w' row) (hne : v.ownBlock = none ∨ v.ownBlock ≠ row) : owns w' w0 e sz v n xs := ⟨h.row.kept hg hne, h.nw⟩
theorem owns.nil (w : World) (w0 : W0) (e : TypeId) (sz : Nat) : owns w w0 e sz (.slice none 0 0) 0 [] := ⟨World.ownsRow_nil w 0 e sz, fun g h => by simp [Value.ownBlock] at h⟩
theorem ownsRow_base0 {w : World} {B : Nat} {e : TypeId} {sz : Nat} {v : Value} {n : Nat} {xs : List Value} (h : w.ownsRow B e sz v n xs) : w.ownsRow 0 e sz v n xs := by
  refine ⟨h.1, ?_⟩
  rcases h.2 with h | ⟨g, cap, cur, hv, _, h⟩
  · exact .inl h
  · exact .inr ⟨g, cap, cur, hv, Nat.zero_le _, h⟩
theorem BelS.grown {w0 w w' : World} {g : Nat → Prop} {row : Option Nat} (h : BelS w0 w g) (hg : w.grownBy w' row) (hd : w.drawn ≤ w'.drawn) (hr : ∀ k, row = some k → w0.heap.size ≤ k ∨ g k) : BelS w0 w' g :=
  ⟨hg.os.trans h.os, hg.tape.trans h.tape, hg.output.trans h.output, Nat.le_trans h.size hg.size, fun k hk hne => (hg.block k (Nat.lt_of_lt_of_le hk h.size) (fun e => by rcases hr k e.symm with h1 | h1; omega; exact hne h1)).trans (h.block k hk hne), Nat.le_trans h.drawn hd⟩
theorem BelX.set {w w' : World} {g : Option Nat} (h : BelX w w' g) : BelS w w' (fun b => g = some b) := ⟨h.os, h.tape, h.output, h.size, h.block, h.drawn⟩
theorem BelS.opt {w w' : World} {g : Option Nat} (h : BelS w w' (fun b => g = some b)) : BelX w w' g := ⟨h.os, h.tape, h.output, h.size, h.block, h.drawn⟩
structure GrowsX (w w' : World) (H H' : Heap) (g : Option Nat) : Prop where
  below : BelX w w' g
  le : Heap.le H H'
  old : ∀ b, b < w.heap.size → g ≠ some b → ∀ o, H' b o = H b o
  snap : Snap H' w'
def RowX (P : Program) (w' : World) (B : Nat) (H' : Heap) (r : NRow) : Prop :=
  w'.ownsRow B r.e (P.cellsOf r.e) r.s r.n r.xs ∧ (∀ x ∈ r.xs, x.oneCell' = true) ∧ ∀ g, r.s.ownBlock = some g → ∀ o, H' g o = none
def ConM (P : Program) (f : FuncId) (args : List Value) (k : Nat) (e : TypeId) (n : Nat) (xs : List Value) (keep : Bool) (H : Heap) (sh : RSh) (post : List Value → PostR sh.parts (Heap → Prop)) : Prop :=
  FnOK P f ∧ ∀ (w : World) (B : Nat) (s : Value), Snap H w → B ≤ w.heap.size → RowX P w B H ⟨s, e, n, xs⟩ → Calls P f (args.set k s).toArray w fun e' w' => ∃ v H' nr ys, e' = .returned v ∧ Fits sh (post ys) v H' nr ∧
    GrowsX w w' H H' s.ownBlock ∧ (keep = true → RowX P w' B H' ⟨s, e, n, ys⟩) ∧
    (∀ r ∈ nr, RowX P w' B H' r ∧ ∀ g, r.s.ownBlock = some g → w.heap.size ≤ g ∨ (keep = false ∧ s.ownBlock = some g)) ∧ apartRows nr
/- open rows and maps of the call's own, as they lie -/
def keyW (P : Program) (t : TypeId) (v : Value) : Prop := ∃ k e, P.underlying t = some (.map k e) ∧ ((∃ q a, P.underlying k = some (.int q) ∧ v = .int q a) ∨ ∃ s, P.underlying k = some .string ∧ v = .string s)
def XOb (P : Program) : XO → Obj → Prop
  | .row e n c, ob => ∃ cur, ob = .cells cur e (0, 0) ∧ n ≤ c ∧ c ≤ maxLen ∧ cur.size = c * P.cellsOf e
  | .mp t es, ob => ∃ arr clock, ob = .map arr clock ∧ arr.toList.map (fun e => (e.key, e.val)) = es ∧ ∀ p ∈ es, keyW P t p.1
def XFree (P : Program) : XO → Nat → Prop
  | .row e n _, t => n * P.cellsOf e ≤ t
  | .mp _ _, _ => True
/- a box that is handed to a call: what lies in it -/
inductive BC where
  | v (x : Value)
  | row (e : TypeId) (n : Nat) (xs : List Value)
/- arguments of such a call: values, the box's pointer, pointers into its rows -/
inductive BA where
  | v (x : Value)
  | me
  | elt (p j : Nat)
def BA.val (a : Nat) (ys : List Value) : BA → Value
  | .v x => x
  | .me => .pointer (some ⟨a, 0, none⟩)
  | .elt p j => match ys[p]? with
    | some (.slice (some ⟨g, 0, none⟩) _ _) => .pointer (some ⟨g, j, none⟩)
    | _ => undef
def bRows : List BC → List Value → List NRow
  | .row e n xs :: cs, y :: ys => ⟨y, e, n, xs⟩ :: bRows cs ys
  | .v _ :: cs, _ :: ys => bRows cs ys
  | _, _ => []
def bLies : List BC → List Value → Prop
  | [], [] => True
  | .v x :: cs, y :: ys => (y = x ∧ x.oneCell' = true) ∧ bLies cs ys
  | .row _ _ _ :: cs, _ :: ys => bLies cs ys
  | _, _ => False
/- the blocks that are handed -/
def Names (a : Option Nat) (nr : List NRow) (O : OMap) (b : Nat) : Prop := a = some b ∨ (∃ r ∈ nr, r.s.ownBlock = some b) ∨ O b ≠ none
structure BoxW (P : Program) (w : World) (H : Heap) (a : Nat) (t : TypeId) (ys : List Value) (nr : List NRow) (O : OMap) : Prop where
  box : w.heap[a]? = some (.cells ⟨ys⟩ t (0, 0))
  hid : ∀ o, H a o = none
  rows : ∀ r ∈ nr, RowX P w 0 H r
  ne : ∀ r ∈ nr, r.s.ownBlock ≠ some a
  apart : apartRows nr
  opn : ∀ b x, O b = some x → (∃ ob, w.heap[b]? = some ob ∧ XOb P x ob) ∧ ∀ t, XFree P x t → H b t = none
  opn2 : ∀ b, O b ≠ none → b ≠ a ∧ ∀ r ∈ nr, r.s.ownBlock ≠ some b
/- the contract of a call that is handed a box of the caller's own with what lies in it, and hands it back -/
def ConB (P : Program) (f : FuncId) (args : List BA) (t : TypeId) (cs : List BC) (H : Heap) (O : OMap) (ls : List Leaf) (sh : RSh) (post : PostL ls (PostR sh.parts (Heap → OMap → Prop))) : Prop :=
  FnOK P f ∧ ∀ (w : World) (a : Nat) (ys : List Value), Snap H w → bLies cs ys → BoxW P w H a t ys (bRows cs ys) O → Calls P f (args.map (BA.val a ys)).toArray w fun e' w' => ∃ v H' O' ys' nr, e' = .returned v ∧
    (exL ls post nr fun vs nr1 q => vs = ys' ∧ exR sh.parts q nr1 fun us nr2 p => nr2 = [] ∧ (if sh.tup then v = .tuple ⟨us⟩ else us = [v]) ∧ p H' O') ∧
    BelS w w' (Names (some a) (bRows cs ys) O) ∧ Heap.le H H' ∧ (∀ b, b < w.heap.size → ¬ Names (some a) (bRows cs ys) O b → ∀ o, H' b o = H b o) ∧ Snap H' w' ∧ BoxW P w' H' a t ys' nr O' ∧
    (∀ b, Names (some a) nr O' b → w.heap.size ≤ b ∨ Names (some a) (bRows cs ys) O b)
/- the contract of a call that hands back a new box -/
def ConN (P : Program) (f : FuncId) (args : List Value) (t : TypeId) (H : Heap) (O : OMap) (ls : List Leaf) (post : PostL ls (Heap → OMap → Prop)) : Prop :=
  FnOK P f ∧ ∀ (w : World), Snap H w → (∀ b x, O b = some x → (∃ ob, w.heap[b]? = some ob ∧ XOb P x ob) ∧ ∀ t, XFree P x t → H b t = none) → Calls P f args.toArray w fun e' w' => ∃ a H' O' ys' nr, e' = .returned (.pointer (some ⟨a, 0, none⟩)) ∧
    (exL ls post nr fun vs nr1 q => vs = ys' ∧ nr1 = [] ∧ q H' O') ∧
    BelS w w' (Names none [] O) ∧ Heap.le H H' ∧ (∀ b, b < w.heap.size → ¬ Names none [] O b → ∀ o, H' b o = H b o) ∧ Snap H' w' ∧ BoxW P w' H' a t ys' nr O' ∧
    (∀ b, Names (some a) nr O' b → w.heap.size ≤ b ∨ Names none [] O b)
/- all values of the leaves, laid into the state -/
def allL : (ls : List Leaf) → {R : Type} → PostL ls R → St → (List S1 → St → R → Prop) → Prop
  | [], _, p, st, K => K [] st p
  | .int k :: ls, _, p, st, K => ∀ n : Int, allL ls (p n) st fun cs st q => K (.v (.int k n) :: cs) st q
  | .bool :: ls, _, p, st, K => ∀ b : Bool, allL ls (p b) st fun cs st q => K (.b b :: cs) st q
  | .str :: ls, _, p, st, K => ∀ s : ByteArray, allL ls (p s) st fun cs st q => K (.v (.string s) :: cs) st q
  | .sl :: ls, _, p, st, K => ∀ A n c, allL ls (p A n c) st fun cs st q => K (.v (.slice A n c) :: cs) st q
  | .mp :: ls, _, p, st, K => ∀ A : Option Nat, allL ls (p A) st fun cs st q => K (.v (.map A) :: cs) st q
  | .val :: ls, _, p, st, K => ∀ v : Value, allL ls (p v) st fun cs st q => K (.v v :: cs) st q
  | .cells :: _, _, _, _, _ => False
  | .row i e :: ls, _, p, st, K => if fresh? st i then ∀ n xs, allL ls (p n xs) (setL st i (.row e n xs)) fun cs st q => K (.own i :: cs) st q else False
def allR : (ps : List (Bool × List Leaf)) → {R : Type} → PostR ps R → St → (List (Bool × List S1) → St → R → Prop) → Prop
  | [], _, p, st, K => K [] st p
  | (g, ls) :: ps, _, p, st, K => allL ls p st fun cs st q => allR ps q st fun r st q => K ((g, cs) :: r) st q
def mkRes (tup : Bool) (r : List (Bool × List S1)) : Option SV :=
  match tup, r with
  | true, r => some (.tup r)
  | false, [(g, cs)] => mkSV g cs
  | false, _ => none
/- the leaves' values out of a state -/
def S1.asInt (k : IntKind) : S1 → Option Int
  | .v (.int k' n) => if k = k' then some n else none
  | _ => none
def S1.asStr : S1 → Option ByteArray
  | .v (.string s) => some s
  | _ => none
def S1.asSl : S1 → Option (Option Addr × Nat × Nat)
  | .v (.slice A n c) => some (A, n, c)
  | _ => none
def S1.asMp : S1 → Option (Option Nat)
  | .v (.map A) => some A
  | _ => none
def S1.asVal (c : S1) : Option Value := match c.ok1 with
  | true => c.toV
  | false => none
def takeRow (st : St) (e : TypeId) : S1 → Option (Nat × List Value × St)
  | .own k => match getW st k with
    | some (.row e' n xs) => if e' = e then some (n, xs, setL st k .dead) else none
    | _ => none
  | .sub k l m _ => match l with
    | 0 => match getW st k with
      | some (.row e' n xs) => if e' = e then some (m, cutR xs n m, setL st k .dead) else none
      | _ => none
    | _ + 1 => none
  | .v (.slice none 0 0) => some (0, [], st)
  | _ => none
def colL : (ls : List Leaf) → {R : Type} → PostL ls R → List S1 → St → Option (R × St)
  | [], _, p, cs, st => match cs with
    | [] => some (p, st)
    | _ :: _ => none
  | .int k :: ls, _, p, cs, st => match cs with
    | [] => none
    | c :: cs => match c.asInt k with
      | some n => colL ls (p n) cs st
      | none => none
  | .bool :: ls, _, p, cs, st => match cs with
    | [] => none
    | c :: cs => match c.asB with
      | some b => colL ls (p b) cs st
      | none => none
  | .str :: ls, _, p, cs, st => match cs with
    | [] => none
    | c :: cs => match c.asStr with
      | some s => colL ls (p s) cs st
      | none => none
  | .sl :: ls, _, p, cs, st => match cs with
    | [] => none
    | c :: cs => match c.asSl with
      | some (A, n, c) => colL ls (p A n c) cs st
      | none => none
  | .mp :: ls, _, p, cs, st => match cs with
    | [] => none
    | c :: cs => match c.asMp with
      | some A => colL ls (p A) cs st
      | none => none
  | .val :: ls, _, p, cs, st => match cs with
    | [] => none
    | c :: cs => match c.asVal with
      | some v => colL ls (p v) cs st
      | none => none
  | .cells :: _, _, _, _, _ => none
  | .row _ e :: ls, _, p, cs, st => match cs with
    | [] => none
    | c :: cs => match takeRow st e c with
      | some (n, xs, st) => colL ls (p n xs) cs st
      | none => none
def colR : (ps : List (Bool × List Leaf)) → {R : Type} → PostR ps R → List SV → St → Option (R × St)
  | [], _, p, [], st => some (p, st)
  | (g, ls) :: ps, _, p, x :: xs, st => match g, resV st x with
    | true, .agg cs => match colL ls p cs st with
      | some (q, st) => colR ps q xs st
      | none => none
    | false, .one c => match colL ls p [c] st with
      | some (q, st) => colR ps q xs st
      | none => none
    | _, _ => none
  | _, _, _, _, _ => none

/- lending memory of the call's own for the time of a call -/
def lendBy (l1 : S1 → Heap → (Value → Heap → Prop) → Prop) : List S1 → Heap → (List Value → Heap → Prop) → Prop
  | [], H, K => K [] H
  | x :: xs, H, K => l1 x H fun v H' => lendBy l1 xs H' fun vs H'' => K (v :: vs) H''
def lendF (st : St) : Nat → S1 → Heap → (Value → Heap → Prop) → Prop
  | 0, x, H, K => match x.toV with
    | some v => K v H
    | none => False
  | n + 1, x, H, K => match x with
    | .loc i off => match getL st i with
      | some (.box _ cs) => if ok1s cs then lendBy (lendF st n) cs H fun vs H1 => ∀ g H', Heap.le H1 H' → Cells H' (some ⟨g, 0, none⟩) 0 vs → K (.pointer (some ⟨g, off, none⟩)) H'
        else False
      | _ => False
    | .own i => match getL st i with
      | some (.row _ n xs) => ∀ A c H', Heap.le H H' → Cells H' A 0 xs → leN n c → K (.slice A n c) H'
      | _ => False
    | x => match x.toV with
      | some v => K v H
      | none => False
def lend1 (st : St) (x : S1) (H : Heap) (K : Value → Heap → Prop) : Prop := lendF st 4 x H K
def lendL (st : St) (xs : List S1) (H : Heap) (K : List Value → Heap → Prop) : Prop := lendBy (lend1 st) xs H K
def lendS (st : St) (x : SV) (H : Heap) (K : Value → Heap → Prop) : Prop :=
  match x with
  | .one x => lend1 st x H K
  | .agg cs => lendL st cs H fun vs H' => K (.agg ⟨vs⟩) H'
  | .clo f cap => lendL st cap H fun vs H' => K (.func (.func f) #[] ⟨vs⟩) H'
  | .tup _ => False
def lendA (st : St) : List SV → Heap → (List Value → Heap → Prop) → Prop
  | [], H, K => K [] H
  | x :: xs, H, K => lendS st x H fun v H' => lendA st xs H' fun vs H'' => K (v :: vs) H''

/- making a row of the call's own public, for good -/
def vcPub (st : St) (i : Nat) (K : St → Prop) : Prop :=
  match getW st i with
  | some (.row _ n xs) => ∀ A c H', Heap.le st.H H' → Cells H' A 0 xs → leN n c → K (setL { st with H := H' } i (.pub A n c))
  | some (.pub _ _ _) => K st
  | _ => False
def vcPubs (K : St → Prop) : List Nat → St → Prop
  | [], st => K st
  | i :: is, st => vcPub st i fun st' => vcPubs K is st'
/- the rows that a value names -/
def owns1 : List S1 → List Nat
  | [] => []
  | .own i :: cs => i :: owns1 cs
  | _ :: cs => owns1 cs
def SV.owns : SV → List Nat
  | .one x => owns1 [x]
  | .agg cs => owns1 cs
  | .clo _ cap => owns1 cap
  | .tup _ => []
def ownsA : List SV → List Nat
  | [] => []
  | x :: xs => x.owns ++ ownsA xs

def partOf (Γ : Tab) (t : TypeId) : Bool × List Leaf :=
  match Γ t with
  | some i => (i.agg, leavesOf Γ 9 t)
  | none => (false, [.val])
def shOf (Γ : Tab) (tup : TypeId → Option (List TypeId)) (t : TypeId) : RSh :=
  match tup t with
  | some ts => ⟨true, ts.map (partOf Γ)⟩
  | none => ⟨false, [partOf Γ t]⟩

/- what a loop carries -/
inductive Item where
  | slot (d : Nat) (agg : Bool) (ls : List Leaf)
  | box (i : Nat) (t : TypeId) (ls : List Leaf)
  | arr (i : Nat) (t : TypeId)
  | rowc (i : Nat) (e : TypeId)
/- an order for a region: reads taken first, and where an effect comes up: whichever comes up -/
inductive Sch where
  | done
  | fin
  | take (j : Nat) (r : Sch)
  | alt (j : Nat) (r : Sch) (rest : Sch)
def tk : List Nat → Sch → Sch
  | [], r => r
  | j :: js, r => .take j (tk js r)
def Sch.ids : Sch → List Nat
  | .alt j _ rest => j :: rest.ids
  | _ => []
/- the choices laid down for one function's code -/
structure Ann where
  res : Nat → Option RSh
  lend : Nat → Bool
  sch : Nat → Sch
  lt : Nat → List Item
  tup : TypeId → Option (List TypeId)
  mt : FuncId → Option Bool := fun _ => none
  opn : Bool := false
  oap : Nat → Bool := fun _ => false
  bx : Option Nat → FuncId → Option (List Leaf) := fun _ _ => none
  nb : Nat → Option (TypeId × List Leaf) := fun _ => none
  tr : Nat → Bool := fun _ => false
def Ann.oapd (an : Ann) : Option Nat → Bool
  | some d => an.oap d
  | none => false

def resSh (Γ : Tab) (an : Ann) (d : Option Tmp) (t : TypeId) : RSh :=
  match d with
  | some d => match an.res d with
    | some s => s
    | none => shOf Γ an.tup t
  | none => shOf Γ an.tup t
def vcRes (sh : RSh) (d : Option Tmp) (r : List (Bool × List S1)) (st : St) (K : St → Prop) : Prop :=
  match mkRes sh.tup r with
  | some x => K (setS st d x)
  | none => False
def vcPlain (P : Program) (sh : RSh) (st : St) (d : Option Tmp) (f : FuncId) (vals : List Value) (K : St → Prop) : Prop :=
  ∃ post : PostR sh.parts (Heap → Prop), ConT P f vals st.H sh post ∧ ∀ H', Heap.le st.H H' →
    allR sh.parts post { st with H := H' } fun r st' q => q H' → vcRes sh d r st' K
def lendOf (an : Ann) (d : Option Tmp) : Bool := match d with
  | some d => an.lend d
  | none => false
/- the one row among the arguments: its place, its number, the arguments with a hole -/
def oneRow : List SV → Nat → Option (Nat × Nat)
  | [], _ => none
  | .one (.own i) :: _, k => some (k, i)
  | _ :: xs, k => oneRow xs (k + 1)
def vcMut (P : Program) (ln : Bool) (sh : RSh) (st : St) (d : Option Tmp) (f : FuncId) (as : List SV) (keep : Bool) (K : St → Prop) : Prop :=
  match oneRow as 0 with
  | none => False
  | some (k, i) => match getW st i with
    | some (.row e n xs) => match plains (as.set k (.one (.v (.slice none 0 0)))) with
      | none => match ln with
        | true => ∃ post : List Value → PostR sh.parts (Heap → Prop), lendA (setL st i .dead) (as.set k (.one (.v (.slice none 0 0)))) st.H (fun vals H1 => ConM P f vals k e n xs keep H1 sh post) ∧ ∀ H' ys,
          allR sh.parts (post ys) (setL st i (if keep then .row e n ys else .dead)) fun r st' q => q H' → vcRes sh d r st' K
        | false => False
      | some vals => ∃ post : List Value → PostR sh.parts (Heap → Prop), ConM P f vals k e n xs keep st.H sh post ∧ ∀ H', Heap.le st.H H' → ∀ ys,
          allR sh.parts (post ys) { setL st i (if keep then .row e n ys else .dead) with H := H' } fun r st' q => q H' → vcRes sh d r st' K
    | _ => False
/- reading out a box that is handed on: its rows go with it -/
def takeBox : List Leaf → List S1 → St → Option (List BC × St)
  | [], [], st => some ([], st)
  | .row _ e :: ls, c :: cs, st => match takeRow st e c with
    | some (n, xs, st1) => match takeBox ls cs st1 with
      | some (bs, st2) => some (.row e n xs :: bs, st2)
      | none => none
    | none => none
  | _ :: ls, c :: cs, st => match c.asVal with
    | some x => match takeBox ls cs st with
      | some (bs, st2) => some (.v x :: bs, st2)
      | none => none
    | none => none
  | _, _, _ => none
def boxArg : List SV → Option Nat
  | [] => none
  | .one (.loc i 0) :: _ => some i
  | _ :: xs => boxArg xs
def posOf (k : Nat) : List S1 → Nat → Option Nat
  | [], _ => none
  | .own k' :: cs, p => if k' = k then some p else posOf k cs (p + 1)
  | _ :: cs, p => posOf k cs (p + 1)
def baOf (i : Nat) (cells : List S1) : SV → Option BA
  | .one (.loc k 0) => if k = i then some .me else none
  | .one (.oelt k j) => match posOf k cells 0 with
    | some p => some (.elt p j)
    | none => none
  | x => match x.plain with
    | some v => some (.v v)
    | none => none
def baL (i : Nat) (cells : List S1) : List SV → Option (List BA)
  | [] => some []
  | x :: xs => match baOf i cells x with
    | some b => match baL i cells xs with
      | some bs => some (b :: bs)
      | none => none
    | none => none
def vcBox (P : Program) (ls : List Leaf) (sh : RSh) (st : St) (d : Option Tmp) (f : FuncId) (as : List SV) (K : St → Prop) : Prop :=
  match boxArg as with
  | none => False
  | some i => match getW st i with
    | some (.box t cs0) => match baL i (cs0.map (res1 st)) as with
      | none => False
      | some bas => match takeBox ls (cs0.map (res1 st)) st with
        | none => False
        | some (bcs, st1) => ∃ post : PostL ls (PostR sh.parts (Heap → OMap → Prop)), ConB P f bas t bcs st.H st.O ls sh post ∧ ∀ H', Heap.le st.H H' → ∀ O',
            allL ls post { setL st1 i (.box t (ls.map fun _ => S1.any)) with H := H', O := O' } fun cs st2 q => allR sh.parts q (setL st2 i (.box t cs)) fun r st3 p => p H' O' → vcRes sh d r st3 K
    | _ => False
def vcNew2 (P : Program) (t : TypeId) (ls : List Leaf) (st : St) (d : Nat) (f : FuncId) (vals : List Value) (K : St → Prop) : Prop :=
  if fresh? st d then ∃ post : PostL ls (Heap → OMap → Prop), ConN P f vals t st.H st.O ls post ∧ ∀ H', Heap.le st.H H' → ∀ O',
    allL ls post { setL st d (.box t (ls.map fun _ => S1.any)) with H := H', O := O' } fun cs st2 q => q H' O' → K (setS (setL st2 d (.box t cs)) (some d) (.one (.loc d 0))) else False
def nbOf (an : Ann) (d : Option Tmp) : Option (Nat × TypeId × List Leaf) := match d with
  | some d => match an.nb d with
    | some (t, ls) => some (d, t, ls)
    | none => none
  | none => none
/- the rows among the arguments but for the one that is handed on -/
def ownsO (as : List SV) : List Nat := match oneRow as 0 with
  | some (k, _) => ownsA (as.set k (.one .un))
  | none => []
/- a call: 'args' evaluates the arguments. Arguments that hold memory of the call's own: it is lent for the time of the call, or made public for good -/
def vcCall (P : Program) (Γ : Tab) (an : Ann) (t : TypeId) (st : St) (d : Option Tmp) (f : FuncId) (args : St → Option (List SV)) (K : St → Prop) : Prop :=
  match args st with
  | none => False
  | some as => match an.bx d f with
   | some ls => vcBox P ls (resSh Γ an d t) st d f as K
   | none => match nbOf an d with
    | some (d', t', ls) => vcPubs (fun st' => match args st' with
      | none => False
      | some as => match plains as with
        | some vals => vcNew2 P t' ls st' d' f vals K
        | none => False) (ownsA as) st
    | none => match plains as with
    | some vals => vcPlain P (resSh Γ an d t) st d f vals K
    | none => match an.mt f with
     | some keep => match lendOf an d with
       | true => vcMut P true (resSh Γ an d t) st d f as keep K
       | false => vcPubs (fun st' => match args st' with
         | none => False
         | some as => vcMut P false (resSh Γ an d t) st' d f as keep K) (ownsO as) st
     | none => match lendOf an d with
      | true => ∃ post : PostR (resSh Γ an d t).parts (Heap → Prop), lendA st as st.H (fun vals H' => ConT P f vals H' (resSh Γ an d t) post) ∧
          ∀ H', allR (resSh Γ an d t).parts post st fun r st' q => q H' → vcRes (resSh Γ an d t) d r st' K
      | false => vcPubs (fun st' => match args st' with
        | none => False
        | some as => match plains as with
          | some vals => vcPlain P (resSh Γ an d t) st' d f vals K
          | none => False) (ownsA as) st

def lenIs (xs : List Value) (n : Nat) : Prop := xs.length = n
def llen (xs : List Value) : Nat := xs.length
def vcStore (Γ : Tab) (st : St) (t : TypeId) (x y : SV) (K : St → Prop) : Prop :=
  match Γ t with
  | none => False
  | some i => match y.cells with
    | none => False
    | some ys =>
      if ys.length = i.size ∧ ok1s ys then match x with
        | .one (.loc o off) => match getW st o with
          | some (.box t0 cs) => if off + ys.length ≤ cs.length then K (setL st o (.box t0 (cs.take off ++ ys ++ cs.drop (off + ys.length)))) else False
          | some (.arr t0 xs) => match off with
            | 0 => match toVs ys with
              | some vs => lenIs xs i.size ∧ K (setL st o (.arr t0 vs))
              | none => False
            | _ + 1 => False
          | _ => False
        | .one (.aelt o j) => match getW st o with
          | some (.arr t0 xs) => match toVs ys with
            | some vs => leN (nadd j i.size) (llen xs) ∧ K (setL st o (.arr t0 (splice xs j vs)))
            | none => False
          | _ => False
        | .one (.oelt o j) => match getW st o with
          | some (.row e n xs) => match toVs ys with
            | some vs => leN (nadd j i.size) (llen xs) ∧ K (setL st o (.row e n (splice xs j vs)))
            | none => False
          | _ => False
        | _ => False
      else False

/- the cells of the second argument of an append -/
def vcApp2 (st : St) (e : TypeId) (sz : Nat) (x : SV) (K : Nat → List Value → Prop) : Prop :=
  match x with
  | .one (.own k) => match getL st k with
    | some (.row e' m ys) => if e' = e then K m ys else False
    | _ => False
  | .one (.v (.slice A m _)) => ∃ ys, Cells st.H A 0 ys ∧ lenIs ys (nmul m sz) ∧ K m ys
  | _ => False
def vcAppend (opn : Bool) (Γ : Tab) (st : St) (d : Option Tmp) (t : TypeId) (s x : SV) (K : St → Prop) : Prop :=
  match d with
  | none => False
  | some d => match Γ t with
    | none => False
    | some i => match i.ty with
      | .slice e => match Γ e with
        | none => False
        | some j => if fresh? st d ∧ 0 < j.size ∧ 0 < j.bytes then match opn with
          | true => match s with
            | .one (.v (.slice A n c)) => ∃ xs, isOpen st.O A e n c ∧ Cells st.H A 0 xs ∧ lenIs xs (nmul n j.size) ∧ vcApp2 st e j.size x fun m ys =>
                leN (nmul (nadd n m) j.bytes) 140737488355328 ∧ ∀ A' c' H' O', Heap.le st.H H' → Cells H' A' 0 (cat xs ys) → leN (nadd n m) c' → isOpen O' A' e (nadd n m) c' → keepO st.O O' A A' →
                  K (setS { st with H := H', O := O' } (some d) (.one (.v (.slice A' (nadd n m) c'))))
            | _ => False
          | false => match s with
            | .one (.v (.slice none 0 0)) => vcApp2 st e j.size x fun m ys =>
                leN (nmul m j.bytes) 140737488355328 ∧ K (setS (setL st d (.row e m ys)) (some d) (.one (.own d)))
            | .one (.own k) => match getW st k with
              | some (.row e' n xs) => if e' = e then vcApp2 st e j.size x fun m ys =>
                  leN (nmul (nadd n m) j.bytes) 140737488355328 ∧ K (setS (setL (setL st k .dead) d (.row e (nadd n m) (cat xs ys))) (some d) (.one (.own d))) else False
              | _ => False
            | _ => False
          else False
      | _ => False

def repl (z : List Value) : Nat → List Value
  | 0 => []
  | n + 1 => z ++ repl z n
def replN (z : List Value) (n : Nat) : List Value := repl z n
def isRepl (xs : List Value) (z : List Value) (n : Nat) : Prop := xs = repl z n

def vcNew (st : St) (d : Nat) (t : TypeId) (i : TyI) (cs : List S1) (K : St → Prop) : Prop :=
  match i.ty with
  | .array _ _ => match toVs cs with
    | some vs => K (setS (setL st d (.arr t vs)) (some d) (.one (.loc d 0)))
    | none => False
  | _ => K (setS (setL st d (.box t cs)) (some d) (.one (.loc d 0)))
def vcClear (st : St) (d : Option Tmp) (e : TypeId) (j : TyI) (x : SV) (K : St → Prop) : Prop :=
  match d with
  | none => match x with
    | .one (.own k) => match getW st k with
      | some (.row e' n xs) => if e' = e then K (setL st k (.row e n (replN j.zero n))) else False
      | _ => False
    | .one (.sub k l m sz) => match getW st k with
      | some (.row e' n xs) => if e' = e ∧ sz = j.size then K (setL st k (.row e n (splice xs (nmul l sz) (replN j.zero m)))) else False
      | _ => False
    | _ => False
  | some _ => False
def mapHint (st : St) : Option Operand → Bool
  | none => true
  | some x => match ev st x with
    | some (.one (.v (.int _ _))) => true
    | _ => false
def keyOK : Ty → Value → Bool
  | .int q, .int q' _ => q == q'
  | .string, .string _ => true
  | _, _ => false
/- what a look-up reads -/
def lkIs (es : List (Value × Value)) (k : Value) (agg : Bool) (z vs : List Value) : Prop := match mfind es k with
  | some v => mkV agg vs = some v
  | none => vs = z
/- what makes or writes memory, and calls -/
def vcEf (P : Program) (Γ : Tab) (an : Ann) (st : St) (d : Option Tmp) (ty : TypeId) (op : Op) (K : St → Prop) : Prop :=
  match op with
  | .alloc t => match d with
    | none => False
    | some d => match Γ t with
      | none => False
      | some i => if fresh? st d then vcNew st d t i (i.zero.map S1.v) K else False
  | .box t x => match d with
    | none => False
    | some d => match Γ t with
      | none => False
      | some i => match ev st x with
        | none => False
        | some x => match x.cells with
          | none => False
          | some cs => if fresh? st d ∧ cs.length = i.size ∧ ok1s cs then vcNew st d t i cs K else False
  | .buildSlice t n parts => match d with
    | none => False
    | some d => match Γ t with
      | none => False
      | some i => match i.ty with
        | .slice e => match Γ e with
          | none => False
          | some j => match lay st (fun f => if f < n then some (f * j.size, j.size) else none) parts.toList ((repl j.zero n).map S1.v) with
            | none => False
            | some cs => vcPubs (fun st => match lay st (fun f => if f < n then some (f * j.size, j.size) else none) parts.toList ((repl j.zero n).map S1.v) with
              | none => False
              | some cs => match toVs cs with
                | none => False
                | some vs => if fresh? st d ∧ ok1s cs ∧ n * j.size ≤ 16777216 ∧ 0 < j.size ∧ 0 < j.bytes then K (setS (setL st d (.row e n vs)) (some d) (.one (.own d))) else False) (owns1 cs) st
        | _ => False
  | .makeSlice t l c => match d with
    | none => False
    | some d => match Γ t with
      | none => False
      | some i => match i.ty with
        | .slice e => match Γ e with
          | none => False
          | some j => match ev st l with
            | some (.one (.v (.int _ l))) => match ev st c with
              | some (.one (.v (.int _ c))) => if fresh? st d ∧ 0 < j.size ∧ 0 < j.bytes then
                  eqI c l ∧ leI 0 l ∧ leI (imul l (ofN j.bytes)) 140737488355328 ∧ ∀ xs, isRepl xs j.zero l.toNat → K (setS (setL st d (.row e l.toNat xs)) (some d) (.one (.own d)))
                else False
              | _ => False
            | _ => False
        | _ => False
  | .store t a x => match d with
    | some _ => False
    | none => match ev st a with
      | none => False
      | some a => match ev st x with
        | none => False
        | some x => vcStore Γ st t a x K
  | .makeMap t r => match d with
    | none => False
    | some d => match Γ t with
      | none => False
      | some i => match i.ty with
        | .map _ _ => match mapHint st r with
          | true => ∀ b O', newM st.O O' b t → K (setS { st with O := O' } (some d) (.one (.v (.map (some b)))))
          | false => False
        | _ => False
  | .lookup t m k ok => match d with
    | none => False
    | some d => match Γ t with
      | none => False
      | some i => match i.ty with
        | .map kt e => match Γ kt with
          | none => False
          | some ki => match Γ e with
            | none => False
            | some ei => match ev st m with
              | some (.one (.v (.map A))) => match ev st k with
                | some (.one (.v kv)) => match keyOK ki.ty kv with
                  | true => ∃ es, isMap st.O A t es ∧ exQ (leavesOf Γ 9 e) fun vs cs => lkIs es kv ei.agg ei.zero vs ∧ (if vs.length = ei.size then match mkSV ei.agg cs with
                      | some r => match ok with
                        | true => K (setS st (some d) (.tup [(ei.agg, cs), (false, [.b (mhas es kv)])]))
                        | false => K (setS st (some d) r)
                      | none => False else False)
                  | false => False
                | _ => False
              | _ => False
        | _ => False
  | .mapUpdate t m k x => match d with
    | some _ => False
    | none => match Γ t with
      | none => False
      | some i => match i.ty with
        | .map kt _ => match Γ kt with
          | none => False
          | some ki => match ev st m with
            | some (.one (.v (.map A))) => match ev st k with
              | some (.one (.v kv)) => match keyOK ki.ty kv with
                | true => match ev st x with
                  | some xv => match xv.plain with
                    | some vv => ∃ es, hasM st.O A t es ∧ ∀ O', putM st.O O' A t (mput es kv vv) → K { st with O := O' }
                    | none => False
                  | none => False
                | false => False
              | _ => False
            | _ => False
        | _ => False
  | .call { callee := .builtin .append, args, argTypes } => match args.toList with
    | [s, x] => match argTypes.toList with
      | [t, t'] => if t = t' then match ev st s with
        | none => False
        | some s => match ev st x with
          | none => False
          | some x => vcAppend (an.oapd d) Γ st d t s x K
        else False
      | _ => False
    | _ => False
  | .call { callee := .builtin .clear, args, argTypes } => match args.toList with
    | [x] => match argTypes.toList with
      | [t] => match Γ t with
        | some i => match i.ty with
          | .slice e => match Γ e with
            | some j => match ev st x with
              | some x => vcClear st d e j x K
              | none => False
            | none => False
          | _ => False
        | none => False
      | _ => False
    | _ => False
  | .call { callee := .value f, args, .. } => match ev st f with
    | some (.clo f cap) => vcCall P Γ an ty st d f (fun st => match evs st args.toList with
      | some as => some (as ++ cap.map fun c => .one (res1 st c))
      | none => none) K
    | some (.one (.v (.func (.func f) first cap))) => match first.toList with
      | [] => vcCall P Γ an ty st d f (fun st => match evs st args.toList with
        | some as => some (as ++ cap.toList.map fun c => .one (.v c))
        | none => none) K
      | _ => False
    | _ => False
  | _ => False

def isRd : Op → Bool
  | .alloc _ | .box _ _ | .buildSlice .. | .makeSlice .. | .store .. | .makeMap .. | .lookup .. | .mapUpdate .. => false
  | .call { callee := .builtin .append, .. } | .call { callee := .builtin .clear, .. } | .call { callee := .value _, .. } => false
  | _ => true
/- a row cut at an end: the row as it was is given up -/
def vcTr (Γ : Tab) (st : St) (d : Nat) (t : TypeId) (x : SV) (hi : Option Operand) (K : St → Prop) : Prop :=
  match Γ t with
  | none => False
  | some i => match i.ty with
    | .slice e => match Γ e with
      | none => False
      | some j => match x with
        | .one (.own k) => match getW st k with
          | some (.row e' n xs) => match bound st hi (ofN n) with
            | some h => if e' = e ∧ fresh? st d then leI 0 h ∧ leI h (ofN n) ∧ K (setS (setL (setL st k .dead) d (.row e h.toNat (cutR xs n h.toNat))) (some d) (.one (.own d))) else False
            | none => False
          | _ => False
        | .one (.v (.slice none 0 0)) => match bound st hi 0 with
          | some h => eqI h 0 ∧ K (setS st (some d) (.one (.v (.slice none 0 0))))
          | none => False
        | _ => False
    | _ => False
def trOf (an : Ann) (o : Oper) : Option (Nat × TypeId × Operand × Option Operand) := match o.dst with
  | none => none
  | some d => match an.tr d with
    | true => match o.op with
      | .slice t x none hi none => some (d, t, x, hi)
      | _ => none
    | false => none
def vcExec (P : Program) (Γ : Tab) (an : Ann) (st : St) (o : Oper) (K : St → Prop) : Prop :=
  match trOf an o with
  | some (d, t, x, hi) => match ev st x with
    | some x => vcTr Γ st d t x hi K
    | none => False
  | none => match isRd o.op with
  | true => vcRd Γ st o.op fun r => K (setS st o.dst r)
  | false => vcEf P Γ an st o.dst o.type o.op K

/- a region: its operations in an order, and behind each operation that guards others a fork on what it yields -/
inductive It where
  | op (i : Nat)
  | fork (i : Nat)
def dstOf (l : List Oper) (j : Nat) : Option Tmp := match l[j]? with
  | some o => o.dst
  | none => none
def vcFork (l : List Oper) (j : Nat) (st : St) (K : St → Prop) : Prop :=
  match dstOf l j with
  | none => K st
  | some d => match st.fr[d]? with
    | some (.one (.b x)) => (x = true → K (setS st (some d) (.one .tt))) ∧ (x = false → K (setS st (some d) (.one .ff)))
    | some (.one (.v (.bool x))) => (x = true → K (setS st (some d) (.one .tt))) ∧ (x = false → K (setS st (some d) (.one .ff)))
    | _ => K st
def vcOne (P : Program) (Γ : Tab) (an : Ann) (l : List Oper) (st : St) (o : Oper) (K : St → Prop) : Prop :=
  match o.guard with
  | none => vcExec P Γ an st o K
  | some (j, want) => match dstOf l j with
    | none => False
    | some d => match st.fr[d]? with
      | some (.one .tt) => match want with
        | true => vcExec P Γ an st o K
        | false => K (setS st o.dst (.one .un))
      | some (.one .ff) => match want with
        | false => vcExec P Γ an st o K
        | true => K (setS st o.dst (.one .un))
      | some (.one .un) => K (setS st o.dst (.one .un))
      | _ => False
def vcItems (P : Program) (Γ : Tab) (an : Ann) (l : List Oper) (K : St → Prop) : List It → St → Prop
  | [], st => K st
  | .op i :: is, st => match l[i]? with
    | some o => vcOne P Γ an l st o fun st' => vcItems P Γ an l K is st'
    | none => False
  | .fork i :: is, st => vcFork l i st fun st' => vcItems P Γ an l K is st'
def guards (l : List Oper) (i : Nat) : Bool := match l with
  | [] => false
  | o :: l => match o.guard with
    | some (j, _) => if i = j then true else guards l i
    | none => guards l i
def itemsOf (l : List Oper) : List Nat → List It
  | [] => []
  | i :: is => match guards l i with
    | true => .op i :: .fork i :: itemsOf l is
    | false => .op i :: itemsOf l is

/- which slots a piece of code writes -/
def writesO : List Oper → List Nat
  | [] => []
  | o :: l => match o.dst with
    | some d => d :: writesO l
    | none => writesO l
def firstReg : Code → Nat
  | .region id _ _ => id
  | .seq a _ => firstReg a
  | .cond _ a _ => firstReg a
  | .block _ c => firstReg c
  | .loop c => firstReg c
  | _ => 0
def itemSlots : List Item → List Nat
  | [] => []
  | .slot d _ _ :: is => d :: itemSlots is
  | _ :: is => itemSlots is
def writes (an : Ann) : Code → List Nat
  | .region _ ops _ => writesO ops.toList
  | .seq a b => writes an a ++ writes an b
  | .cond _ a b => writes an a ++ writes an b
  | .block _ c => writes an c
  | .loop c => itemSlots (an.lt (firstReg c)) ++ writes an c
  | _ => []
def rowIds : List Leaf → List Nat
  | [] => []
  | .row i _ :: ls => i :: rowIds ls
  | _ :: ls => rowIds ls
def itemIds : List Item → List Nat
  | [] => []
  | .slot _ _ ls :: is => rowIds ls ++ itemIds is
  | .box _ _ ls :: is => rowIds ls ++ itemIds is
  | .arr _ _ :: is => itemIds is
  | .rowc _ _ :: is => itemIds is
def resIds (an : Ann) : List Nat → List Nat
  | [] => []
  | d :: ds => match an.res d with
    | some sh => sh.parts.flatMap (fun x => rowIds x.2) ++ resIds an ds
    | none => resIds an ds
def bxIds (an : Ann) : List Oper → List Nat
  | [] => []
  | o :: os => match o.op with
    | .call { callee := .value (.func f), .. } => match an.bx o.dst f with
      | some ls => rowIds ls ++ bxIds an os
      | none => match nbOf an o.dst with
        | some (_, _, ls) => rowIds ls ++ bxIds an os
        | none => bxIds an os
    | _ => bxIds an os
/- numbers for objects that a piece of code may give out -/
def idsOf (an : Ann) : Code → List Nat
  | .region _ ops _ => writesO ops.toList ++ resIds an (writesO ops.toList) ++ bxIds an ops.toList
  | .seq a b => idsOf an a ++ idsOf an b
  | .cond _ a b => idsOf an a ++ idsOf an b
  | .block _ c => idsOf an c
  | .loop c => itemIds (an.lt (firstReg c)) ++ idsOf an c
  | _ => []
def havF : List Nat → List SV → List SV
  | [], fr => fr
  | d :: ds, fr => havF ds (fr.set d (.one .any))
def havL : List Nat → List (Option Ent) → List (Option Ent)
  | [], L => L
  | d :: ds, L => havL ds (L.set d none)
def lock : List (Option Ent) → List (Option Ent)
  | [] => []
  | some (_, o) :: L => some (false, o) :: lock L
  | none :: L => none :: lock L
/- after the loop what could be written before it can be written again -/
def unlock : List (Option Ent) → List (Option Ent) → List (Option Ent)
  | some (true, _) :: L, some (_, o) :: L' => some (true, o) :: unlock L L'
  | _ :: L, x :: L' => x :: unlock L L'
  | _, L' => L'
/- the objects that the loop carries are laid anew at its head -/
def deadB : List Item → List (Option Ent) → List (Option Ent)
  | [], L => L
  | .slot _ _ _ :: is, L => deadB is L
  | .box i _ _ :: is, L => deadB is (L.set i (some (false, .dead)))
  | .arr i _ :: is, L => deadB is (L.set i (some (false, .dead)))
  | .rowc i _ :: is, L => deadB is (L.set i (some (false, .dead)))

def headSt (an : Ann) (c : Code) (items : List Item) (st : St) (H : Heap) (O : OMap) : St :=
  { fr := havF (itemSlots items) (havF (writes an c) st.fr), L := deadB items (havL (itemIds items) (havL (idsOf an c) (lock st.L))), H := H, O := O }
def PostI : List Item → Type → Type
  | [], R => R
  | .slot _ _ ls :: is, R => PostL ls (PostI is R)
  | .box _ _ ls :: is, R => PostL ls (PostI is R)
  | .arr _ _ :: is, R => List Value → PostI is R
  | .rowc _ _ :: is, R => Nat → List Value → PostI is R
def allI : (is : List Item) → {R : Type} → PostI is R → St → (St → R → Prop) → Prop
  | [], _, p, st, K => K st p
  | .slot d g ls :: is, _, p, st, K => allL ls p st fun cs st q => match mkSV g cs with
    | some x => allI is q (setS st (some d) x) K
    | none => False
  | .box i t ls :: is, _, p, st, K => allL ls p st fun cs st q => allI is q (setL st i (.box t cs)) K
  | .arr i t :: is, _, p, st, K => ∀ xs, allI is (p xs) (setL st i (.arr t xs)) K
  | .rowc i e :: is, _, p, st, K => match getL st i with
    | some .dead => ∀ n xs, allI is (p n xs) (setL st i (.row e n xs)) K
    | _ => False
def colI : (is : List Item) → {R : Type} → PostI is R → St → Option (R × St)
  | [], _, p, st => some (p, st)
  | .slot d g ls :: is, _, p, st => match st.fr[d]? with
    | some x => match g, resV st x with
      | true, .agg cs => match colL ls p cs st with
        | some (q, st) => colI is q st
        | none => none
      | false, .one c => match colL ls p [c] st with
        | some (q, st) => colI is q st
        | none => none
      | _, _ => none
    | none => none
  | .box i t ls :: is, _, p, st => match getW st i with
    | some (.box t' cs) => if t' = t then match colL ls p (cs.map (res1 st)) st with
      | some (q, st) => colI is q st
      | none => none
      else none
    | _ => none
  | .arr i t :: is, _, p, st => match getW st i with
    | some (.arr t' xs) => if t' = t then colI is (p xs) st else none
    | _ => none
  | .rowc i e :: is, _, p, st => match getW st i with
    | some (.row e' n xs) => if e' = e then colI is (p n xs) (setL st i .dead) else none
    | _ => none
def zipL {A B C : Type} : (ls : List Leaf) → PostL ls A → PostL ls B → (A → B → C) → PostL ls C
  | [], p, q, f => f p q
  | .int _ :: ls, p, q, f => fun n => zipL ls (p n) (q n) f
  | .bool :: ls, p, q, f => fun n => zipL ls (p n) (q n) f
  | .str :: ls, p, q, f => fun n => zipL ls (p n) (q n) f
  | .sl :: ls, p, q, f => fun A n c => zipL ls (p A n c) (q A n c) f
  | .mp :: ls, p, q, f => fun n => zipL ls (p n) (q n) f
  | .val :: ls, p, q, f => fun n => zipL ls (p n) (q n) f
  | .cells :: ls, p, q, f => fun n => zipL ls (p n) (q n) f
  | .row _ _ :: ls, p, q, f => fun n xs => zipL ls (p n xs) (q n xs) f
def zipI {A B : Type} : (is : List Item) → PostI is A → PostI is B → PostI is (A × B)
  | [], p, q => (p, q)
  | .slot _ _ ls :: is, p, q => zipL ls p q (zipI is)
  | .box _ _ ls :: is, p, q => zipL ls p q (zipI is)
  | .arr _ _ :: is, p, q => fun xs => zipI is (p xs) (q xs)
  | .rowc _ _ :: is, p, q => fun n xs => zipI is (p n xs) (q n xs)
def allFree (st : St) : List Nat → Bool
  | [] => true
  | d :: ds => fresh? st d && allFree st ds
def ltN (a b : Nat) : Prop := a < b
/- the rows of the call's own that stand where the loop carries a public slice: they are made public, for good -/
def pubL' : List Leaf → List S1 → List Nat
  | .row _ _ :: ls, _ :: cs => pubL' ls cs
  | _ :: ls, .own i :: cs => i :: pubL' ls cs
  | _ :: ls, _ :: cs => pubL' ls cs
  | _, _ => []
def pubI : List Item → St → List Nat
  | [], _ => []
  | .slot d _ ls :: is, st => (match st.fr[d]? with
    | some x => match resV st x with
      | .agg cs => pubL' ls cs
      | .one c => pubL' ls [c]
      | _ => []
    | none => []) ++ pubI is st
  | .box i _ ls :: is, st => (match getW st i with
    | some (.box _ cs) => pubL' ls (cs.map (res1 st))
    | _ => []) ++ pubI is st
  | .arr _ _ :: is, st => pubI is st
  | .rowc _ _ :: is, st => pubI is st
/- what an invariant speaks of: public memory; and the open rows, where that is asked for -/
def HP (o : Bool) : Type := match o with
  | true => Heap → OMap → Prop
  | false => Heap → Prop
def apH (o : Bool) (p : HP o) (H : Heap) (O : OMap) : Prop := match o, p with
  | true, p => p H O
  | false, p => p H
def allO (o : Bool) (K : OMap → Prop) : Prop := match o with
  | true => ∀ O, K O
  | false => K noO
/- the end of a round -/
def vcEnd (o : Bool) (is : List Item) (p : PostI is (HP o × Nat)) (m : Nat) (st : St) : Prop :=
  vcPubs (fun st => match colI is p st with
    | some (x, _) => apH o x.1 st.H st.O ∧ ltN x.2 m
    | none => False) (pubI is st) st
/- regions that draw their order -/
/- the object that a store writes -/
def stTgt (st : St) : Op → Option Nat
  | .store _ x _ => match ev st x with
    | some (.one (.loc o _)) => some o
    | some (.one (.aelt o _)) => some o
    | _ => none
  | _ => none
/- the box that a call is handed -/
def callArgs (st : St) (o : Oper) : Option (FuncId × List SV) := match o.op with
  | .call { callee := .value f, args, .. } => match ev st f with
    | some (.clo f cap) => match evs st args.toList with
      | some as => some (f, as ++ cap.map fun c => .one (res1 st c))
      | none => none
    | some (.one (.v (.func (.func f) first cap))) => match first.toList with
      | [] => match evs st args.toList with
        | some as => some (f, as ++ cap.toList.map fun c => .one (.v c))
        | none => none
      | _ => none
    | _ => none
  | _ => none
def bxTgt (an : Ann) (st : St) (o : Oper) : Option Nat := match callArgs st o with
  | some (f, as) => match an.bx o.dst f with
    | some _ => boxArg as
    | none => none
  | none => none
def killL (W : List Nat) : Nat → List (Option Ent) → List (Option Ent)
  | _, [] => []
  | i, none :: L => none :: killL W (i + 1) L
  | i, some (f, o) :: L => (match o with
    | .row _ _ _ => some (false, .dead)
    | o => if W.contains i then some (false, .dead) else some (f, o)) :: killL W (i + 1) L
/- the state without rows and without the objects W -/
def noRows (W : List Nat) (st : St) : St := { st with L := killL W 0 st.L }
/- the operand that an address computed in the region starts from -/
def rootOf (l : List Oper) : Nat → Operand → Operand
  | 0, x => x
  | n + 1, x => match x with
    | .tmp t => match l.find? (fun o => o.dst == some t) with
      | some o => match o.op with
        | .fieldAddr _ y _ => rootOf l n y
        | .indexAddr _ y _ => rootOf l n y
        | .move y => rootOf l n y
        | .assign y => rootOf l n y
        | .nilCheck y => rootOf l n y
        | _ => x
      | none => x
    | x => x
def waits (o : Oper) (i : Nat) : Bool := o.after.toList.any fun e => e.on == i && Region.binds .any e
def isSt (o : Oper) : Bool := match o.op with
  | .store _ _ _ => true
  | _ => false
def waits2 (l : List Oper) (o : Oper) (i : Nat) : Bool := waits o i || o.after.toList.any fun e => Region.binds .any e && match l[e.on]? with
  | some o' => waits o' i
  | none => false
def waitsAll (l0 : List Oper) (o : Oper) : List Oper → Nat → Bool
  | [], _ => true
  | x :: l, i => (isSt x || waits2 l0 o i) && waitsAll l0 o l (i + 1)
/- every store waits for all that is no store -/
def allLate (l : List Oper) : List Oper → Bool
  | [] => true
  | o :: os => (!isSt o || waitsAll l o l 0) && allLate l os
def late (l : List Oper) (o : Oper) : Bool := match isSt o with
  | true => allLate l l
  | false => false
def madeIn (l : List Oper) (t : Nat) : Bool :=
  match l.find? (fun o => o.dst == some t) with
  | some o => match o.op with
    | .alloc _ => true
    | .box _ _ => true
    | _ => false
  | none => false
def tgtsOf (l : List Oper) (st : St) : List Oper → List Nat
  | [] => []
  | o :: os => match o.op with
    | .store _ x _ => match late l o with
     | true => tgtsOf l st os
     | false => match rootOf l 5 x with
      | .tmp t => match madeIn l t with
        | true => t :: tgtsOf l st os
        | false => match ev st (.tmp t) with
          | some (.one (.loc o _)) => o :: tgtsOf l st os
          | some (.one (.aelt o _)) => o :: tgtsOf l st os
          | _ => tgtsOf l st os
      | _ => tgtsOf l st os
    | _ => tgtsOf l st os
def bxRoots (l : List Oper) (st : St) : List Operand → List Nat
  | [] => []
  | x :: xs => match rootOf l 5 x with
    | .tmp t => match madeIn l t with
      | true => t :: bxRoots l st xs
      | false => match ev st (.tmp t) with
        | some (.one (.loc o _)) => o :: bxRoots l st xs
        | _ => bxRoots l st xs
    | _ => bxRoots l st xs
def bxTgts (an : Ann) (l : List Oper) (st : St) : List Oper → List Nat
  | [] => []
  | o :: os => match o.op with
    | .call { callee := .value (.func f), args, .. } => match an.bx o.dst f with
      | some _ => bxRoots l st args.toList ++ bxTgts an l st os
      | none => bxTgts an l st os
    | _ => bxTgts an l st os
/- a store writes what it is laid down that it may write -/
def stOK (W : List Nat) (st : St) (op : Op) : Bool := match stTgt st op with
  | some o => W.contains o
  | none => true
def bxOK (an : Ann) (W : List Nat) (st : St) (o : Oper) : Bool := match bxTgt an st o with
  | some i => W.contains i
  | none => true
def vcTake (Γ : Tab) (W : List Nat) (l : List Oper) (st : St) (o : Oper) (K : St → Prop) : Prop :=
  match o.guard with
  | none => vcRd Γ (noRows W st) o.op fun r => K (setS st o.dst r)
  | some (j, want) => match dstOf l j with
    | none => False
    | some d => match st.fr[d]? with
      | some (.one .tt) => match want with
        | true => vcRd Γ (noRows W st) o.op fun r => K (setS st o.dst r)
        | false => K (setS st o.dst (.one .un))
      | some (.one .ff) => match want with
        | false => vcRd Γ (noRows W st) o.op fun r => K (setS st o.dst r)
        | true => K (setS st o.dst (.one .un))
      | some (.one .un) => K (setS st o.dst (.one .un))
      | _ => False
def forkIf (l : List Oper) (i : Nat) (st : St) (K : St → Prop) : Prop :=
  match guards l i with
  | true => vcFork l i st K
  | false => K st
def readyIs (ops : Array Oper) (listed : Array Bool) (j : Nat) : Bool :=
  !listed.getD j true && match ops[j]? with
  | some o => o.after.toList.all fun e => !Region.binds .any e || listed.getD e.on false
  | none => false
def rdAt (ops : Array Oper) (j : Nat) : Bool := match ops[j]? with
  | some o => isRd o.op
  | none => false
/- the order fits the region: it does not depend on any state -/
def schOK (ops : Array Oper) : Bool → Nat → Array Bool → Sch → Bool
  | _, _, listed, .done => (Region.ready .any ops listed).isEmpty
  | b, _, _, .fin => b
  | _, 0, _, .take _ _ => false
  | _, n + 1, listed, .take j r => match readyIs ops listed j && rdAt ops j && Region.free .any ops listed j with
    | true => schOK ops false n (listed.setIfInBounds j true) r
    | false => false
  | _, 0, _, .alt _ _ _ => false
  | b, n + 1, listed, .alt j r rest => match (b || Region.ready .any ops listed == j :: rest.ids) && schOK ops false n (listed.setIfInBounds j true) r with
    | true => schOK ops true (n + 1) listed rest
    | false => false
def vcSch (P : Program) (Γ : Tab) (an : Ann) (ops : Array Oper) (W : List Nat) (K : St → Prop) : Sch → St → Prop
  | .done, st => K st
  | .fin, _ => True
  | .take j r, st => match ops[j]? with
    | some o => vcTake Γ W ops.toList st o fun st' => forkIf ops.toList j st' fun st'' => vcSch P Γ an ops W K r st''
    | none => False
  | .alt j r rest, st => match rest with
    | .alt j' r' rest' => (match ops[j]? with
      | some o => match late ops.toList o || (stOK W st o.op && bxOK an W st o) with
        | true => vcOne P Γ an ops.toList st o fun st' => forkIf ops.toList j st' fun st'' => vcSch P Γ an ops W K r st''
        | false => False
      | none => False) ∧ vcSch P Γ an ops W K (.alt j' r' rest') st
    | _ => match ops[j]? with
      | some o => match late ops.toList o || (stOK W st o.op && bxOK an W st o) with
        | true => vcOne P Γ an ops.toList st o fun st' => forkIf ops.toList j st' fun st'' => vcSch P Γ an ops W K r st''
        | false => False
      | none => False
def upto : Nat → Nat → List Nat
  | 0, _ => []
  | n + 1, i => i :: upto n (i + 1)

def vcC (P : Program) (Γ : Tab) (an : Ann) : Code → (Exit → St → Prop) → St → Prop
  | .skip, K, st => K .normal st
  | .label _, K, st => K .normal st
  | .region id ops draw, K, st => match draw with
    | false => vcItems P Γ an ops.toList (K .normal) (itemsOf ops.toList (upto ops.toList.length 0)) st
    | true => match Region.noSelect ops with
      | true => match schOK ops false ops.size (Array.replicate ops.size false) (an.sch id) with
        | true => vcSch P Γ an ops (tgtsOf ops.toList st ops.toList ++ bxTgts an ops.toList st ops.toList) (K .normal) (an.sch id) st
        | false => False
      | false => False
  | .seq a b, K, st => vcC P Γ an a (fun e st' => match e with
      | .normal => vcC P Γ an b K st'
      | e => K e st') st
  | .cond c a b, K, st => match ev st c with
    | some (.one .tt) => vcC P Γ an a K st
    | some (.one .ff) => vcC P Γ an b K st
    | some (.one (.b x)) => (x = true → vcC P Γ an a K st) ∧ (x = false → vcC P Γ an b K st)
    | some (.one (.v (.bool x))) => (x = true → vcC P Γ an a K st) ∧ (x = false → vcC P Γ an b K st)
    | _ => False
  | .block id c, K, st => vcC P Γ an c (fun e st' => match e with
      | .exit id' => if id' = id then K .normal st' else K (.exit id') st'
      | e => K e st') st
  | .loop c, K, st => ∃ (inv : PostI (an.lt (firstReg c)) (HP an.opn)) (μ : PostI (an.lt (firstReg c)) Nat),
      vcPubs (fun st => if allFree st (itemIds (an.lt (firstReg c)) ++ idsOf an c) then
        match colI (an.lt (firstReg c)) (zipI (an.lt (firstReg c)) inv μ) st with
        | some (x, st2) => apH an.opn x.1 st.H st.O ∧
          ∀ H', Heap.le st.H H' → allO an.opn fun O' => allI (an.lt (firstReg c)) (zipI (an.lt (firstReg c)) inv μ) (headSt an c (an.lt (firstReg c)) st2 H' O') fun st1 y => apH an.opn y.1 H' O' →
            vcC P Γ an c (fun e st' => match e with
              | .normal => vcEnd an.opn (an.lt (firstReg c)) (zipI (an.lt (firstReg c)) inv μ) y.2 st'
              | e => K e { st' with L := unlock st2.L st'.L }) st1
        | none => False
        else False) (pubI (an.lt (firstReg c)) st) st
  | .exit id, K, st => K (.exit id) st
  | .ret, K, st => K .ret st
  | _, _, _ => False

/- the results at the end of a body -/
def retOne (Γ : Tab) (st : St) : ResultVar → Option SV
  | .tmp t => match st.fr[t]? with
    | some x => some (resV st x)
    | none => none
  | .cell a t => match st.fr[a]? with
    | some (.one (.loc o 0)) => match getL st o with
      | some (.box _ cs) => match Γ t with
        | some i => if cs.length = i.size then mkSV i.agg (cs.map (res1 st)) else none
        | none => none
      | _ => none
    | _ => none
def retAll (Γ : Tab) (st : St) : List ResultVar → Option (List SV)
  | [] => some []
  | r :: rs => match retOne Γ st r with
    | some x => match retAll Γ st rs with
      | some xs => some (x :: xs)
      | none => none
    | none => none
/- which rows of the results have to be made public: those that the shape does not hand on as rows -/
def pubL : List Leaf → List S1 → List Nat
  | .row _ _ :: ls, _ :: cs => pubL ls cs
  | _ :: ls, .own i :: cs => i :: pubL ls cs
  | _ :: ls, _ :: cs => pubL ls cs
  | _, _ => []
def pubR : List (Bool × List Leaf) → List SV → List Nat
  | (_, ls) :: ps, x :: xs => (match x.cells with
    | some cs => pubL ls cs
    | none => []) ++ pubR ps xs
  | _, _ => []
def vcRet (Γ : Tab) (rs : List ResultVar) (sh : RSh) (post : PostR sh.parts (Heap → Prop)) (st : St) : Prop :=
  if sh.tup = (rs.length != 1) then match retAll Γ st rs with
  | none => False
  | some xs => vcPubs (fun st => match retAll Γ st rs with
    | none => False
    | some xs => match colR sh.parts post xs st with
      | some (q, _) => q st.H
      | none => False) (pubR sh.parts xs) st
  else False
def retK (Γ : Tab) (rs : List ResultVar) (sh : RSh) (post : PostR sh.parts (Heap → Prop)) (e : Exit) (st : St) : Prop :=
  match e with
  | .normal => vcRet Γ rs sh post st
  | .ret => vcRet Γ rs sh post st
  | _ => False
def ofArg : Value → SV
  | .agg cs => .agg (cs.toList.map S1.v)
  | .pointer (some ⟨b, o, none⟩) => .one (.elt (some ⟨b, o, none⟩) 0)
  | x => .one (.v x)
def st0 (args : List Value) (n extra : Nat) (H : Heap) : St :=
  { fr := args.map ofArg ++ List.replicate (n - args.length) (.one .un), L := List.replicate (n + extra) none, H := H, O := noO }
def vcFn (P : Program) (Γ : Tab) (an : Ann) (fn : Func) (args : List Value) (extra : Nat) (H : Heap) (sh : RSh) (post : PostR sh.parts (Heap → Prop)) : Prop :=
  match fn.body with
  | none => False
  | some c => vcC P Γ an c (retK Γ fn.results.toList sh post) (st0 args fn.ntmps extra H)

/- a function that is handed a row of the caller's own at place k, and gives it up -/
def st0M (args : List Value) (k n extra : Nat) (e : TypeId) (m : Nat) (xs : List Value) (H : Heap) : St :=
  { fr := (args.map ofArg).set k (.one (.own (n + extra))) ++ List.replicate (n - args.length) (.one .un), L := List.replicate (n + extra) none ++ [some (true, .row e m xs)], H := H, O := noO }
def vcFnM (P : Program) (Γ : Tab) (an : Ann) (fn : Func) (args : List Value) (k : Nat) (e : TypeId) (m : Nat) (xs : List Value) (extra : Nat) (H : Heap) (sh : RSh) (post : PostR sh.parts (Heap → Prop)) : Prop :=
  match fn.body with
  | none => False
  | some c => vcC P Γ an c (retK Γ fn.results.toList sh post) (st0M args k fn.ntmps extra e m xs H)
def eqN (a b : Nat) : Prop := a = b
/- a function that is handed a box of the caller's own at place k, and hands it back -/
def bCells : List BC → Nat → List S1
  | [], _ => []
  | .v x :: cs, k => .v x :: bCells cs k
  | .row _ _ _ :: cs, k => .own k :: bCells cs (k + 1)
def bEnts : List BC → List (Option Ent)
  | [] => []
  | .v _ :: cs => bEnts cs
  | .row e n xs :: cs => some (true, .row e n xs) :: bEnts cs
/- the number of the row that lies at a place of the box -/
def rowNo : List BC → Nat → Nat
  | .row _ _ _ :: cs, p + 1 => rowNo cs p + 1
  | .v _ :: cs, p + 1 => rowNo cs p
  | _, _ => 0
def eltOK (cs : List BC) : List BA → Prop
  | [] => True
  | .elt p _ :: as => (match cs[p]? with
    | some (.row _ n _) => 0 < n
    | _ => False) ∧ eltOK cs as
  | _ :: as => eltOK cs as
def ofBA (N a : Nat) (cs : List BC) : BA → SV
  | .v x => ofArg x
  | .me => .one (.me N a)
  | .elt p j => .one (.oelt (N + 1 + rowNo cs p) j)
def stB (args : List BA) (n extra a : Nat) (t : TypeId) (cs : List BC) (H : Heap) (O : OMap) : St :=
  { fr := args.map (ofBA (n + extra) a cs) ++ List.replicate (n - args.length) (.one .un), L := List.replicate (n + extra) none ++ some (true, .box t (bCells cs (n + extra + 1))) :: bEnts cs, H := H, O := O }
def vcRetB (Γ : Tab) (rs : List ResultVar) (k N a : Nat) (t : TypeId) (ls : List Leaf) (sh : RSh) (post : PostL ls (PostR sh.parts (Heap → OMap → Prop))) (st : St) : Prop :=
  if sh.tup = (rs.length != 1) then match retAll Γ st rs with
  | none => False
  | some xs => vcPubs (fun st => match retAll Γ st rs with
    | none => False
    | some xs => match st.fr[k]? with
      | some (.one (.me i b)) => match getL st i with
        | some (.box t' cs) => if i = N ∧ t' = t then eqN b a ∧ (match colL ls post (cs.map (res1 st)) st with
          | some (q, st2) => match colR sh.parts q xs st2 with
            | some (p, _) => p st.H st.O
            | none => False
          | none => False) else False
        | _ => False
      | _ => False) (pubR sh.parts xs) st
  else False
def retBE (Γ : Tab) (rs : List ResultVar) (k N a : Nat) (t : TypeId) (ls : List Leaf) (sh : RSh) (post : PostL ls (PostR sh.parts (Heap → OMap → Prop))) (e : Exit) (st : St) : Prop :=
  match e with
  | .normal => vcRetB Γ rs k N a t ls sh post st
  | .ret => vcRetB Γ rs k N a t ls sh post st
  | _ => False
def vcFnB (P : Program) (Γ : Tab) (an : Ann) (fn : Func) (args : List BA) (k : Nat) (t : TypeId) (bcs : List BC) (extra : Nat) (H : Heap) (O : OMap) (ls : List Leaf) (sh : RSh) (post : PostL ls (PostR sh.parts (Heap → OMap → Prop))) : Prop :=
  match fn.body with
  | none => False
  | some c => ∀ a, vcC P Γ an c (retBE Γ fn.results.toList k (fn.ntmps + extra) a t ls sh post) (stB args fn.ntmps extra a t bcs H O)
/- a function that hands back a new box -/
def vcRetN (Γ : Tab) (rs : List ResultVar) (t : TypeId) (ls : List Leaf) (post : PostL ls (Heap → OMap → Prop)) (st : St) : Prop :=
  match rs with
  | [r] => match retOne Γ st r with
    | some (.one (.loc i 0)) => match getL st i with
      | some (.box t' cs) => if t' = t then (match colL ls post (cs.map (res1 st)) st with
        | some (q, _) => q st.H st.O
        | none => False) else False
      | _ => False
    | _ => False
  | _ => False
def retNE (Γ : Tab) (rs : List ResultVar) (t : TypeId) (ls : List Leaf) (post : PostL ls (Heap → OMap → Prop)) (e : Exit) (st : St) : Prop :=
  match e with
  | .normal => vcRetN Γ rs t ls post st
  | .ret => vcRetN Γ rs t ls post st
  | _ => False
def vcFnN (P : Program) (Γ : Tab) (an : Ann) (fn : Func) (args : List Value) (t : TypeId) (extra : Nat) (H : Heap) (O : OMap) (ls : List Leaf) (post : PostL ls (Heap → OMap → Prop)) : Prop :=
  match fn.body with
  | none => False
  | some c => vcC P Γ an c (retNE Γ fn.results.toList t ls post) { st0 args fn.ntmps extra H with O := O }
end Go.Vc
/- How data of plain Lean types lie in cells: public slices, rows of the call's own. -/
namespace Go.Vc
open Go

theorem hle_refl (H : Heap) : Heap.le H H := fun _ _ _ h => h
theorem hle_trans {A B C : Heap} (h : Heap.le A B) (k : Heap.le B C) : Heap.le A C := fun _ _ _ x => k _ _ _ (h _ _ _ x)
theorem Cells.mono {H H' : Heap} {A : Option Addr} {j : Nat} {cs : List Value} (hle : Heap.le H H') (h : Cells H A j cs) : Cells H' A j cs := by
  rcases h with h | ⟨b, o, h1, h2⟩
  · exact .inl h
  · exact .inr ⟨b, o, h1, fun t v hv => ⟨hle _ _ _ (h2 t v hv).1, (h2 t v hv).2⟩⟩
/- a part of cells -/
theorem Cells.part {H : Heap} {A : Option Addr} {j : Nat} {xs ys zs : List Value} (h : Cells H A j (xs ++ ys ++ zs)) : Cells H A (j + xs.length) ys := by
  rcases h with h | ⟨b, o, h1, h2⟩
  · left; simp at h; exact h.2.1
  · refine .inr ⟨b, o, h1, fun t v hv => ?_⟩
    have := h2 (xs.length + t) v (by rw [List.append_assoc, List.getElem?_append_right (by omega)]; simp; rw [List.getElem?_append_left (by have := (List.getElem?_eq_some_iff.1 hv).1; exact this)]; exact hv)
    rw [show o + (j + xs.length) + t = o + j + (xs.length + t) by omega]; exact this
theorem Cells.someA {H : Heap} {A : Option Addr} {j : Nat} {xs : List Value} (h : Cells H A j xs) (hx : xs ≠ []) : someA A := by
  rcases h with h | ⟨b, o, h1, _⟩
  · exact (hx h).elim
  · exact ⟨b, o, h1⟩
theorem Cells.shift {H : Heap} {A : Option Addr} {j k : Nat} {xs : List Value} (h : Cells H A (j + k) xs) : Cells H (A.map (·.add k)) j xs := by
  rcases h with h | ⟨b, o, rfl, h2⟩
  · exact .inl h
  · refine .inr ⟨b, o + k, by simp [Addr.add], fun t v hv => ?_⟩
    have := h2 t v hv
    rw [show o + k + j + t = o + (j + k) + t by omega]; exact this

/- a type whose values lie in 'sz' cells (and 'by' bytes) -/
class Rep (T : Type) where
  sz : Nat
  byt : Nat
  rel : Heap → List Value → T → Prop
  mono : ∀ {H H' : Heap} {vs : List Value} {t : T}, Heap.le H H' → rel H vs t → rel H' vs t
  len : ∀ {H : Heap} {vs : List Value} {t : T}, rel H vs t → vs.length = sz
  pos : 0 < sz
  bpos : 0 < byt
  one : ∀ {H : Heap} {vs : List Value} {t : T}, rel H vs t → ∀ v ∈ vs, v.oneCell' = true

section
variable {T : Type} [Rep T]
/- a public slice -/
structure Sl (H : Heap) (A : Option Addr) (n c : Nat) (l : List T) : Prop where
  len : l.length = n
  cap : n ≤ c
  bnd : n * Rep.byt T ≤ 140737488355328
  bn : n ≤ 140737488355328
  get : ∀ i (h : i < l.length), ∃ vs, Cells H A (i * Rep.sz T) vs ∧ Rep.rel H vs l[i]
theorem Sl.mono {H H' : Heap} {A : Option Addr} {n c : Nat} {l : List T} (hle : Heap.le H H') (h : Sl H A n c l) : Sl H' A n c l :=
  ⟨h.len, h.cap, h.bnd, h.bn, fun i hi => let ⟨vs, h1, h2⟩ := h.get i hi; ⟨vs, h1.mono hle, Rep.mono hle h2⟩⟩
theorem Sl.nil {H : Heap} {A : Option Addr} {c : Nat} : Sl (T := T) H A 0 c [] := ⟨rfl, Nat.zero_le _, by simp, by simp, fun i h => by simp at h⟩
theorem Sl.someA {H : Heap} {A : Option Addr} {n c : Nat} {l : List T} (h : Sl H A n c l) (hn : 0 < n) : someA A := by
  obtain ⟨vs, h1, h2⟩ := h.get 0 (by have := h.len; omega)
  exact h1.someA (fun e => by have := Rep.len h2; have := Rep.pos (T := T); rw [e] at *; simp at *; omega)
/- reading at an Int index in a grown heap -/
theorem Sl.at {H H' : Heap} {A : Option Addr} {n c : Nat} {l : List T} (h : Sl H A n c l) (hle : Heap.le H H') {i : Int} (h0 : 0 ≤ i) (h1 : i < n) :
    ∃ (hi : i.toNat < l.length), Vc.someA A ∧ ∃ vs, Cells H' A (i.toNat * Rep.sz T) vs ∧ Rep.rel H' vs l[i.toNat] := by
  have hi : i.toNat < l.length := by have := h.len; omega
  obtain ⟨vs, k1, k2⟩ := h.get _ hi
  exact ⟨hi, h.someA (by omega), vs, k1.mono hle, Rep.mono hle k2⟩

/- cells of a row -/
def Row (H : Heap) : List Value → List T → Prop
  | xs, [] => xs = []
  | xs, t :: l => ∃ vs ys, xs = vs ++ ys ∧ Rep.rel H vs t ∧ Row H ys l
theorem Row.mono {H H' : Heap} (hle : Heap.le H H') : ∀ {xs : List Value} {l : List T}, Row H xs l → Row H' xs l
  | _, [], h => h
  | _, _ :: _, ⟨vs, ys, h1, h2, h3⟩ => ⟨vs, ys, h1, Rep.mono hle h2, h3.mono hle⟩
theorem Row.length {H : Heap} : ∀ {xs : List Value} {l : List T}, Row H xs l → xs.length = l.length * Rep.sz T
  | _, [], h => by simp [show _ = [] from h]
  | _, _ :: l, ⟨vs, ys, h1, h2, h3⟩ => by rw [h1, List.length_append, h3.length, Rep.len h2, List.length_cons, Nat.succ_mul]; omega
theorem Row.append {H : Heap} : ∀ {xs ys : List Value} {l m : List T}, Row H xs l → Row H ys m → Row H (xs ++ ys) (l ++ m)
  | _, _, [], _, h, k => by rw [show _ = [] from h]; exact k
  | _, ys, _ :: _, m, ⟨vs, zs, h1, h2, h3⟩, k => ⟨vs, zs ++ ys, by rw [h1, List.append_assoc], h2, h3.append k⟩
theorem Row.one {H : Heap} {vs : List Value} {t : T} (h : Rep.rel H vs t) : Row H vs [t] := ⟨vs, [], by simp, h, rfl⟩
theorem Row.parts {H : Heap} : ∀ {xs : List Value} {l : List T} {i : Nat}, Row H xs l → (h : i < l.length) → ∃ as vs bs, xs = as ++ vs ++ bs ∧ as.length = i * Rep.sz T ∧ Rep.rel H vs l[i] ∧
    (∀ {us : List Value} {t : T}, Rep.rel H us t → Row H (as ++ us ++ bs) (l.set i t))
  | _, t :: l, 0, ⟨vs, ys, h1, h2, h3⟩, _ => ⟨[], vs, ys, by simpa using h1, by simp, h2, fun {us t} k => by simpa using (Row.one k).append h3⟩
  | _, t :: l, i + 1, ⟨vs, ys, h1, h2, h3⟩, h => by
    obtain ⟨as, us, bs, k1, k2, k3, k4⟩ := h3.parts (i := i) (by simpa using h)
    refine ⟨vs ++ as, us, bs, by rw [h1, k1]; simp, by rw [List.length_append, k2, Rep.len h2, Nat.succ_mul]; omega, by simpa using k3, fun {ws t'} k => ?_⟩
    have := k4 k
    simp only [List.set_cons_succ, List.append_assoc]
    refine ⟨vs, _, by simp; rfl, h2, ?_⟩
    simpa using this
theorem Row.getw {H : Heap} {xs : List Value} {l : List T} {i : Nat} (h : Row H xs l) (hi : i < l.length) : Rep.rel H (win xs (i * Rep.sz T) (Rep.sz T)) l[i] := by
  obtain ⟨as, vs, bs, h1, h2, h3, _⟩ := h.parts hi
  have : win xs (i * Rep.sz T) (Rep.sz T) = vs := by
    unfold Vc.win; rw [h1, ← h2, List.append_assoc, List.drop_left, ← Rep.len h3, List.take_left]
  rw [this]; exact h3
theorem Row.getf {H : Heap} {xs : List Value} {l : List T} {i : Nat} (h : Row H xs l) (hi : i < l.length) : ∃ vs, Rep.rel H vs l[i] ∧ (∀ k m, k + m ≤ Rep.sz T → Vc.win xs (i * Rep.sz T + k) m = (vs.drop k).take m) ∧
    (∀ k us t, k + us.length ≤ Rep.sz T → Rep.rel H (vs.take k ++ us ++ vs.drop (k + us.length)) t → Row H (Vc.splice xs (i * Rep.sz T + k) us) (l.set i t)) := by
  obtain ⟨as, vs, bs, h1, h2, h3, h4⟩ := h.parts hi
  have hl := Rep.len h3
  refine ⟨vs, h3, fun k m hk => ?_, fun k us t hk hr => ?_⟩
  · unfold Vc.win
    rw [h1, ← h2, List.append_assoc, ← List.drop_drop, List.drop_left, List.drop_append_of_le_length (by omega), List.take_append_of_le_length (by simp; omega)]
  · have : Vc.splice xs (i * Rep.sz T + k) us = as ++ (vs.take k ++ us ++ vs.drop (k + us.length)) ++ bs := by
      unfold Vc.splice
      rw [h1, ← h2, List.append_assoc as vs bs, List.take_append, List.take_of_length_le (by omega), Nat.add_sub_cancel_left, List.take_append_of_le_length (by omega), Nat.add_assoc, ← List.drop_drop, List.drop_left,
        List.drop_append_of_le_length (by omega)]
      simp [List.append_assoc]
    rw [this]; exact h4 hr
/- a row that is made public -/
theorem Row.sl {H H' : Heap} {A : Option Addr} {n c : Nat} {xs : List Value} {l : List T} (h : Row H xs l) (hle : Heap.le H H') (hc : Cells H' A 0 xs) (hl : l.length = n) (hn : n ≤ c)
    (hb : n * Rep.byt T ≤ 140737488355328) (hb2 : n ≤ 140737488355328) : Sl H' A n c l := by
  refine ⟨hl, hn, hb, hb2, fun i hi => ?_⟩
  obtain ⟨as, vs, bs, h1, h2, h3, _⟩ := h.parts hi
  rw [h1] at hc
  have := hc.part
  rw [h2, Nat.zero_add] at this
  exact ⟨vs, this, Rep.mono hle h3⟩
/- the cells of a public slice, all of them -/
theorem Sl.row {H : Heap} {A : Option Addr} {n c : Nat} {l : List T} (h : Sl H A n c l) : ∃ ys, Cells H A 0 ys ∧ Row H ys l := by
  have key : ∀ (k : Nat) (m : List T), (∀ i (hi : i < m.length), ∃ vs, Cells H A (k + i * Rep.sz T) vs ∧ Rep.rel H vs m[i]) → ∃ ys, Cells H A k ys ∧ Row H ys m := by
    intro k m
    induction m generalizing k with
    | nil => exact fun _ => ⟨[], .inl rfl, rfl⟩
    | cons t m ih =>
      intro hm
      obtain ⟨vs, h1, h2⟩ := hm 0 (by simp)
      obtain ⟨ys, h3, h4⟩ := ih (k + Rep.sz T) (fun i hi => by
        obtain ⟨vs, a, b⟩ := hm (i + 1) (by simpa using hi)
        exact ⟨vs, by rw [Nat.succ_mul] at a; rw [show k + Rep.sz T + i * Rep.sz T = k + (i * Rep.sz T + Rep.sz T) by omega]; exact a, by simpa using b⟩)
      refine ⟨vs ++ ys, ?_, vs, ys, rfl, h2, h4⟩
      have hlen := Rep.len h2
      rcases h1 with rfl | ⟨b, o, e1, e2⟩
      · have := Rep.pos (T := T); simp at hlen; omega
      · refine .inr ⟨b, o, e1, fun t v hv => ?_⟩
        by_cases ht : t < vs.length
        · rw [List.getElem?_append_left ht] at hv
          have := e2 t v hv
          simpa using this
        · rw [List.getElem?_append_right (by omega)] at hv
          rcases h3 with rfl | ⟨b', o', e1', e2'⟩
          · simp at hv
          · rw [e1] at e1'; cases e1'
            have := e2' _ _ hv
            rw [show o + k + t = o + (k + Rep.sz T) + (t - vs.length) by omega]; exact this
  exact key 0 l (fun i hi => by simpa using h.get i hi)
theorem Sl.drop {H : Heap} {A : Option Addr} {n c : Nat} {l : List T} (h : Sl H A n c l) {k : Nat} (hk : k ≤ n) : Sl H (subA A c k (Rep.sz T)) (n - k) (c - k) (l.drop k) := by
  refine ⟨by simp [h.len], by have := h.cap; omega, Nat.le_trans (Nat.mul_le_mul_right _ (Nat.sub_le _ _)) h.bnd, by have := h.bn; omega, fun i hi => ?_⟩
  simp at hi
  obtain ⟨vs, h1, h2⟩ := h.get (k + i) (by omega)
  refine ⟨vs, ?_, by simpa using h2⟩
  unfold subA
  split
  · have := h.cap; have := h.len; omega
  · rw [show (k + i) * Rep.sz T = i * Rep.sz T + k * Rep.sz T by rw [Nat.add_mul]; omega] at h1
    exact h1.shift
theorem Sl.take {H : Heap} {A : Option Addr} {n c : Nat} {l : List T} (h : Sl H A n c l) {k : Nat} (hk : k ≤ n) : Sl H A k c (l.take k) := by
  refine ⟨by simp [h.len]; omega, by have := h.cap; omega, Nat.le_trans (Nat.mul_le_mul_right _ hk) h.bnd, by have := h.bn; omega, fun i hi => ?_⟩
  obtain ⟨vs, h1, h2⟩ := h.get i (by simp at hi; omega)
  exact ⟨vs, h1, by simpa using h2⟩
theorem Sl.sub {H : Heap} {A : Option Addr} {n c : Nat} {l : List T} (h : Sl H A n c l) {j k : Nat} (hj : j ≤ k) (hk : k ≤ n) : Sl H (subA A c j (Rep.sz T)) (k - j) (c - j) ((l.take k).drop j) :=
  (h.take hk).drop hj
end


theorem drop_at {T : Type} {l : List T} {i : Int} (h0 : 0 ≤ i) (hi : i.toNat < l.length) : l.drop i.toNat = l[i.toNat] :: l.drop (i + 1).toNat := by
  rw [List.drop_eq_getElem_cons hi]; congr 1; congr 1; omega
theorem drop_end {T : Type} {l : List T} {i : Int} {n : Nat} (h : ¬ i < n) (hl : l.length = n) : l.drop i.toNat = [] := List.drop_eq_nil_of_le (by omega)
abbrev shB : RSh := ⟨false, [(false, [.bool])]⟩
abbrev shI : RSh := ⟨false, [(false, [.int .i64])]⟩
abbrev shS : RSh := ⟨false, [(false, [.sl])]⟩
instance : Rep Int where
  sz := 1
  byt := 8
  rel _ vs n := vs = [.int .i64 n] ∧ rng .i64 n
  mono _ h := h
  len h := by simp [h.1]
  pos := by decide
  bpos := by decide
  one h := by rw [h.1]; simp [Value.oneCell']
instance : Rep Bool where
  sz := 1
  byt := 1
  rel _ vs n := vs = [.bool n]
  mono _ h := h
  len h := by simp [h]
  pos := by decide
  bpos := by decide
  one h := by rw [h]; simp [Value.oneCell']
instance : Rep ByteArray where
  sz := 1
  byt := 16
  rel _ vs s := vs = [.string s] ∧ s.size ≤ 140737488355328
  mono _ h := h
  len h := by simp [h.1]
  pos := by decide
  bpos := by decide
  one h := by rw [h.1]; simp [Value.oneCell']
instance {T : Type} [Rep T] : Rep (List T) where
  sz := 1
  byt := 24
  rel H vs l := ∃ A n c, vs = [.slice A n c] ∧ Sl H A n c l
  mono := fun hle ⟨A, n, c, h1, h2⟩ => ⟨A, n, c, h1, h2.mono hle⟩
  len := fun ⟨A, n, c, h1, h2⟩ => by simp [h1]
  pos := by decide
  bpos := by decide
  one := fun ⟨A, n, c, h1, h2⟩ => by rw [h1]; simp [Value.oneCell']
end Go.Vc
/- The program's data as plain Lean data, and how they lie in cells. -/
namespace Go.Vc
open Go
structure Per where
  lo : Int
  hi : Int
deriving DecidableEq
structure Val where
  kind : Int
  n : Int
  s : ByteArray
deriving DecidableEq
structure Col where
  id : Int
  name : ByteArray
  kind : Int
deriving DecidableEq
structure Ver where
  rc : Per
  cols : List Col
deriving DecidableEq
structure FKey where
  cols : List Int
  table : ByteArray
  refs : List Int
deriving DecidableEq
structure Cst where
  kind : Int
  cols : List Int
deriving DecidableEq
structure TSch where
  name : ByteArray
  vers : List Ver
  key : List Int
  fks : List FKey
  csts : List Cst
deriving DecidableEq

def str (s : ByteArray) : Prop := s.size ≤ 140737488355328
instance : Rep Per where
  sz := 2
  byt := 16
  rel _ vs p := vs = [.int .i64 p.lo, .int .i64 p.hi] ∧ rng .i64 p.lo ∧ rng .i64 p.hi
  mono _ h := h
  len h := by simp [h.1]
  pos := by decide
  bpos := by decide
  one h := by rw [h.1]; simp [Value.oneCell']
instance : Rep Val where
  sz := 3
  byt := 32
  rel _ vs v := vs = [.int .i64 v.kind, .int .i64 v.n, .string v.s] ∧ rng .i64 v.kind ∧ rng .i64 v.n ∧ str v.s
  mono _ h := h
  len h := by simp [h.1]
  pos := by decide
  bpos := by decide
  one h := by rw [h.1]; simp [Value.oneCell']
instance : Rep Col where
  sz := 3
  byt := 32
  rel _ vs v := vs = [.int .i64 v.id, .string v.name, .int .i64 v.kind] ∧ rng .i64 v.id ∧ str v.name ∧ rng .i64 v.kind
  mono _ h := h
  len h := by simp [h.1]
  pos := by decide
  bpos := by decide
  one h := by rw [h.1]; simp [Value.oneCell']
instance : Rep Ver where
  sz := 3
  byt := 40
  rel H vs v := ∃ A n c, vs = [.int .i64 v.rc.lo, .int .i64 v.rc.hi, .slice A n c] ∧ rng .i64 v.rc.lo ∧ rng .i64 v.rc.hi ∧ Sl H A n c v.cols
  mono := fun hle ⟨A, n, c, h1, h2, h3, h4⟩ => ⟨A, n, c, h1, h2, h3, h4.mono hle⟩
  len := fun ⟨A, n, c, h1, _⟩ => by simp [h1]
  pos := by decide
  bpos := by decide
  one := fun ⟨A, n, c, h1, _⟩ => by rw [h1]; simp [Value.oneCell']
instance : Rep FKey where
  sz := 3
  byt := 64
  rel H vs v := ∃ A n c B m d, vs = [.slice A n c, .string v.table, .slice B m d] ∧ Sl H A n c v.cols ∧ str v.table ∧ Sl H B m d v.refs
  mono := fun hle ⟨A, n, c, B, m, d, h1, h2, h3, h4⟩ => ⟨A, n, c, B, m, d, h1, h2.mono hle, h3, h4.mono hle⟩
  len := fun ⟨A, n, c, B, m, d, h1, _⟩ => by simp [h1]
  pos := by decide
  bpos := by decide
  one := fun ⟨A, n, c, B, m, d, h1, _⟩ => by rw [h1]; simp [Value.oneCell']
instance : Rep Cst where
  sz := 2
  byt := 32
  rel H vs v := ∃ A n c, vs = [.int .i64 v.kind, .slice A n c] ∧ rng .i64 v.kind ∧ Sl H A n c v.cols
  mono := fun hle ⟨A, n, c, h1, h2, h3⟩ => ⟨A, n, c, h1, h2, h3.mono hle⟩
  len := fun ⟨A, n, c, h1, _⟩ => by simp [h1]
  pos := by decide
  bpos := by decide
  one := fun ⟨A, n, c, h1, _⟩ => by rw [h1]; simp [Value.oneCell']
instance : Rep TSch where
  sz := 5
  byt := 112
  rel H vs v := ∃ A n c B m d E k e F l f, vs = [.string v.name, .slice A n c, .slice B m d, .slice E k e, .slice F l f] ∧ str v.name ∧ Sl H A n c v.vers ∧ Sl H B m d v.key ∧ Sl H E k e v.fks ∧ Sl H F l f v.csts
  mono := fun hle ⟨A, n, c, B, m, d, E, k, e, F, l, f, h1, h2, h3, h4, h5, h6⟩ => ⟨A, n, c, B, m, d, E, k, e, F, l, f, h1, h2, h3.mono hle, h4.mono hle, h5.mono hle, h6.mono hle⟩
  len := fun ⟨A, n, c, B, m, d, E, k, e, F, l, f, h1, _⟩ => by simp [h1]
  pos := by decide
  bpos := by decide
  one := fun ⟨A, n, c, B, m, d, E, k, e, F, l, f, h1, _⟩ => by rw [h1]; simp [Value.oneCell']
end Go.Vc
/- What the abstract states say of the machine's. -/
namespace Go.Vc
open Go Go.RowKit

section
variable (ρ : Nat → Nat) (σ : Nat → Value)
def S1.rel : S1 → Value → Prop
  | .any, _ => True
  | .un, y => y = undef
  | .v x, y => y = x
  | .b x, y => y = .bool x
  | .tt, y => y = .bool true
  | .ff, y => y = .bool false
  | .loc i off, y => y = .pointer (some ⟨ρ i, off, none⟩)
  | .aelt i j, y => y = .pointer (some ⟨ρ i, j, none⟩)
  | .elt A j, y => ∃ b o, A = some ⟨b, o, none⟩ ∧ y = .pointer (some ⟨b, o + j, none⟩)
  | .oelt i j, y => ∃ g n c, σ i = .slice (some ⟨g, 0, none⟩) n c ∧ y = .pointer (some ⟨g, j, none⟩)
  | .own i, y => y = σ i
  | .sub i l m sz, y => ∃ A n c, σ i = .slice A n c ∧ l + m ≤ n ∧ y = .slice (subA A c l sz) m (c - l)
  | .pin i s, y => y = σ i ∧ y = s
  | .me i bk, y => y = .pointer (some ⟨ρ i, 0, none⟩) ∧ ρ i = bk
def relL : List S1 → List Value → Prop
  | [], [] => True
  | c :: cs, y :: ys => c.rel ρ σ y ∧ relL cs ys
  | _, _ => False
def relT : List (Bool × List S1) → List Value → Prop
  | [], [] => True
  | (true, c) :: cs, y :: ys => (∃ zs : Array Value, y = .agg zs ∧ relL ρ σ c zs.toList) ∧ relT cs ys
  | (false, c) :: cs, y :: ys => relL ρ σ c [y] ∧ relT cs ys
  | _, _ => False
def SV.rel : SV → Value → Prop
  | .one x, y => x.rel ρ σ y
  | .agg cs, y => ∃ ys : Array Value, y = .agg ys ∧ relL ρ σ cs ys.toList
  | .clo f cap, y => ∃ ys : Array Value, y = .func (.func f) #[] ys ∧ relL ρ σ cap ys.toList
  | .tup cs, y => ∃ ys : Array Value, y = .tuple ys ∧ relT ρ σ cs ys.toList
end

/- which of the call's own objects a value names -/
def S1.refs (d : Nat) : S1 → Prop
  | .loc i _ => i = d
  | .aelt i _ => i = d
  | .oelt i _ => i = d
  | .own i => i = d
  | .sub i _ _ _ => i = d
  | .pin i _ => i = d
  | .me i _ => i = d
  | _ => False
def refsL (d : Nat) (cs : List S1) : Prop := ∃ c ∈ cs, c.refs d
def SV.refs (d : Nat) : SV → Prop
  | .one x => x.refs d
  | .agg cs => refsL d cs
  | .clo _ cap => refsL d cap
  | .tup cs => ∃ x ∈ cs, refsL d x.2
def LObj.refs (d : Nat) : LObj → Prop
  | .box _ cs => refsL d cs
  | _ => False
structure St.noRef (st : St) (d : Nat) : Prop where
  fr : ∀ (j : Nat) (x : SV), st.fr[j]? = some x → ¬ x.refs d
  obj : ∀ (j : Nat) (f : Bool) (o : LObj), st.L[j]? = some (some (f, o)) → ¬ o.refs d

def ObjOK (P : Program) (w0 : W0) (w : World) (H : Heap) (ρ : Nat → Nat) (σ : Nat → Value) (i : Nat) : LObj → Prop
  | .box t cs => ∃ ys : Array Value, w.heap[ρ i]? = some (.cells ys t (0, 0)) ∧ relL ρ σ cs ys.toList ∧ w0.nw (ρ i) ∧ ∀ o, H (ρ i) o = none
  | .arr t xs => w.heap[ρ i]? = some (.cells ⟨xs⟩ t (0, 0)) ∧ (∀ x ∈ xs, x.oneCell' = true) ∧ w0.nw (ρ i) ∧ ∀ o, H (ρ i) o = none
  | .row e n xs => owns w w0 e (P.cellsOf e) (σ i) n xs ∧ (∀ x ∈ xs, x.oneCell' = true) ∧ ∀ g, (σ i).ownBlock = some g → ∀ o, H g o = none
  | .pub A n c => σ i = .slice A n c
  | .dead => True
def blk (ρ : Nat → Nat) (σ : Nat → Value) (i : Nat) : LObj → Option Nat
  | .box _ _ => some (ρ i)
  | .arr _ _ => some (ρ i)
  | .row _ _ _ => (σ i).ownBlock
  | _ => none

/- a row that is public as far as it is filled -/
def OpenOK (P : Program) (w0 : W0) (w : World) (H : Heap) (b : Nat) (x : XO) : Prop :=
  w0.nw (b) ∧ (∃ ob, w.heap[b]? = some ob ∧ XOb P x ob) ∧ ∀ t, XFree P x t → H b t = none
structure Good (P : Program) (w0 : W0) (H0 : Heap) (st : St) (a : Act) (w : World) (ρ : Nat → Nat) (σ : Nat → Value) : Prop where
  defers : a.defers = []
  size : a.tmps.size = st.fr.length
  fr : ∀ (i : Nat) (x : SV), st.fr[i]? = some x → x.rel ρ σ (a.tmps.getD i undef)
  below : BelS w0.w w w0.g
  le : Heap.le H0 st.H
  old : ∀ b, ¬ w0.nw b → ∀ o, st.H b o = H0 b o
  snap : Snap st.H w
  obj : ∀ i f o, st.L[i]? = some (some (f, o)) → ObjOK P w0 w st.H ρ σ i o
  sep : ∀ i j f f' o o' g, i ≠ j → st.L[i]? = some (some (f, o)) → st.L[j]? = some (some (f', o')) → blk ρ σ i o = some g → blk ρ σ j o' ≠ some g
  nr : ∀ d, st.L[d]? = some none → st.noRef d
  sl : ∀ i, ∃ A n c, σ i = .slice A n c
  opn : ∀ b x, st.O b = some x → OpenOK P w0 w st.H b x ∧ ∀ i f o, st.L[i]? = some (some (f, o)) → blk ρ σ i o ≠ some b

section
variable {ρ : Nat → Nat} {σ : Nat → Value}
theorem relL_length : ∀ {cs : List S1} {ys : List Value}, relL ρ σ cs ys → cs.length = ys.length
  | [], [], _ => rfl
  | _ :: _, _ :: _, h => by simp [relL_length h.2]
  | [], _ :: _, h => h.elim
  | _ :: _, [], h => h.elim
theorem relL_append : ∀ {cs cs' : List S1} {ys ys' : List Value}, relL ρ σ cs ys → relL ρ σ cs' ys' → relL ρ σ (cs ++ cs') (ys ++ ys')
  | [], _, [], _, _, h' => h'
  | _ :: _, _, _ :: _, _, h, h' => ⟨h.1, relL_append h.2 h'⟩
  | [], _, _ :: _, _, h, _ => h.elim
  | _ :: _, _, [], _, h, _ => h.elim
theorem relL_take : ∀ {cs : List S1} {ys : List Value} (k : Nat), relL ρ σ cs ys → relL ρ σ (cs.take k) (ys.take k)
  | [], [], k, _ => by simp [relL]
  | _ :: _, _ :: _, 0, _ => by simp [relL]
  | _ :: _, _ :: _, k + 1, h => ⟨h.1, relL_take k h.2⟩
  | [], _ :: _, _, h => h.elim
  | _ :: _, [], _, h => h.elim
theorem relL_drop : ∀ {cs : List S1} {ys : List Value} (k : Nat), relL ρ σ cs ys → relL ρ σ (cs.drop k) (ys.drop k)
  | [], [], k, _ => by simp [relL]
  | _ :: _, _ :: _, 0, h => h
  | _ :: _, _ :: _, k + 1, h => relL_drop k h.2
  | [], _ :: _, _, h => h.elim
  | _ :: _, [], _, h => h.elim
theorem relL_get : ∀ {cs : List S1} {ys : List Value} {k : Nat} {c : S1}, relL ρ σ cs ys → cs[k]? = some c → ∃ y, ys[k]? = some y ∧ c.rel ρ σ y
  | c :: _, y :: _, 0, _, h, e => ⟨y, rfl, by simp at e; subst e; exact h.1⟩
  | _ :: _, _ :: _, k + 1, _, h, e => by
    obtain ⟨y, hy, hr⟩ := relL_get (k := k) h.2 (by simpa using e)
    exact ⟨y, by simpa using hy, hr⟩
  | [], [], _, _, _, e => by simp at e
  | [], _ :: _, _, _, h, _ => h.elim
  | _ :: _, [], _, _, h, _ => h.elim
theorem relL_v : ∀ (xs : List Value), relL ρ σ (xs.map S1.v) xs
  | [] => trivial
  | _ :: xs => ⟨rfl, relL_v xs⟩
theorem S1.toV_rel {c : S1} {x y : Value} (h : c.toV = some x) (hr : c.rel ρ σ y) : y = x := by
  cases c <;> simp [S1.toV] at h <;> subst h <;> exact hr
theorem toVs_rel : ∀ {cs : List S1} {xs ys : List Value}, toVs cs = some xs → relL ρ σ cs ys → ys = xs
  | [], xs, [], h, _ => by simp [toVs] at h; exact h.symm
  | c :: cs, xs, y :: ys, h, hr => by
    simp only [toVs] at h
    split at h
    · rename_i x hx
      split at h
      · rename_i xs' hxs
        simp at h
        subst h
        rw [S1.toV_rel hx hr.1, toVs_rel hxs hr.2]
      · simp at h
    · simp at h
  | [], _, _ :: _, _, h => h.elim
  | _ :: _, _, [], _, h => h.elim
theorem S1.asB_rel {c : S1} {b : Bool} {y : Value} (h : c.asB = some b) (hr : c.rel ρ σ y) : y = .bool b := by
  cases c <;> simp only [S1.asB] at h <;> try (simp at h; done)
  case v x =>
    cases x <;> simp at h
    subst h; exact hr
  all_goals (simp at h; subst h; exact hr)
theorem S1.ok1_rel (hsl : ∀ i, ∃ A n c, σ i = .slice A n c) {c : S1} {y : Value} (h : c.ok1 = true) (hr : c.rel ρ σ y) : y.oneCell' = true := by
  cases c <;> simp only [S1.ok1] at h <;> simp only [S1.rel] at hr <;> try (simp at h; done)
  case v x => cases x <;> simp at h <;> subst hr <;> rfl
  case own i => obtain ⟨A, n, c, e⟩ := hsl i; subst hr; rw [e]; rfl
  case oelt i j => obtain ⟨g, n, c, _, e⟩ := hr; subst e; rfl
  case sub i l m sz => obtain ⟨A, n, c, _, _, e⟩ := hr; subst e; rfl
  case pin i s => obtain ⟨A, n, c, e⟩ := hsl i; rw [hr.1, e]; rfl
  case me i bk => rw [hr.1]; rfl
  all_goals (subst hr; rfl)
theorem ok1s_rel (hsl : ∀ i, ∃ A n c, σ i = .slice A n c) : ∀ {cs : List S1} {ys : List Value}, ok1s cs = true → relL ρ σ cs ys → ∀ y ∈ ys, y.oneCell' = true
  | [], [], _, _ => by simp
  | c :: cs, y :: ys, h, hr => by
    simp only [ok1s, Bool.and_eq_true] at h
    intro z hz
    rcases List.mem_cons.1 hz with rfl | hz
    · exact S1.ok1_rel hsl h.1 hr.1
    · exact ok1s_rel hsl h.2 hr.2 z hz
  | [], _ :: _, _, h => h.elim
  | _ :: _, [], _, h => h.elim
end

section
variable {P : Program} {w0 : W0} {w : World} {H0 : Heap} {st : St} {a : Act} {ρ : Nat → Nat} {σ : Nat → Value}
theorem getL_some {i : Nat} {o : LObj} (h : getL st i = some o) : ∃ f, st.L[i]? = some (some (f, o)) := by
  unfold getL at h
  split at h
  · rename_i f o' ho
    simp at h; subst h
    exact ⟨f, ho⟩
  · simp at h
theorem getW_some {i : Nat} {o : LObj} (h : getW st i = some o) : st.L[i]? = some (some (true, o)) := by
  unfold getW at h
  split at h
  · rename_i o' ho
    simp at h; subst h
    exact ho
  · simp at h
theorem fresh?_some {d : Nat} (h : fresh? st d = true) : st.L[d]? = some none := by
  unfold fresh? at h
  split at h
  · assumption
  · simp at h
theorem res1_rel (hobj : ∀ i f o, st.L[i]? = some (some (f, o)) → ObjOK P w0 w st.H ρ σ i o) {c : S1} {y : Value} (h : c.rel ρ σ y) : (res1 st c).rel ρ σ y := by
  cases c <;> simp only [res1] <;> try exact h
  case own i =>
    split
    · rename_i A n c hg
      obtain ⟨f, hf⟩ := getL_some hg
      have := hobj _ _ _ hf
      simp only [ObjOK] at this
      simp only [S1.rel] at h ⊢
      rw [h, this]
    · exact h
  case pin i s =>
    split
    · rename_i A n c hg
      obtain ⟨f, hf⟩ := getL_some hg
      have := hobj _ _ _ hf
      simp only [ObjOK] at this
      simp only [S1.rel] at h ⊢
      rw [h.1, this]
    · exact h.1
  case me i b => exact h.1
theorem resL_rel (hobj : ∀ i f o, st.L[i]? = some (some (f, o)) → ObjOK P w0 w st.H ρ σ i o) : ∀ {cs : List S1} {ys : List Value}, relL ρ σ cs ys → relL ρ σ (cs.map (res1 st)) ys
  | [], [], _ => trivial
  | _ :: _, _ :: _, h => ⟨res1_rel hobj h.1, resL_rel hobj h.2⟩
  | [], _ :: _, h => h.elim
  | _ :: _, [], h => h.elim
theorem resT_rel (hobj : ∀ i f o, st.L[i]? = some (some (f, o)) → ObjOK P w0 w st.H ρ σ i o) : ∀ {cs : List (Bool × List S1)} {ys : List Value}, relT ρ σ cs ys → relT ρ σ (cs.map fun x => (x.1, x.2.map (res1 st))) ys
  | [], [], _ => trivial
  | (true, _) :: _, _ :: _, h => by
    obtain ⟨⟨zs, e, hz⟩, h2⟩ := h
    exact ⟨⟨zs, e, resL_rel hobj hz⟩, resT_rel hobj h2⟩
  | (false, _) :: _, _ :: _, h => ⟨resL_rel hobj h.1, resT_rel hobj h.2⟩
  | [], _ :: _, h => h.elim
  | (true, _) :: _, [], h => h.elim
  | (false, _) :: _, [], h => h.elim
theorem resV_rel (hobj : ∀ i f o, st.L[i]? = some (some (f, o)) → ObjOK P w0 w st.H ρ σ i o) {x : SV} {y : Value} (h : x.rel ρ σ y) : (resV st x).rel ρ σ y := by
  cases x <;> simp only [resV, SV.rel] at h ⊢
  case one x => exact res1_rel hobj h
  case agg cs => obtain ⟨ys, e, hr⟩ := h; exact ⟨ys, e, resL_rel hobj hr⟩
  case clo f cap => obtain ⟨ys, e, hr⟩ := h; exact ⟨ys, e, resL_rel hobj hr⟩
  case tup cs => obtain ⟨ys, e, hr⟩ := h; exact ⟨ys, e, resT_rel hobj hr⟩
theorem res1_refs {c : S1} {d : Nat} (h : (res1 st c).refs d) : c.refs d := by
  cases c <;> simp only [res1] at h <;> try exact h
  all_goals
    split at h
    · exact h.elim
    · exact h
theorem resL_refs {cs : List S1} {d : Nat} (h : refsL d (cs.map (res1 st))) : refsL d cs := by
  obtain ⟨c, hc, hr⟩ := h
  obtain ⟨c', hc', rfl⟩ := List.mem_map.1 hc
  exact ⟨c', hc', res1_refs hr⟩
theorem resV_refs {x : SV} {d : Nat} (h : (resV st x).refs d) : x.refs d := by
  cases x <;> simp only [resV, SV.refs] at h ⊢
  case one x => exact res1_refs h
  case agg cs => exact resL_refs h
  case clo f cap => exact resL_refs h
  case tup cs =>
    obtain ⟨x, hx, hr⟩ := h
    obtain ⟨y, hy, rfl⟩ := List.mem_map.1 hx
    exact ⟨y, hy, resL_refs hr⟩
theorem ofV_rel (v : Value) : (ofV v).rel ρ σ v := by
  cases v <;> simp only [ofV]
  case bool b => cases b <;> rfl
  case agg cs => exact ⟨cs, rfl, relL_v _⟩
  all_goals rfl
theorem refsL_v {d : Nat} {xs : List Value} (h : refsL d (xs.map S1.v)) : False := by
  obtain ⟨c, hc, hr⟩ := h
  obtain ⟨x, _, rfl⟩ := List.mem_map.1 hc
  exact hr
theorem ofV_refs {v : Value} {d : Nat} (h : (ofV v).refs d) : False := by
  cases v <;> simp only [ofV] at h
  case bool b => cases b <;> exact h
  case agg cs => exact refsL_v h
  all_goals exact h
variable (hg : Good P w0 H0 st a w ρ σ)
include hg
theorem ev_rel {x : Operand} {r : SV} (h : ev st x = some r) : r.rel ρ σ (a.eval x) := by
  cases x <;> simp only [ev] at h
  case tmp t =>
    split at h
    · rename_i x hx
      simp at h; subst h
      exact resV_rel hg.obj (hg.fr _ _ hx)
    · simp at h
  case const v => simp at h; subst h; exact ofV_rel v
  case func f => simp at h; subst h; exact ⟨#[], rfl, trivial⟩
  case global g => simp at h
omit hg in
theorem ev_refs {x : Operand} {r : SV} (h : ev st x = some r) {d : Nat} (hn : st.noRef d) : ¬ r.refs d := by
  cases x <;> simp only [ev] at h
  case tmp t =>
    split at h
    · rename_i x hx
      simp at h; subst h
      exact fun hh => hn.fr _ _ hx (resV_refs hh)
    · simp at h
  case const v => simp at h; subst h; exact ofV_refs
  case func f => simp at h; subst h; rintro ⟨c, hc, _⟩; simp at hc
  case global g => simp at h
theorem evs_rel : ∀ {xs : List Operand} {rs : List SV}, evs st xs = some rs → rs.length = xs.length ∧ ∀ (k : Nat) (r : SV) (x : Operand), rs[k]? = some r → xs[k]? = some x → r.rel ρ σ (a.eval x)
  | [], rs, h => by simp [evs] at h; subst h; simp
  | x :: xs, rs, h => by
    simp only [evs] at h
    split at h
    · rename_i r hr
      split at h
      · rename_i rs' hrs
        simp at h; subst h
        obtain ⟨hl, hk⟩ := evs_rel hrs
        refine ⟨by simp [hl], fun k r' x' h1 h2 => ?_⟩
        cases k with
        | zero => simp at h1 h2; subst h1 h2; exact ev_rel hg hr
        | succ k => exact hk k r' x' (by simpa using h1) (by simpa using h2)
      · simp at h
    · simp at h
end
end Go.Vc
/- The reading operations: what the verification condition asks suffices for the machine's step. -/
namespace Go.Vc
open Go Go.RowKit

def EKOK (P : Program) (q : EK) (t : TypeId) : Prop :=
  match q with
  | .int => ∃ k', P.underlying t = some (.int k')
  | .bool => P.underlying t = some .bool
  | .str => P.underlying t = some .string
structure TyOK (P : Program) (t : TypeId) (i : TyI) : Prop where
  und : match i.ty with
    | .int k => P.underlying t = some (.int k)
    | .bool => P.underlying t = some .bool
    | .string => P.underlying t = some .string
    | .slice e => P.underlying t = some (.slice e)
    | .struct fs => ∃ F : Array Field, P.underlying t = some (.struct F) ∧ F.toList.map (fun f => (f.offset, f.type)) = fs ∧ ∀ f ∈ F.toList, ∃ inf, P.info? f.type = some inf
    | .array n e => P.underlying t = some (.array n e)
    | .map k e => P.underlying t = some (.map k e)
    | .ptr e => P.underlying t = some (.pointer e)
    | .other => True
  agg : ∀ w, (isAgg t).run P w = .ok i.agg w
  info : ∃ inf z, P.info? t = some inf ∧ inf.size = i.size ∧ inf.bytes = i.bytes ∧ inf.zero = some z ∧ z.cells = ⟨i.zero⟩
  zlen : i.zero.length = i.size
  zform : ∀ inf z, P.info? t = some inf → inf.zero = some z → (i.agg = true ↔ ∃ cs, z = .agg cs)
  zone : ∀ z ∈ i.zero, z.oneCell' = true
  zagg : i.agg = true ↔ ((∃ fs, i.ty = .struct fs) ∨ ∃ n e, i.ty = .array n e)
  eq : i.eqk ≠ [] → ∃ F : Array Field, P.underlying t = some (.struct F) ∧ P.eqGuardType P.depth t = false ∧ P.stoodInHeld t = false ∧
    F.toList.length = i.eqk.length ∧ ∀ (k : Nat) (f : Field) (q : EK), F.toList[k]? = some f → i.eqk[k]? = some q → f.offset = k ∧ f.name ≠ "_" ∧
      EKOK P q f.type
def TabOK (P : Program) (Γ : Tab) : Prop := ∀ t i, Γ t = some i → TyOK P t i

section
variable {P : Program} {t : TypeId} {i : TyI}
theorem TyOK.run_size (h : TyOK P t i) (w : World) : (sizeOf t).run P w = .ok i.size w := by
  obtain ⟨inf, z, h1, h2, _⟩ := h.info
  simp [sizeOf, typeInfo, h1, h2]
theorem TyOK.run_zero (h : TyOK P t i) (w : World) : ∃ z, (zeroValue t).run P w = .ok z w ∧ z.cells = ⟨i.zero⟩ := by
  obtain ⟨inf, z, h1, _, _, h4, h5⟩ := h.info
  exact ⟨z, by simp [zeroValue, typeInfo, h1, h4], h5⟩
theorem run_und {P : Program} {t : TypeId} {d : TypeDesc} (h : P.underlying t = some d) (w : World) : (underlying t).run P w = .ok d w := by
  simp [underlying, h]
end

theorem add_plain (b o n : Nat) : (⟨b, o, none⟩ : Addr).add n = ⟨b, o + n, none⟩ := by
  unfold Addr.add; split <;> simp_all
theorem run_loadCellsFrom {P : Program} (w : World) (b o : Nat) : ∀ (n i : Nat) (ys : List Value) (acc : Array Value), ys.length = n →
    (∀ k y, ys[k]? = some y → w.cell? ⟨b, o + i + k, none⟩ = some y) → (loadCellsFrom ⟨b, o, none⟩ i n acc).run P w = .ok (acc ++ ⟨ys⟩) w
  | 0, i, ys, acc, hl, _ => by
    have : ys = [] := List.eq_nil_of_length_eq_zero hl
    subst this
    simp [loadCellsFrom]
  | n + 1, i, [], acc, hl, _ => by simp at hl
  | n + 1, i, y :: ys, acc, hl, h => by
    have h0 := h 0 y rfl
    simp only [Nat.add_zero] at h0
    simp only [loadCellsFrom, Sem.run_bind, add_plain, run_load, h0, Result.andThen_ok]
    rw [run_loadCellsFrom w b o n (i + 1) ys (acc.push y) (by simpa using hl) (fun k z hz => by
      have := h (k + 1) z (by simpa using hz)
      rw [show o + (i + 1) + k = o + i + (k + 1) from by omega]; exact this)]
    congr 1
    apply Array.ext'
    simp
theorem run_loadCells {P : Program} (w : World) (b o : Nat) (ys : List Value) (h : ∀ k y, ys[k]? = some y → w.cell? ⟨b, o + k, none⟩ = some y) :
    (loadCells ⟨b, o, none⟩ ys.length).run P w = .ok ⟨ys⟩ w := by
  unfold loadCells
  rw [run_loadCellsFrom w b o ys.length 0 ys #[] rfl (by simpa using h)]
  simp
/- the value that cells make up -/
def valMk (g : Bool) (ys : List Value) : Value := if g then .agg ⟨ys⟩ else ys.headD undef
theorem run_loadVar {P : Program} {t : TypeId} {i : TyI} (hT : TyOK P t i) (w : World) (b o : Nat) (ys : List Value)
    (h : ∀ k y, ys[k]? = some y → w.cell? ⟨b, o + k, none⟩ = some y) (hl : ys.length = i.size) (h1 : i.agg = true ∨ ys.length = 1) :
    (loadVar t ⟨b, o, none⟩).run P w = .ok (valMk i.agg ys) w := by
  unfold loadVar valMk
  simp only [Sem.run_bind, hT.agg w, Result.andThen_ok]
  cases hg : i.agg
  · simp only [Bool.false_eq_true, if_false, Sem.run_ite]
    rcases h1 with h1 | h1
    · rw [hg] at h1; simp at h1
    · match ys, h1 with
      | [y], _ =>
        have := h 0 y rfl
        simp only [Nat.add_zero] at this
        simp [this]
  · simp only [if_true, Sem.run_bind, hT.run_size w, Result.andThen_ok, ← hl, run_loadCells w b o ys h, Sem.run_pure]

section
variable {ρ : Nat → Nat} {σ : Nat → Value}
theorem mkSV_rel {g : Bool} {cs : List S1} {r : SV} {ys : List Value} (h : mkSV g cs = some r) (hr : relL ρ σ cs ys) :
    r.rel ρ σ (valMk g ys) ∧ (g = true ∨ ys.length = 1) ∧ ∀ d, r.refs d → refsL d cs := by
  cases g
  · match cs, h with
    | [c], h =>
      simp [mkSV] at h; subst h
      match ys, hr with
      | [y], hr => exact ⟨hr.1, .inr rfl, fun d hd => ⟨c, by simp, hd⟩⟩
      | [], hr => exact hr.elim
      | _ :: _ :: _, hr => exact hr.2.elim
    | [], h => simp [mkSV] at h
    | _ :: _ :: _, h => simp [mkSV] at h
  · simp [mkSV] at h; subst h
    exact ⟨⟨_, rfl, hr⟩, .inl rfl, fun d hd => hd⟩
theorem vcMk_sound {g : Bool} {cs : List S1} {K : SV → Prop} {ys : List Value} (h : vcMk g cs K) (hr : relL ρ σ cs ys) :
    ∃ r, r.rel ρ σ (valMk g ys) ∧ (g = true ∨ ys.length = 1) ∧ (∀ d, r.refs d → refsL d cs) ∧ K r := by
  unfold vcMk at h
  split at h
  · rename_i r hm
    obtain ⟨h1, h2, h3⟩ := mkSV_rel hm hr
    exact ⟨r, h1, h2, h3, h⟩
  · exact h.elim
theorem exQ_sound : ∀ {ls : List Leaf} {K : List Value → List S1 → Prop}, exQ ls K → ∃ vs cs, relL ρ σ cs vs ∧ (∀ d, ¬ refsL d cs) ∧ K vs cs
  | [], K, h => ⟨[], [], trivial, fun d => by rintro ⟨c, hc, _⟩; simp at hc, h⟩
  | l :: ls, K, h => by
    have key : ∀ (v : Value) (c : S1), c.rel ρ σ v → (∀ d, ¬ c.refs d) → exQ ls (fun vs cs => K (v :: vs) (c :: cs)) → ∃ vs cs, relL ρ σ cs vs ∧ (∀ d, ¬ refsL d cs) ∧ K vs cs := by
      intro v c hv hc h
      obtain ⟨vs, cs, h1, h2, h3⟩ := exQ_sound h
      refine ⟨v :: vs, c :: cs, ⟨hv, h1⟩, fun d => ?_, h3⟩
      rintro ⟨x, hx, hr⟩
      rcases List.mem_cons.1 hx with rfl | hx
      · exact hc d hr
      · exact h2 d ⟨x, hx, hr⟩
    cases l <;> simp only [exQ] at h
    case sl =>
      obtain ⟨A, n, c, h⟩ := h
      refine key _ _ ?_ ?_ h
      · exact rfl
      · exact fun _ hh => hh
    all_goals
      obtain ⟨n, h⟩ := h
      refine key _ _ ?_ ?_ h
      · exact rfl
      · exact fun _ hh => hh
end

section
variable {P : Program} {Γ : Tab} {w0 : W0} {w : World} {H0 : Heap} {st : St} {a : Act} {ρ : Nat → Nat} {σ : Nat → Value}
variable (hT : TabOK P Γ) (hg : Good P w0 H0 st a w ρ σ)
/- a world that shows what w shows, as far as reading goes -/
structure SameFor (st : St) (ρ : Nat → Nat) (σ : Nat → Value) (w w' : World) : Prop where
  snap : Snap st.H w'
  box : ∀ (i : Nat) (f : Bool) (t : TypeId) (cs : List S1), st.L[i]? = some (some (f, .box t cs)) → w'.heap[ρ i]? = w.heap[ρ i]?
  arr : ∀ (i : Nat) (f : Bool) (t : TypeId) (xs : List Value), st.L[i]? = some (some (f, .arr t xs)) → w'.heap[ρ i]? = w.heap[ρ i]?
  row : ∀ (i : Nat) (f : Bool) (e : TypeId) (n : Nat) (xs : List Value), st.L[i]? = some (some (f, .row e n xs)) → ∀ g, (σ i).ownBlock = some g → w'.heap[g]? = w.heap[g]?
theorem SameFor.refl (hg : Good P w0 H0 st a w ρ σ) : SameFor st ρ σ w w := ⟨hg.snap, fun _ _ _ _ _ => rfl, fun _ _ _ _ _ => rfl, fun _ _ _ _ _ _ _ _ => rfl⟩
theorem ownsRow_same0 {w w' : World} {B sz n : Nat} {e : TypeId} {v : Value} {xs : List Value} (hs : ∀ g, v.ownBlock = some g → w'.heap[g]? = w.heap[g]?) (h : w.ownsRow B e sz v n xs) : w'.ownsRow B e sz v n xs := by
  refine ⟨h.1, ?_⟩
  rcases h.2 with h | ⟨g, cap, cur, hv, h1, h2, h3⟩
  · exact .inl h
  · exact .inr ⟨g, cap, cur, hv, h1, (hs g (by rw [hv]; rfl)).trans h2, h3⟩
theorem ownsRow_same {w w' : World} {w0 : W0} {sz n : Nat} {e : TypeId} {v : Value} {xs : List Value} (hs : ∀ g, v.ownBlock = some g → w'.heap[g]? = w.heap[g]?) (h : owns w w0 e sz v n xs) : owns w' w0 e sz v n xs := ⟨ownsRow_same0 hs h.row, h.nw⟩
def RdOK (P : Program) (st : St) (ρ : Nat → Nat) (σ : Nat → Value) (w : World) (m : Sem Value) (K : SV → Prop) : Prop :=
  ∃ v r, (∀ w', SameFor st ρ σ w w' → m.run P w' = .ok v w') ∧ SV.rel ρ σ r v ∧ (∀ d, st.noRef d → ¬ r.refs d) ∧ K r
theorem cell_of_block {w : World} {g j : Nat} {cs : Array Value} {t : TypeId} (h : w.heap[g]? = some (.cells cs t (0, 0))) : w.cell? ⟨g, j, none⟩ = cs[j]? := by
  simp [World.cell?, h]
include hT hg
omit hT in
theorem box_of {o : Nat} {t : TypeId} {cs : List S1} (h : getL st o = some (.box t cs)) :
    ∃ ys : Array Value, w.heap[ρ o]? = some (.cells ys t (0, 0)) ∧ relL ρ σ cs ys.toList ∧ ∀ d, st.noRef d → ¬ refsL d cs := by
  obtain ⟨f, hf⟩ := getL_some h
  obtain ⟨ys, h1, h2, _⟩ := hg.obj _ _ _ hf
  exact ⟨ys, h1, h2, fun d hd => hd.obj _ _ _ hf⟩
omit hT in
theorem arr_of {o : Nat} {t : TypeId} {xs : List Value} (h : getL st o = some (.arr t xs)) : w.heap[ρ o]? = some (.cells ⟨xs⟩ t (0, 0)) := by
  obtain ⟨f, hf⟩ := getL_some h
  exact (hg.obj _ _ _ hf).1
omit hT in
theorem row_of {o : Nat} {e : TypeId} {n : Nat} {xs : List Value} (h : getL st o = some (.row e n xs)) : owns w w0 e (P.cellsOf e) (σ o) n xs := by
  obtain ⟨f, hf⟩ := getL_some h
  exact (hg.obj _ _ _ hf).1
omit hT hg in
theorem row_cells {o : Nat} {e : TypeId} {n : Nat} {xs : List Value} (h : owns w w0 e (P.cellsOf e) (σ o) n xs) {g m c : Nat} (hs : σ o = .slice (some ⟨g, 0, none⟩) m c) :
    ∀ k x, xs[k]? = some x → w.cell? ⟨g, k, none⟩ = some x := by
  intro k x hx
  have := h.cells (g := g) (by rw [hs]; rfl) k x hx
  rwa [add_plain, Nat.zero_add] at this
theorem win_get {xs ys : List Value} {j n : Nat} (h : win xs j n = ys) (k : Nat) (y : Value) (hy : ys[k]? = some y) : xs[j + k]? = some y := by
  unfold win at h
  subst h
  rw [List.getElem?_take] at hy
  split at hy
  · rwa [List.getElem?_drop] at hy
  · simp at hy
theorem vcLoad_sound {t : TypeId} {x : SV} {v : Value} (hx : x.rel ρ σ v) {K : SV → Prop} (h : vcLoad Γ st t x K) : RdOK P st ρ σ w (Instr.loadAt t v) K := by
  unfold vcLoad at h
  split at h
  · exact h.elim
  · rename_i i hi
    have hTy := hT _ _ hi
    split at h
    · rename_i o off
      simp only [SV.rel, S1.rel] at hx
      subst hx
      split at h
      · rename_i t0 cs hL
        split at h
        · rename_i hlen
          obtain ⟨ys, hb, hr, hn⟩ := box_of hg hL
          have hr' := relL_take i.size (relL_drop off hr)
          have hl : ((ys.toList.drop off).take i.size).length = i.size := by
            have := relL_length hr
            simp only [List.length_take, List.length_drop]; omega
          obtain ⟨r, h1, h2, h3, h4⟩ := vcMk_sound h hr'
          refine ⟨_, r, ?_, h1, fun d hd hh => ?_, h4⟩
          · intro w' hw'
            obtain ⟨fl, hfl⟩ := getL_some hL
            simp only [Instr.loadAt, Instr.sureAddr, Sem.run_bind, Sem.run_pure, Result.andThen_ok]
            refine run_loadVar hTy w' _ _ _ (fun k y hy => ?_) hl h2
            rw [cell_of_block ((hw'.box _ _ _ _ hfl).trans hb)]
            rw [List.getElem?_take] at hy
            split at hy
            · rw [List.getElem?_drop] at hy; simpa using hy
            · simp at hy
          · obtain ⟨c, hc, hcr⟩ := h3 d hh
            exact hn d hd ⟨c, List.mem_of_mem_drop (List.mem_of_mem_take hc), hcr⟩
        · exact h.elim
      · rename_i t0 xs hL
        obtain ⟨vs, cs, hr, hn, hw, h⟩ := exQ_sound (ρ := ρ) (σ := σ) h
        split at h
        · rename_i hl
          obtain ⟨r, h1, h2, h3, h4⟩ := vcMk_sound h hr
          refine ⟨_, r, ?_, h1, fun d _ hh => hn d (h3 d hh), h4⟩
          intro w' hw'
          obtain ⟨fl, hfl⟩ := getL_some hL
          simp only [Instr.loadAt, Instr.sureAddr, Sem.run_bind, Sem.run_pure, Result.andThen_ok]
          refine run_loadVar hTy w' _ _ _ (fun k y hy => ?_) hl h2
          rw [cell_of_block ((hw'.arr _ _ _ _ hfl).trans (arr_of hg hL))]
          simpa using win_get hT hg hw k y hy
        · exact h.elim
      · exact h.elim
    · rename_i A j
      obtain ⟨b, o, rfl, rfl⟩ := hx
      split at h
      · split at h
        · rename_i hsz
          obtain ⟨b1, o1, hc, h⟩ := h
          have h : vcMk i.agg [.elt (some ⟨b1, o1, none⟩) 0] K := by rw [hsz.2]; exact h
          have hr : relL ρ σ [S1.elt (some ⟨b1, o1, none⟩) 0] [Value.pointer (some ⟨b1, o1, none⟩)] := ⟨⟨_, _, rfl, rfl⟩, trivial⟩
          obtain ⟨r, h1, h2, h3, h4⟩ := vcMk_sound h hr
          refine ⟨_, r, ?_, h1, fun d _ hh => ?_, h4⟩
          · intro w' hw'
            simp only [Instr.loadAt, Instr.sureAddr, Sem.run_bind, Sem.run_pure, Result.andThen_ok]
            refine run_loadVar hTy w' _ _ _ (fun k y hy => ?_) (by simp [hsz.1]) h2
            rcases hc with hc | ⟨b', o', hA, hc⟩
            · cases hc
            · injection hA with hA; injection hA with e1 e2; subst e1 e2
              exact (hw'.snap _ _ _ (hc k y hy).1).cell (hc k y hy).2
          · obtain ⟨c, hc, hcr⟩ := h3 d hh
            simp at hc
            subst hc
            exact hcr
        · exact h.elim
      obtain ⟨vs, cs, hr, hn, hc, h⟩ := exQ_sound (ρ := ρ) (σ := σ) h
      split at h
      · rename_i hl
        obtain ⟨r, h1, h2, h3, h4⟩ := vcMk_sound h hr
        refine ⟨_, r, ?_, h1, fun d _ hh => hn d (h3 d hh), h4⟩
        intro w' hw'
        simp only [Instr.loadAt, Instr.sureAddr, Sem.run_bind, Sem.run_pure, Result.andThen_ok]
        refine run_loadVar hTy w' _ _ _ (fun k y hy => ?_) hl h2
        rcases hc with rfl | ⟨b', o', hA, hc⟩
        · simp at hy
        · injection hA with hA; injection hA with e1 e2; subst e1 e2
          exact (hw'.snap _ _ _ (hc k y hy).1).cell (hc k y hy).2
      · exact h.elim
    · rename_i o j
      simp only [SV.rel, S1.rel] at hx
      subst hx
      split at h
      · rename_i t0 xs hL
        obtain ⟨vs, cs, hr, hn, hw, h⟩ := exQ_sound (ρ := ρ) (σ := σ) h
        split at h
        · rename_i hl
          obtain ⟨r, h1, h2, h3, h4⟩ := vcMk_sound h hr
          refine ⟨_, r, ?_, h1, fun d _ hh => hn d (h3 d hh), h4⟩
          intro w' hw'
          obtain ⟨fl, hfl⟩ := getL_some hL
          simp only [Instr.loadAt, Instr.sureAddr, Sem.run_bind, Sem.run_pure, Result.andThen_ok]
          refine run_loadVar hTy w' _ _ _ (fun k y hy => ?_) hl h2
          rw [cell_of_block ((hw'.arr _ _ _ _ hfl).trans (arr_of hg hL))]
          simpa using win_get hT hg hw k y hy
        · exact h.elim
      · exact h.elim
    · rename_i o j
      obtain ⟨g, n, c, hs, rfl⟩ := hx
      split at h
      · rename_i e m xs hL
        obtain ⟨vs, cs, hr, hn, hw, h⟩ := exQ_sound (ρ := ρ) (σ := σ) h
        split at h
        · rename_i hl
          obtain ⟨r, h1, h2, h3, h4⟩ := vcMk_sound h hr
          refine ⟨_, r, ?_, h1, fun d _ hh => hn d (h3 d hh), h4⟩
          intro w' hw'
          obtain ⟨fl, hfl⟩ := getL_some hL
          simp only [Instr.loadAt, Instr.sureAddr, Sem.run_bind, Sem.run_pure, Result.andThen_ok]
          refine run_loadVar hTy w' _ _ _ (fun k y hy => ?_) hl h2
          exact row_cells (ownsRow_same (hw'.row _ _ _ _ _ hfl) (row_of hg hL)) hs _ _ (win_get hT hg hw k y hy)
        · exact h.elim
      · exact h.elim
    · exact h.elim
end
end Go.Vc
namespace Go.Vc
open Go
def tabRaw : Tab := fun t => (match Nat.blt t 78 with
 | true => (match Nat.blt t 40 with
  | true => (match Nat.blt t 21 with
   | true => (match Nat.blt t 10 with
    | true => (match Nat.blt t 5 with
     | true => (match Nat.blt t 3 with
      | true => (match Nat.blt t 2 with
       | true => (match Nat.beq t 1 with
        | true => some ⟨.other, 1, 8, [.nilFunc], false, []⟩
        | false => none)
       | false => (match Nat.beq t 2 with
        | true => some ⟨.int .i64, 1, 8, [.int .i64 0], false, []⟩
        | false => none))
      | false => (match Nat.blt t 4 with
       | true => (match Nat.beq t 3 with
        | true => some ⟨.int .i64, 1, 8, [.int .i64 0], false, []⟩
        | false => none)
       | false => (match Nat.beq t 4 with
        | true => some ⟨.bool, 1, 1, [.bool false], false, []⟩
        | false => none)))
     | false => (match Nat.blt t 7 with
      | true => (match Nat.blt t 6 with
       | true => (match Nat.beq t 5 with
        | true => some ⟨.int .u8, 1, 1, [.int .u8 0], false, []⟩
        | false => none)
       | false => (match Nat.beq t 6 with
        | true => some ⟨.int .u8, 1, 1, [.int .u8 0], false, []⟩
        | false => none))
      | false => (match Nat.blt t 8 with
       | true => (match Nat.beq t 7 with
        | true => some ⟨.struct [(0, 2), (1, 3), (2, 4), (3, 6)], 4, 24, [.int .i64 0, .int .i64 0, .bool false, .int .u8 0], true, [.int, .int, .bool, .int]⟩
        | false => none)
       | false => (match Nat.blt t 9 with
        | true => (match Nat.beq t 8 with
         | true => some ⟨.struct [(0, 2), (1, 3), (2, 4), (3, 6)], 4, 24, [.int .i64 0, .int .i64 0, .bool false, .int .u8 0], true, [.int, .int, .bool, .int]⟩
         | false => none)
        | false => (match Nat.beq t 9 with
         | true => some ⟨.string, 1, 16, [.string ⟨#[]⟩], false, []⟩
         | false => none)))))
    | false => (match Nat.blt t 16 with
     | true => (match Nat.blt t 12 with
      | true => (match Nat.blt t 11 with
       | true => (match Nat.beq t 10 with
        | true => some ⟨.string, 1, 16, [.string ⟨#[]⟩], false, []⟩
        | false => none)
       | false => (match Nat.beq t 11 with
        | true => some ⟨.string, 1, 16, [.string ⟨#[]⟩], false, []⟩
        | false => none))
      | false => (match Nat.blt t 15 with
       | true => (match Nat.beq t 12 with
        | true => some ⟨.int .u64, 1, 8, [.int .u64 0], false, []⟩
        | false => none)
       | false => (match Nat.beq t 15 with
        | true => some ⟨.ptr 142, 1, 8, [.pointer none], false, []⟩
        | false => none)))
     | false => (match Nat.blt t 18 with
      | true => (match Nat.blt t 17 with
       | true => (match Nat.beq t 16 with
        | true => some ⟨.ptr 145, 1, 8, [.pointer none], false, []⟩
        | false => none)
       | false => (match Nat.beq t 17 with
        | true => some ⟨.ptr 153, 1, 8, [.pointer none], false, []⟩
        | false => none))
      | false => (match Nat.blt t 19 with
       | true => (match Nat.beq t 18 with
        | true => some ⟨.struct [(0, 17)], 1, 8, [.pointer none], true, []⟩
        | false => none)
       | false => (match Nat.blt t 20 with
        | true => (match Nat.beq t 19 with
         | true => some ⟨.struct [(0, 17)], 1, 8, [.pointer none], true, []⟩
         | false => none)
        | false => (match Nat.beq t 20 with
         | true => some ⟨.other, 1, 16, [.nilIface], false, []⟩
         | false => none))))))
   | false => (match Nat.blt t 31 with
    | true => (match Nat.blt t 25 with
     | true => (match Nat.blt t 23 with
      | true => (match Nat.blt t 22 with
       | true => (match Nat.beq t 21 with
        | true => some ⟨.int .i32, 1, 4, [.int .i32 0], false, []⟩
        | false => none)
       | false => (match Nat.beq t 22 with
        | true => some ⟨.slice 64, 1, 24, [.slice none 0 0], false, []⟩
        | false => none))
      | false => (match Nat.blt t 24 with
       | true => (match Nat.beq t 23 with
        | true => some ⟨.other, 1, 8, [.nilFunc], false, []⟩
        | false => none)
       | false => (match Nat.beq t 24 with
        | true => some ⟨.ptr 68, 1, 8, [.pointer none], false, []⟩
        | false => none)))
     | false => (match Nat.blt t 27 with
      | true => (match Nat.blt t 26 with
       | true => (match Nat.beq t 25 with
        | true => some ⟨.other, 1, 8, [.nilFunc], false, []⟩
        | false => none)
       | false => (match Nat.beq t 26 with
        | true => some ⟨.other, 1, 8, [.nilFunc], false, []⟩
        | false => none))
      | false => (match Nat.blt t 28 with
       | true => (match Nat.beq t 27 with
        | true => some ⟨.slice 33, 1, 24, [.slice none 0 0], false, []⟩
        | false => none)
       | false => (match Nat.blt t 29 with
        | true => (match Nat.beq t 28 with
         | true => some ⟨.other, 1, 8, [.nilFunc], false, []⟩
         | false => none)
        | false => (match Nat.beq t 29 with
         | true => some ⟨.other, 1, 8, [.nilFunc], false, []⟩
         | false => none)))))
    | false => (match Nat.blt t 35 with
     | true => (match Nat.blt t 33 with
      | true => (match Nat.blt t 32 with
       | true => (match Nat.beq t 31 with
        | true => some ⟨.other, 1, 8, [.nilFunc], false, []⟩
        | false => none)
       | false => (match Nat.beq t 32 with
        | true => some ⟨.struct [(0, 3), (1, 3), (2, 4)], 3, 24, [.int .i64 0, .int .i64 0, .bool false], true, [.int, .int, .bool]⟩
        | false => none))
      | false => (match Nat.blt t 34 with
       | true => (match Nat.beq t 33 with
        | true => some ⟨.struct [(0, 3), (1, 3), (2, 4)], 3, 24, [.int .i64 0, .int .i64 0, .bool false], true, [.int, .int, .bool]⟩
        | false => none)
       | false => (match Nat.beq t 34 with
        | true => some ⟨.int .i64, 1, 8, [.int .i64 0], false, []⟩
        | false => none)))
     | false => (match Nat.blt t 37 with
      | true => (match Nat.blt t 36 with
       | true => (match Nat.beq t 35 with
        | true => some ⟨.other, 1, 8, [.nilFunc], false, []⟩
        | false => none)
       | false => (match Nat.beq t 36 with
        | true => some ⟨.other, 1, 8, [.nilFunc], false, []⟩
        | false => none))
      | false => (match Nat.blt t 38 with
       | true => (match Nat.beq t 37 with
        | true => some ⟨.slice 84, 1, 24, [.slice none 0 0], false, []⟩
        | false => none)
       | false => (match Nat.blt t 39 with
        | true => (match Nat.beq t 38 with
         | true => some ⟨.int .u16, 1, 2, [.int .u16 0], false, []⟩
         | false => none)
        | false => (match Nat.beq t 39 with
         | true => some ⟨.other, 1, 8, [.nilFunc], false, []⟩
         | false => none)))))))
  | false => (match Nat.blt t 59 with
   | true => (match Nat.blt t 50 with
    | true => (match Nat.blt t 44 with
     | true => (match Nat.blt t 42 with
      | true => (match Nat.blt t 41 with
       | true => (match Nat.beq t 40 with
        | true => some ⟨.other, 1, 8, [.nilFunc], false, []⟩
        | false => none)
       | false => (match Nat.beq t 41 with
        | true => some ⟨.slice 105, 1, 24, [.slice none 0 0], false, []⟩
        | false => none))
      | false => (match Nat.blt t 43 with
       | true => (match Nat.beq t 42 with
        | true => some ⟨.other, 1, 8, [.nilFunc], false, []⟩
        | false => none)
       | false => (match Nat.beq t 43 with
        | true => some ⟨.other, 1, 8, [.nilFunc], false, []⟩
        | false => none)))
     | false => (match Nat.blt t 47 with
      | true => (match Nat.blt t 46 with
       | true => (match Nat.beq t 44 with
        | true => some ⟨.slice 3, 1, 24, [.slice none 0 0], false, []⟩
        | false => none)
       | false => (match Nat.beq t 46 with
        | true => some ⟨.other, 1, 8, [.nilFunc], false, []⟩
        | false => none))
      | false => (match Nat.blt t 48 with
       | true => (match Nat.beq t 47 with
        | true => some ⟨.other, 1, 8, [.nilFunc], false, []⟩
        | false => none)
       | false => (match Nat.blt t 49 with
        | true => (match Nat.beq t 48 with
         | true => some ⟨.other, 1, 8, [.nilFunc], false, []⟩
         | false => none)
        | false => (match Nat.beq t 49 with
         | true => some ⟨.other, 1, 8, [.nilFunc], false, []⟩
         | false => none)))))
    | false => (match Nat.blt t 54 with
     | true => (match Nat.blt t 52 with
      | true => (match Nat.blt t 51 with
       | true => (match Nat.beq t 50 with
        | true => some ⟨.other, 1, 8, [.nilFunc], false, []⟩
        | false => none)
       | false => (match Nat.beq t 51 with
        | true => some ⟨.other, 1, 8, [.nilFunc], false, []⟩
        | false => none))
      | false => (match Nat.blt t 53 with
       | true => (match Nat.beq t 52 with
        | true => some ⟨.other, 1, 8, [.nilFunc], false, []⟩
        | false => none)
       | false => (match Nat.beq t 53 with
        | true => some ⟨.other, 1, 8, [.nilFunc], false, []⟩
        | false => none)))
     | false => (match Nat.blt t 56 with
      | true => (match Nat.blt t 55 with
       | true => (match Nat.beq t 54 with
        | true => some ⟨.other, 1, 8, [.nilFunc], false, []⟩
        | false => none)
       | false => (match Nat.beq t 55 with
        | true => some ⟨.slice 61, 1, 24, [.slice none 0 0], false, []⟩
        | false => none))
      | false => (match Nat.blt t 57 with
       | true => (match Nat.beq t 56 with
        | true => some ⟨.other, 1, 8, [.nilFunc], false, []⟩
        | false => none)
       | false => (match Nat.blt t 58 with
        | true => (match Nat.beq t 57 with
         | true => some ⟨.slice 93, 1, 24, [.slice none 0 0], false, []⟩
         | false => none)
        | false => (match Nat.beq t 58 with
         | true => some ⟨.struct [(0, 3), (1, 3)], 2, 16, [.int .i64 0, .int .i64 0], true, [.int, .int]⟩
         | false => none))))))
   | false => (match Nat.blt t 68 with
    | true => (match Nat.blt t 63 with
     | true => (match Nat.blt t 61 with
      | true => (match Nat.blt t 60 with
       | true => (match Nat.beq t 59 with
        | true => some ⟨.struct [(0, 3), (1, 3)], 2, 16, [.int .i64 0, .int .i64 0], true, [.int, .int]⟩
        | false => none)
       | false => (match Nat.beq t 60 with
        | true => some ⟨.struct [(0, 57), (1, 59), (3, 44)], 4, 64, [.slice none 0 0, .int .i64 0, .int .i64 0, .slice none 0 0], true, []⟩
        | false => none))
      | false => (match Nat.blt t 62 with
       | true => (match Nat.beq t 61 with
        | true => some ⟨.struct [(0, 57), (1, 59), (3, 44)], 4, 64, [.slice none 0 0, .int .i64 0, .int .i64 0, .slice none 0 0], true, []⟩
        | false => none)
       | false => (match Nat.beq t 62 with
        | true => some ⟨.other, 1, 8, [.nilFunc], false, []⟩
        | false => none)))
     | false => (match Nat.blt t 65 with
      | true => (match Nat.blt t 64 with
       | true => (match Nat.beq t 63 with
        | true => some ⟨.struct [(0, 3), (1, 57), (2, 59), (4, 59)], 6, 64, [.int .i64 0, .slice none 0 0, .int .i64 0, .int .i64 0, .int .i64 0, .int .i64 0], true, []⟩
        | false => none)
       | false => (match Nat.beq t 64 with
        | true => some ⟨.struct [(0, 3), (1, 57), (2, 59), (4, 59)], 6, 64, [.int .i64 0, .slice none 0 0, .int .i64 0, .int .i64 0, .int .i64 0, .int .i64 0], true, []⟩
        | false => none))
      | false => (match Nat.blt t 66 with
       | true => (match Nat.beq t 65 with
        | true => some ⟨.map 3 74, 1, 8, [.map none], false, []⟩
        | false => none)
       | false => (match Nat.blt t 67 with
        | true => (match Nat.beq t 66 with
         | true => some ⟨.slice 44, 1, 24, [.slice none 0 0], false, []⟩
         | false => none)
        | false => (match Nat.beq t 67 with
         | true => some ⟨.struct [(0, 3), (1, 27), (2, 65), (3, 66), (4, 3)], 5, 72, [.int .i64 0, .slice none 0 0, .map none, .slice none 0 0, .int .i64 0], true, []⟩
         | false => none)))))
    | false => (match Nat.blt t 73 with
     | true => (match Nat.blt t 70 with
      | true => (match Nat.blt t 69 with
       | true => (match Nat.beq t 68 with
        | true => some ⟨.struct [(0, 3), (1, 27), (2, 65), (3, 66), (4, 3)], 5, 72, [.int .i64 0, .slice none 0 0, .map none, .slice none 0 0, .int .i64 0], true, []⟩
        | false => none)
       | false => (match Nat.beq t 69 with
        | true => some ⟨.map 3 70, 1, 8, [.map none], false, []⟩
        | false => none))
      | false => (match Nat.blt t 72 with
       | true => (match Nat.beq t 70 with
        | true => some ⟨.struct [], 0, 0, [], true, []⟩
        | false => none)
       | false => (match Nat.beq t 72 with
        | true => some ⟨.other, 1, 8, [.nilFunc], false, []⟩
        | false => none)))
     | false => (match Nat.blt t 75 with
      | true => (match Nat.blt t 74 with
       | true => (match Nat.beq t 73 with
        | true => some ⟨.struct [(0, 3), (1, 4)], 2, 16, [.int .i64 0, .bool false], true, [.int, .bool]⟩
        | false => none)
       | false => (match Nat.beq t 74 with
        | true => some ⟨.struct [(0, 3), (1, 4)], 2, 16, [.int .i64 0, .bool false], true, [.int, .bool]⟩
        | false => none))
      | false => (match Nat.blt t 76 with
       | true => (match Nat.beq t 75 with
        | true => some ⟨.other, 1, 8, [.nilFunc], false, []⟩
        | false => none)
       | false => (match Nat.blt t 77 with
        | true => (match Nat.beq t 76 with
         | true => some ⟨.other, 1, 8, [.nilFunc], false, []⟩
         | false => none)
        | false => (match Nat.beq t 77 with
         | true => some ⟨.other, 1, 8, [.nilFunc], false, []⟩
         | false => none))))))))
 | false => (match Nat.blt t 118 with
  | true => (match Nat.blt t 98 with
   | true => (match Nat.blt t 89 with
    | true => (match Nat.blt t 83 with
     | true => (match Nat.blt t 80 with
      | true => (match Nat.blt t 79 with
       | true => (match Nat.beq t 78 with
        | true => some ⟨.other, 1, 8, [.nilFunc], false, []⟩
        | false => none)
       | false => (match Nat.beq t 79 with
        | true => some ⟨.other, 1, 8, [.nilFunc], false, []⟩
        | false => none))
      | false => (match Nat.blt t 82 with
       | true => (match Nat.beq t 80 with
        | true => some ⟨.other, 1, 8, [.nilFunc], false, []⟩
        | false => none)
       | false => (match Nat.beq t 82 with
        | true => some ⟨.other, 1, 8, [.nilFunc], false, []⟩
        | false => none)))
     | false => (match Nat.blt t 85 with
      | true => (match Nat.blt t 84 with
       | true => (match Nat.beq t 83 with
        | true => some ⟨.other, 1, 8, [.nilFunc], false, []⟩
        | false => none)
       | false => (match Nat.beq t 84 with
        | true => some ⟨.array 3 38, 3, 6, [.int .u16 0, .int .u16 0, .int .u16 0], true, []⟩
        | false => none))
      | false => (match Nat.blt t 86 with
       | true => (match Nat.beq t 85 with
        | true => some ⟨.other, 1, 8, [.nilFunc], false, []⟩
        | false => none)
       | false => (match Nat.blt t 88 with
        | true => (match Nat.beq t 86 with
         | true => some ⟨.other, 1, 8, [.nilFunc], false, []⟩
         | false => none)
        | false => (match Nat.beq t 88 with
         | true => some ⟨.other, 1, 8, [.nilFunc], false, []⟩
         | false => none)))))
    | false => (match Nat.blt t 93 with
     | true => (match Nat.blt t 91 with
      | true => (match Nat.blt t 90 with
       | true => (match Nat.beq t 89 with
        | true => some ⟨.other, 1, 8, [.nilFunc], false, []⟩
        | false => none)
       | false => (match Nat.beq t 90 with
        | true => some ⟨.other, 1, 8, [.nilFunc], false, []⟩
        | false => none))
      | false => (match Nat.blt t 92 with
       | true => (match Nat.beq t 91 with
        | true => some ⟨.other, 1, 8, [.nilFunc], false, []⟩
        | false => none)
       | false => (match Nat.beq t 92 with
        | true => some ⟨.struct [(0, 3), (1, 2), (2, 9)], 3, 32, [.int .i64 0, .int .i64 0, .string ⟨#[]⟩], true, [.int, .int, .str]⟩
        | false => none)))
     | false => (match Nat.blt t 95 with
      | true => (match Nat.blt t 94 with
       | true => (match Nat.beq t 93 with
        | true => some ⟨.struct [(0, 3), (1, 2), (2, 9)], 3, 32, [.int .i64 0, .int .i64 0, .string ⟨#[]⟩], true, [.int, .int, .str]⟩
        | false => none)
       | false => (match Nat.beq t 94 with
        | true => some ⟨.array 2 44, 2, 48, [.slice none 0 0, .slice none 0 0], true, []⟩
        | false => none))
      | false => (match Nat.blt t 96 with
       | true => (match Nat.beq t 95 with
        | true => some ⟨.other, 1, 8, [.nilFunc], false, []⟩
        | false => none)
       | false => (match Nat.blt t 97 with
        | true => (match Nat.beq t 96 with
         | true => some ⟨.other, 1, 8, [.nilFunc], false, []⟩
         | false => none)
        | false => (match Nat.beq t 97 with
         | true => some ⟨.int .u64, 1, 8, [.int .u64 0], false, []⟩
         | false => none))))))
   | false => (match Nat.blt t 108 with
    | true => (match Nat.blt t 102 with
     | true => (match Nat.blt t 100 with
      | true => (match Nat.blt t 99 with
       | true => (match Nat.beq t 98 with
        | true => some ⟨.other, 1, 8, [.nilFunc], false, []⟩
        | false => none)
       | false => (match Nat.beq t 99 with
        | true => some ⟨.other, 1, 8, [.nilFunc], false, []⟩
        | false => none))
      | false => (match Nat.blt t 101 with
       | true => (match Nat.beq t 100 with
        | true => some ⟨.other, 1, 8, [.nilFunc], false, []⟩
        | false => none)
       | false => (match Nat.beq t 101 with
        | true => some ⟨.other, 1, 8, [.nilFunc], false, []⟩
        | false => none)))
     | false => (match Nat.blt t 105 with
      | true => (match Nat.blt t 104 with
       | true => (match Nat.beq t 102 with
        | true => some ⟨.other, 1, 8, [.nilFunc], false, []⟩
        | false => none)
       | false => (match Nat.beq t 104 with
        | true => some ⟨.other, 1, 8, [.nilFunc], false, []⟩
        | false => none))
      | false => (match Nat.blt t 106 with
       | true => (match Nat.beq t 105 with
        | true => some ⟨.array 6 38, 6, 12, [.int .u16 0, .int .u16 0, .int .u16 0, .int .u16 0, .int .u16 0, .int .u16 0], true, []⟩
        | false => none)
       | false => (match Nat.blt t 107 with
        | true => (match Nat.beq t 106 with
         | true => some ⟨.other, 1, 8, [.nilFunc], false, []⟩
         | false => none)
        | false => (match Nat.beq t 107 with
         | true => some ⟨.other, 1, 8, [.nilFunc], false, []⟩
         | false => none)))))
    | false => (match Nat.blt t 112 with
     | true => (match Nat.blt t 110 with
      | true => (match Nat.blt t 109 with
       | true => (match Nat.beq t 108 with
        | true => some ⟨.other, 1, 8, [.nilFunc], false, []⟩
        | false => none)
       | false => (match Nat.beq t 109 with
        | true => some ⟨.other, 1, 8, [.nilFunc], false, []⟩
        | false => none))
      | false => (match Nat.blt t 111 with
       | true => (match Nat.beq t 110 with
        | true => some ⟨.other, 1, 8, [.nilFunc], false, []⟩
        | false => none)
       | false => (match Nat.beq t 111 with
        | true => some ⟨.other, 1, 8, [.nilFunc], false, []⟩
        | false => none)))
     | false => (match Nat.blt t 115 with
      | true => (match Nat.blt t 114 with
       | true => (match Nat.beq t 112 with
        | true => some ⟨.int .i64, 1, 8, [.int .i64 0], false, []⟩
        | false => none)
       | false => (match Nat.beq t 114 with
        | true => some ⟨.other, 1, 8, [.nilFunc], false, []⟩
        | false => none))
      | false => (match Nat.blt t 116 with
       | true => (match Nat.beq t 115 with
        | true => some ⟨.other, 1, 8, [.nilFunc], false, []⟩
        | false => none)
       | false => (match Nat.blt t 117 with
        | true => (match Nat.beq t 116 with
         | true => some ⟨.other, 1, 8, [.nilFunc], false, []⟩
         | false => none)
        | false => (match Nat.beq t 117 with
         | true => some ⟨.other, 1, 8, [.nilFunc], false, []⟩
         | false => none)))))))
  | false => (match Nat.blt t 136 with
   | true => (match Nat.blt t 127 with
    | true => (match Nat.blt t 122 with
     | true => (match Nat.blt t 120 with
      | true => (match Nat.blt t 119 with
       | true => (match Nat.beq t 118 with
        | true => some ⟨.other, 1, 8, [.nilFunc], false, []⟩
        | false => none)
       | false => (match Nat.beq t 119 with
        | true => some ⟨.int .u32, 1, 4, [.int .u32 0], false, []⟩
        | false => none))
      | false => (match Nat.blt t 121 with
       | true => (match Nat.beq t 120 with
        | true => some ⟨.other, 1, 8, [.nilFunc], false, []⟩
        | false => none)
       | false => (match Nat.beq t 121 with
        | true => some ⟨.int .u64, 1, 8, [.int .u64 0], false, []⟩
        | false => none)))
     | false => (match Nat.blt t 124 with
      | true => (match Nat.blt t 123 with
       | true => (match Nat.beq t 122 with
        | true => some ⟨.other, 1, 8, [.nilFunc], false, []⟩
        | false => none)
       | false => (match Nat.beq t 123 with
        | true => some ⟨.other, 1, 8, [.nilFunc], false, []⟩
        | false => none))
      | false => (match Nat.blt t 125 with
       | true => (match Nat.beq t 124 with
        | true => some ⟨.other, 1, 8, [.nilFunc], false, []⟩
        | false => none)
       | false => (match Nat.blt t 126 with
        | true => (match Nat.beq t 125 with
         | true => some ⟨.other, 1, 8, [.nilFunc], false, []⟩
         | false => none)
        | false => (match Nat.beq t 126 with
         | true => some ⟨.int .u64, 1, 8, [.int .u64 0], false, []⟩
         | false => none)))))
    | false => (match Nat.blt t 131 with
     | true => (match Nat.blt t 129 with
      | true => (match Nat.blt t 128 with
       | true => (match Nat.beq t 127 with
        | true => some ⟨.other, 1, 8, [.nilFunc], false, []⟩
        | false => none)
       | false => (match Nat.beq t 128 with
        | true => some ⟨.other, 1, 8, [.nilFunc], false, []⟩
        | false => none))
      | false => (match Nat.blt t 130 with
       | true => (match Nat.beq t 129 with
        | true => some ⟨.other, 1, 8, [.nilFunc], false, []⟩
        | false => none)
       | false => (match Nat.beq t 130 with
        | true => some ⟨.ptr 3, 1, 8, [.pointer none], false, []⟩
        | false => none)))
     | false => (match Nat.blt t 133 with
      | true => (match Nat.blt t 132 with
       | true => (match Nat.beq t 131 with
        | true => some ⟨.other, 1, 8, [.nilFunc], false, []⟩
        | false => none)
       | false => (match Nat.beq t 132 with
        | true => some ⟨.other, 1, 8, [.nilFunc], false, []⟩
        | false => none))
      | false => (match Nat.blt t 134 with
       | true => (match Nat.beq t 133 with
        | true => some ⟨.other, 1, 8, [.nilFunc], false, []⟩
        | false => none)
       | false => (match Nat.blt t 135 with
        | true => (match Nat.beq t 134 with
         | true => some ⟨.other, 1, 8, [.nilFunc], false, []⟩
         | false => none)
        | false => (match Nat.beq t 135 with
         | true => some ⟨.slice 9, 1, 24, [.slice none 0 0], false, []⟩
         | false => none))))))
   | false => (match Nat.blt t 146 with
    | true => (match Nat.blt t 141 with
     | true => (match Nat.blt t 139 with
      | true => (match Nat.blt t 138 with
       | true => (match Nat.beq t 136 with
        | true => some ⟨.ptr 126, 1, 8, [.pointer none], false, []⟩
        | false => none)
       | false => (match Nat.beq t 138 with
        | true => some ⟨.other, 1, 8, [.nilFunc], false, []⟩
        | false => none))
      | false => (match Nat.blt t 140 with
       | true => (match Nat.beq t 139 with
        | true => some ⟨.other, 1, 8, [.nilFunc], false, []⟩
        | false => none)
       | false => (match Nat.beq t 140 with
        | true => some ⟨.other, 1, 8, [.nilFunc], false, []⟩
        | false => none)))
     | false => (match Nat.blt t 143 with
      | true => (match Nat.blt t 142 with
       | true => (match Nat.beq t 141 with
        | true => some ⟨.struct [(0, 17), (1, 17), (2, 17), (3, 9)], 4, 40, [.pointer none, .pointer none, .pointer none, .string ⟨#[]⟩], true, []⟩
        | false => none)
       | false => (match Nat.beq t 142 with
        | true => some ⟨.struct [(0, 17), (1, 17), (2, 17), (3, 9)], 4, 40, [.pointer none, .pointer none, .pointer none, .string ⟨#[]⟩], true, []⟩
        | false => none))
      | false => (match Nat.blt t 144 with
       | true => (match Nat.beq t 143 with
        | true => some ⟨.array 0 16, 0, 0, [], true, []⟩
        | false => none)
       | false => (match Nat.blt t 145 with
        | true => (match Nat.beq t 144 with
         | true => some ⟨.struct [(0, 143)], 0, 0, [], true, []⟩
         | false => none)
        | false => (match Nat.beq t 145 with
         | true => some ⟨.struct [(0, 143)], 0, 0, [], true, []⟩
         | false => none)))))
    | false => (match Nat.blt t 150 with
     | true => (match Nat.blt t 148 with
      | true => (match Nat.blt t 147 with
       | true => (match Nat.beq t 146 with
        | true => some ⟨.int .u8, 1, 1, [.int .u8 0], false, []⟩
        | false => none)
       | false => (match Nat.beq t 147 with
        | true => some ⟨.int .u8, 1, 1, [.int .u8 0], false, []⟩
        | false => none))
      | false => (match Nat.blt t 149 with
       | true => (match Nat.beq t 148 with
        | true => some ⟨.other, 1, 8, [.nilFunc], false, []⟩
        | false => none)
       | false => (match Nat.beq t 149 with
        | true => some ⟨.ptr 5, 1, 8, [.pointer none], false, []⟩
        | false => none)))
     | false => (match Nat.blt t 152 with
      | true => (match Nat.blt t 151 with
       | true => (match Nat.beq t 150 with
        | true => some ⟨.int .i32, 1, 4, [.int .i32 0], false, []⟩
        | false => none)
       | false => (match Nat.beq t 151 with
        | true => some ⟨.int .i32, 1, 4, [.int .i32 0], false, []⟩
        | false => none))
      | false => (match Nat.blt t 153 with
       | true => (match Nat.beq t 152 with
        | true => some ⟨.struct [(0, 12), (1, 12), (2, 119), (3, 146), (4, 5), (5, 5), (6, 147), (7, 148), (8, 149), (9, 150), (10, 151)], 11, 48, [.int .u64 0, .int .u64 0, .int .u32 0, .int .u8 0, .int .u8 0, .int .u8 0, .int .u8 0, .nilFunc, .pointer none, .int .i32 0, .int .i32 0], true, []⟩
        | false => none)
       | false => (match Nat.blt t 154 with
        | true => (match Nat.beq t 153 with
         | true => some ⟨.struct [(0, 12), (1, 12), (2, 119), (3, 146), (4, 5), (5, 5), (6, 147), (7, 148), (8, 149), (9, 150), (10, 151)], 11, 48, [.int .u64 0, .int .u64 0, .int .u32 0, .int .u8 0, .int .u8 0, .int .u8 0, .int .u8 0, .nilFunc, .pointer none, .int .i32 0, .int .i32 0], true, []⟩
         | false => none)
        | false => (match Nat.beq t 154 with
         | true => some ⟨.other, 1, 8, [.pointer none], false, []⟩
         | false => none)))))))))
def tab : Tab := fun t => if t < 155 then tabRaw t else none
def tups : TypeId → Option (List TypeId)
  | 0 => some []
  | 30 => some [27, 3]
  | 45 => some [44, 44]
  | 71 => some [70, 4]
  | 81 => some [3, 4]
  | 87 => some [44, 3]
  | 103 => some [74, 4]
  | 113 => some [3, 112]
  | 137 => some [3, 3]
  | _ => none
end Go.Vc
/- Tuples, rows, violations as plain Lean data. -/
namespace Go.Vc
open Go
/- api.Tuple -/
structure Tup where
  vals : List Val
  p : Per
  lin : List Int
deriving DecidableEq
/- a tuple with its key values -/
structure Kd where
  key : List Val
  t : Tup
deriving DecidableEq
/- api.Row -/
structure Rw where
  vals : List Val
  lin : List Int
deriving DecidableEq
/- api.Violation -/
structure Vio where
  p : Per
  ids : List Int
deriving DecidableEq
instance : Rep Tup where
  sz := 4
  byt := 64
  rel H vs v := ∃ A n c B m d, vs = [.slice A n c, .int .i64 v.p.lo, .int .i64 v.p.hi, .slice B m d] ∧ Sl H A n c v.vals ∧ rng .i64 v.p.lo ∧ rng .i64 v.p.hi ∧ Sl H B m d v.lin
  mono := fun hle ⟨A, n, c, B, m, d, h1, h2, h3, h4, h5⟩ => ⟨A, n, c, B, m, d, h1, h2.mono hle, h3, h4, h5.mono hle⟩
  len := fun ⟨A, n, c, B, m, d, h1, _⟩ => by simp [h1]
  pos := by decide
  bpos := by decide
  one := fun ⟨A, n, c, B, m, d, h1, _⟩ => by rw [h1]; simp [Value.oneCell']
instance : Rep Kd where
  sz := 5
  byt := 88
  rel H vs v := ∃ E k e A n c B m d, vs = [.slice E k e, .slice A n c, .int .i64 v.t.p.lo, .int .i64 v.t.p.hi, .slice B m d] ∧ Sl H E k e v.key ∧ Sl H A n c v.t.vals ∧ rng .i64 v.t.p.lo ∧ rng .i64 v.t.p.hi ∧ Sl H B m d v.t.lin
  mono := fun hle ⟨E, k, e, A, n, c, B, m, d, h1, h0, h2, h3, h4, h5⟩ => ⟨E, k, e, A, n, c, B, m, d, h1, h0.mono hle, h2.mono hle, h3, h4, h5.mono hle⟩
  len := fun ⟨E, k, e, A, n, c, B, m, d, h1, _⟩ => by simp [h1]
  pos := by decide
  bpos := by decide
  one := fun ⟨E, k, e, A, n, c, B, m, d, h1, _⟩ => by rw [h1]; simp [Value.oneCell']
instance : Rep Rw where
  sz := 2
  byt := 48
  rel H vs v := ∃ A n c B m d, vs = [.slice A n c, .slice B m d] ∧ Sl H A n c v.vals ∧ Sl H B m d v.lin
  mono := fun hle ⟨A, n, c, B, m, d, h1, h2, h3⟩ => ⟨A, n, c, B, m, d, h1, h2.mono hle, h3.mono hle⟩
  len := fun ⟨A, n, c, B, m, d, h1, _⟩ => by simp [h1]
  pos := by decide
  bpos := by decide
  one := fun ⟨A, n, c, B, m, d, h1, _⟩ => by rw [h1]; simp [Value.oneCell']
instance : Rep Vio where
  sz := 3
  byt := 40
  rel H vs v := ∃ A n c, vs = [.int .i64 v.p.lo, .int .i64 v.p.hi, .slice A n c] ∧ rng .i64 v.p.lo ∧ rng .i64 v.p.hi ∧ Sl H A n c v.ids
  mono := fun hle ⟨A, n, c, h1, h2, h3, h4⟩ => ⟨A, n, c, h1, h2, h3, h4.mono hle⟩
  len := fun ⟨A, n, c, h1, _⟩ => by simp [h1]
  pos := by decide
  bpos := by decide
  one := fun ⟨A, n, c, h1, _⟩ => by rw [h1]; simp [Value.oneCell']
end Go.Vc
/- Sets of points as lists of periods: normal form, its uniqueness, insertion, merging. Plain laws, no program. -/
namespace Go.Vc
abbrev maxT : Int := 1099511627776
def pOk (p : Per) : Bool := decide (0 ≤ p.lo) && decide (p.lo < p.hi) && decide (p.hi ≤ maxT)
theorem pOk_iff {p : Per} : pOk p = true ↔ 0 ≤ p.lo ∧ p.lo < p.hi ∧ p.hi ≤ maxT := by simp [pOk, and_assoc]
def pIn (p : Per) (t : Int) : Bool := pOk p && decide (p.lo ≤ t) && decide (t < p.hi)
/- insertion as the definition does it -/
def ins2 : Int → Int → List Per → List Per
  | lo, hi, [] => [⟨lo, hi⟩]
  | lo, hi, q :: r => if q.lo ≤ hi then ins2 (min lo q.lo) (max hi q.hi) r else ⟨lo, hi⟩ :: q :: r
def ins (p : Per) : List Per → List Per
  | [] => [p]
  | q :: r => if q.hi < p.lo then q :: ins p r else ins2 p.lo p.hi (q :: r)
end Go.Vc
/- Intersection and difference of sets of points; lengths. Plain laws, no program. -/
namespace Go.Vc
/- difference, the program's way -/
def cut : Int → Int → List Per → List Per
  | t, hi, [] => if t < hi then [⟨t, hi⟩] else []
  | t, hi, q :: r => if q.hi ≤ t ∨ hi ≤ q.lo then cut t hi r else (if t < q.lo then [⟨t, q.lo⟩] else []) ++ cut q.hi hi r
end Go.Vc
namespace Go.Vc
end Go.Vc
