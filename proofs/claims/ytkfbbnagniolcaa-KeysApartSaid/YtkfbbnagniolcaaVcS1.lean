/- What the abstract states say of the machine's. -/
import Derived.Test.YtkfbbnagniolcaaVcB
set_option linter.unusedSectionVars false
set_option linter.unusedSimpArgs false
set_option linter.unusedVariables false
namespace Go.Vc
open Go Go.RowKit

section
variable (ρ : Nat → Nat) (σ : Nat → Value)
def S1.rel : S1 → Value → Prop
  | .any, _ => True
  | .un, y => y = undef
  | .v x, y => y = x
  | .b x, y => y = .bool x
  | .tt, y => y = .bool true
  | .ff, y => y = .bool false
  | .loc i off, y => y = .pointer (some ⟨ρ i, off, none⟩)
  | .aelt i j, y => y = .pointer (some ⟨ρ i, j, none⟩)
  | .elt A j, y => ∃ b o, A = some ⟨b, o, none⟩ ∧ y = .pointer (some ⟨b, o + j, none⟩)
  | .oelt i j, y => ∃ g n c, σ i = .slice (some ⟨g, 0, none⟩) n c ∧ y = .pointer (some ⟨g, j, none⟩)
  | .own i, y => y = σ i
  | .sub i l m sz, y => ∃ A n c, σ i = .slice A n c ∧ l + m ≤ n ∧ y = .slice (subA A c l sz) m (c - l)
  | .pin i s, y => y = σ i ∧ y = s
def relL : List S1 → List Value → Prop
  | [], [] => True
  | c :: cs, y :: ys => c.rel ρ σ y ∧ relL cs ys
  | _, _ => False
def relT : List (Bool × List S1) → List Value → Prop
  | [], [] => True
  | (true, c) :: cs, y :: ys => (∃ zs : Array Value, y = .agg zs ∧ relL ρ σ c zs.toList) ∧ relT cs ys
  | (false, c) :: cs, y :: ys => relL ρ σ c [y] ∧ relT cs ys
  | _, _ => False
def SV.rel : SV → Value → Prop
  | .one x, y => x.rel ρ σ y
  | .agg cs, y => ∃ ys : Array Value, y = .agg ys ∧ relL ρ σ cs ys.toList
  | .clo f cap, y => ∃ ys : Array Value, y = .func (.func f) #[] ys ∧ relL ρ σ cap ys.toList
  | .tup cs, y => ∃ ys : Array Value, y = .tuple ys ∧ relT ρ σ cs ys.toList
end

/- which of the call's own objects a value names -/
def S1.refs (d : Nat) : S1 → Prop
  | .loc i _ => i = d
  | .aelt i _ => i = d
  | .oelt i _ => i = d
  | .own i => i = d
  | .sub i _ _ _ => i = d
  | .pin i _ => i = d
  | _ => False
def refsL (d : Nat) (cs : List S1) : Prop := ∃ c ∈ cs, c.refs d
def SV.refs (d : Nat) : SV → Prop
  | .one x => x.refs d
  | .agg cs => refsL d cs
  | .clo _ cap => refsL d cap
  | .tup cs => ∃ x ∈ cs, refsL d x.2
def LObj.refs (d : Nat) : LObj → Prop
  | .box _ cs => refsL d cs
  | _ => False
structure St.noRef (st : St) (d : Nat) : Prop where
  fr : ∀ (j : Nat) (x : SV), st.fr[j]? = some x → ¬ x.refs d
  obj : ∀ (j : Nat) (f : Bool) (o : LObj), st.L[j]? = some (some (f, o)) → ¬ o.refs d

def ObjOK (P : Program) (w0 : W0) (w : World) (H : Heap) (ρ : Nat → Nat) (σ : Nat → Value) (i : Nat) : LObj → Prop
  | .box t cs => ∃ ys : Array Value, w.heap[ρ i]? = some (.cells ys t (0, 0)) ∧ relL ρ σ cs ys.toList ∧ w0.nw (ρ i) ∧ ∀ o, H (ρ i) o = none
  | .arr t xs => w.heap[ρ i]? = some (.cells ⟨xs⟩ t (0, 0)) ∧ (∀ x ∈ xs, x.oneCell' = true) ∧ w0.nw (ρ i) ∧ ∀ o, H (ρ i) o = none
  | .row e n xs => owns w w0 e (P.cellsOf e) (σ i) n xs ∧ (∀ x ∈ xs, x.oneCell' = true) ∧ ∀ g, (σ i).ownBlock = some g → ∀ o, H g o = none
  | .pub A n c => σ i = .slice A n c
  | .dead => True
def blk (ρ : Nat → Nat) (σ : Nat → Value) (i : Nat) : LObj → Option Nat
  | .box _ _ => some (ρ i)
  | .arr _ _ => some (ρ i)
  | .row _ _ _ => (σ i).ownBlock
  | _ => none

/- a row that is public as far as it is filled -/
def OpenOK (P : Program) (w0 : W0) (w : World) (H : Heap) (b : Nat) (e : TypeId) (n c : Nat) : Prop :=
  w0.nw (b) ∧ (∃ cur, w.heap[b]? = some (.cells cur e (0, 0)) ∧ n ≤ c ∧ c ≤ maxLen ∧ cur.size = c * P.cellsOf e) ∧ ∀ t, n * P.cellsOf e ≤ t → H b t = none
structure Good (P : Program) (w0 : W0) (H0 : Heap) (st : St) (a : Act) (w : World) (ρ : Nat → Nat) (σ : Nat → Value) : Prop where
  defers : a.defers = []
  size : a.tmps.size = st.fr.length
  fr : ∀ (i : Nat) (x : SV), st.fr[i]? = some x → x.rel ρ σ (a.tmps.getD i undef)
  below : BelX w0.w w w0.g
  le : Heap.le H0 st.H
  old : ∀ b, ¬ w0.nw b → ∀ o, st.H b o = H0 b o
  snap : Snap st.H w
  obj : ∀ i f o, st.L[i]? = some (some (f, o)) → ObjOK P w0 w st.H ρ σ i o
  sep : ∀ i j f f' o o' g, i ≠ j → st.L[i]? = some (some (f, o)) → st.L[j]? = some (some (f', o')) → blk ρ σ i o = some g → blk ρ σ j o' ≠ some g
  nr : ∀ d, st.L[d]? = some none → st.noRef d
  sl : ∀ i, ∃ A n c, σ i = .slice A n c
  opn : ∀ b e n c, st.O b = some (e, n, c) → OpenOK P w0 w st.H b e n c ∧ ∀ i f o, st.L[i]? = some (some (f, o)) → blk ρ σ i o ≠ some b

section
variable {ρ : Nat → Nat} {σ : Nat → Value}
theorem relL_length : ∀ {cs : List S1} {ys : List Value}, relL ρ σ cs ys → cs.length = ys.length
  | [], [], _ => rfl
  | _ :: _, _ :: _, h => by simp [relL_length h.2]
  | [], _ :: _, h => h.elim
  | _ :: _, [], h => h.elim
theorem relL_append : ∀ {cs cs' : List S1} {ys ys' : List Value}, relL ρ σ cs ys → relL ρ σ cs' ys' → relL ρ σ (cs ++ cs') (ys ++ ys')
  | [], _, [], _, _, h' => h'
  | _ :: _, _, _ :: _, _, h, h' => ⟨h.1, relL_append h.2 h'⟩
  | [], _, _ :: _, _, h, _ => h.elim
  | _ :: _, _, [], _, h, _ => h.elim
theorem relL_take : ∀ {cs : List S1} {ys : List Value} (k : Nat), relL ρ σ cs ys → relL ρ σ (cs.take k) (ys.take k)
  | [], [], k, _ => by simp [relL]
  | _ :: _, _ :: _, 0, _ => by simp [relL]
  | _ :: _, _ :: _, k + 1, h => ⟨h.1, relL_take k h.2⟩
  | [], _ :: _, _, h => h.elim
  | _ :: _, [], _, h => h.elim
theorem relL_drop : ∀ {cs : List S1} {ys : List Value} (k : Nat), relL ρ σ cs ys → relL ρ σ (cs.drop k) (ys.drop k)
  | [], [], k, _ => by simp [relL]
  | _ :: _, _ :: _, 0, h => h
  | _ :: _, _ :: _, k + 1, h => relL_drop k h.2
  | [], _ :: _, _, h => h.elim
  | _ :: _, [], _, h => h.elim
theorem relL_get : ∀ {cs : List S1} {ys : List Value} {k : Nat} {c : S1}, relL ρ σ cs ys → cs[k]? = some c → ∃ y, ys[k]? = some y ∧ c.rel ρ σ y
  | c :: _, y :: _, 0, _, h, e => ⟨y, rfl, by simp at e; subst e; exact h.1⟩
  | _ :: _, _ :: _, k + 1, _, h, e => by
    obtain ⟨y, hy, hr⟩ := relL_get (k := k) h.2 (by simpa using e)
    exact ⟨y, by simpa using hy, hr⟩
  | [], [], _, _, _, e => by simp at e
  | [], _ :: _, _, _, h, _ => h.elim
  | _ :: _, [], _, _, h, _ => h.elim
theorem relL_v : ∀ (xs : List Value), relL ρ σ (xs.map S1.v) xs
  | [] => trivial
  | _ :: xs => ⟨rfl, relL_v xs⟩
theorem S1.toV_rel {c : S1} {x y : Value} (h : c.toV = some x) (hr : c.rel ρ σ y) : y = x := by
  cases c <;> simp [S1.toV] at h <;> subst h <;> exact hr
theorem toVs_rel : ∀ {cs : List S1} {xs ys : List Value}, toVs cs = some xs → relL ρ σ cs ys → ys = xs
  | [], xs, [], h, _ => by simp [toVs] at h; exact h.symm
  | c :: cs, xs, y :: ys, h, hr => by
    simp only [toVs] at h
    split at h
    · rename_i x hx
      split at h
      · rename_i xs' hxs
        simp at h
        subst h
        rw [S1.toV_rel hx hr.1, toVs_rel hxs hr.2]
      · simp at h
    · simp at h
  | [], _, _ :: _, _, h => h.elim
  | _ :: _, _, [], _, h => h.elim
theorem S1.asB_rel {c : S1} {b : Bool} {y : Value} (h : c.asB = some b) (hr : c.rel ρ σ y) : y = .bool b := by
  cases c <;> simp only [S1.asB] at h <;> try (simp at h; done)
  case v x =>
    cases x <;> simp at h
    subst h; exact hr
  all_goals (simp at h; subst h; exact hr)
theorem S1.ok1_rel (hsl : ∀ i, ∃ A n c, σ i = .slice A n c) {c : S1} {y : Value} (h : c.ok1 = true) (hr : c.rel ρ σ y) : y.oneCell' = true := by
  cases c <;> simp only [S1.ok1] at h <;> simp only [S1.rel] at hr <;> try (simp at h; done)
  case v x => cases x <;> simp at h <;> subst hr <;> rfl
  case own i => obtain ⟨A, n, c, e⟩ := hsl i; subst hr; rw [e]; rfl
  case oelt i j => obtain ⟨g, n, c, _, e⟩ := hr; subst e; rfl
  case sub i l m sz => obtain ⟨A, n, c, _, _, e⟩ := hr; subst e; rfl
  case pin i s => obtain ⟨A, n, c, e⟩ := hsl i; rw [hr.1, e]; rfl
  all_goals (subst hr; rfl)
theorem ok1s_rel (hsl : ∀ i, ∃ A n c, σ i = .slice A n c) : ∀ {cs : List S1} {ys : List Value}, ok1s cs = true → relL ρ σ cs ys → ∀ y ∈ ys, y.oneCell' = true
  | [], [], _, _ => by simp
  | c :: cs, y :: ys, h, hr => by
    simp only [ok1s, Bool.and_eq_true] at h
    intro z hz
    rcases List.mem_cons.1 hz with rfl | hz
    · exact S1.ok1_rel hsl h.1 hr.1
    · exact ok1s_rel hsl h.2 hr.2 z hz
  | [], _ :: _, _, h => h.elim
  | _ :: _, [], _, h => h.elim
end

section
variable {P : Program} {w0 : W0} {w : World} {H0 : Heap} {st : St} {a : Act} {ρ : Nat → Nat} {σ : Nat → Value}
theorem getL_some {i : Nat} {o : LObj} (h : getL st i = some o) : ∃ f, st.L[i]? = some (some (f, o)) := by
  unfold getL at h
  split at h
  · rename_i f o' ho
    simp at h; subst h
    exact ⟨f, ho⟩
  · simp at h
theorem getW_some {i : Nat} {o : LObj} (h : getW st i = some o) : st.L[i]? = some (some (true, o)) := by
  unfold getW at h
  split at h
  · rename_i o' ho
    simp at h; subst h
    exact ho
  · simp at h
theorem fresh?_some {d : Nat} (h : fresh? st d = true) : st.L[d]? = some none := by
  unfold fresh? at h
  split at h
  · assumption
  · simp at h
theorem res1_rel (hobj : ∀ i f o, st.L[i]? = some (some (f, o)) → ObjOK P w0 w st.H ρ σ i o) {c : S1} {y : Value} (h : c.rel ρ σ y) : (res1 st c).rel ρ σ y := by
  cases c <;> simp only [res1] <;> try exact h
  case own i =>
    split
    · rename_i A n c hg
      obtain ⟨f, hf⟩ := getL_some hg
      have := hobj _ _ _ hf
      simp only [ObjOK] at this
      simp only [S1.rel] at h ⊢
      rw [h, this]
    · exact h
  case pin i s =>
    split
    · rename_i A n c hg
      obtain ⟨f, hf⟩ := getL_some hg
      have := hobj _ _ _ hf
      simp only [ObjOK] at this
      simp only [S1.rel] at h ⊢
      rw [h.1, this]
    · exact h.1
theorem resL_rel (hobj : ∀ i f o, st.L[i]? = some (some (f, o)) → ObjOK P w0 w st.H ρ σ i o) : ∀ {cs : List S1} {ys : List Value}, relL ρ σ cs ys → relL ρ σ (cs.map (res1 st)) ys
  | [], [], _ => trivial
  | _ :: _, _ :: _, h => ⟨res1_rel hobj h.1, resL_rel hobj h.2⟩
  | [], _ :: _, h => h.elim
  | _ :: _, [], h => h.elim
theorem resT_rel (hobj : ∀ i f o, st.L[i]? = some (some (f, o)) → ObjOK P w0 w st.H ρ σ i o) : ∀ {cs : List (Bool × List S1)} {ys : List Value}, relT ρ σ cs ys → relT ρ σ (cs.map fun x => (x.1, x.2.map (res1 st))) ys
  | [], [], _ => trivial
  | (true, _) :: _, _ :: _, h => by
    obtain ⟨⟨zs, e, hz⟩, h2⟩ := h
    exact ⟨⟨zs, e, resL_rel hobj hz⟩, resT_rel hobj h2⟩
  | (false, _) :: _, _ :: _, h => ⟨resL_rel hobj h.1, resT_rel hobj h.2⟩
  | [], _ :: _, h => h.elim
  | (true, _) :: _, [], h => h.elim
  | (false, _) :: _, [], h => h.elim
theorem resV_rel (hobj : ∀ i f o, st.L[i]? = some (some (f, o)) → ObjOK P w0 w st.H ρ σ i o) {x : SV} {y : Value} (h : x.rel ρ σ y) : (resV st x).rel ρ σ y := by
  cases x <;> simp only [resV, SV.rel] at h ⊢
  case one x => exact res1_rel hobj h
  case agg cs => obtain ⟨ys, e, hr⟩ := h; exact ⟨ys, e, resL_rel hobj hr⟩
  case clo f cap => obtain ⟨ys, e, hr⟩ := h; exact ⟨ys, e, resL_rel hobj hr⟩
  case tup cs => obtain ⟨ys, e, hr⟩ := h; exact ⟨ys, e, resT_rel hobj hr⟩
theorem res1_refs {c : S1} {d : Nat} (h : (res1 st c).refs d) : c.refs d := by
  cases c <;> simp only [res1] at h <;> try exact h
  all_goals
    split at h
    · exact h.elim
    · exact h
theorem resL_refs {cs : List S1} {d : Nat} (h : refsL d (cs.map (res1 st))) : refsL d cs := by
  obtain ⟨c, hc, hr⟩ := h
  obtain ⟨c', hc', rfl⟩ := List.mem_map.1 hc
  exact ⟨c', hc', res1_refs hr⟩
theorem resV_refs {x : SV} {d : Nat} (h : (resV st x).refs d) : x.refs d := by
  cases x <;> simp only [resV, SV.refs] at h ⊢
  case one x => exact res1_refs h
  case agg cs => exact resL_refs h
  case clo f cap => exact resL_refs h
  case tup cs =>
    obtain ⟨x, hx, hr⟩ := h
    obtain ⟨y, hy, rfl⟩ := List.mem_map.1 hx
    exact ⟨y, hy, resL_refs hr⟩
theorem ofV_rel (v : Value) : (ofV v).rel ρ σ v := by
  cases v <;> simp only [ofV]
  case bool b => cases b <;> rfl
  case agg cs => exact ⟨cs, rfl, relL_v _⟩
  all_goals rfl
theorem refsL_v {d : Nat} {xs : List Value} (h : refsL d (xs.map S1.v)) : False := by
  obtain ⟨c, hc, hr⟩ := h
  obtain ⟨x, _, rfl⟩ := List.mem_map.1 hc
  exact hr
theorem ofV_refs {v : Value} {d : Nat} (h : (ofV v).refs d) : False := by
  cases v <;> simp only [ofV] at h
  case bool b => cases b <;> exact h
  case agg cs => exact refsL_v h
  all_goals exact h
variable (hg : Good P w0 H0 st a w ρ σ)
include hg
theorem ev_rel {x : Operand} {r : SV} (h : ev st x = some r) : r.rel ρ σ (a.eval x) := by
  cases x <;> simp only [ev] at h
  case tmp t =>
    split at h
    · rename_i x hx
      simp at h; subst h
      exact resV_rel hg.obj (hg.fr _ _ hx)
    · simp at h
  case const v => simp at h; subst h; exact ofV_rel v
  case func f => simp at h; subst h; exact ⟨#[], rfl, trivial⟩
  case global g => simp at h
omit hg in
theorem ev_refs {x : Operand} {r : SV} (h : ev st x = some r) {d : Nat} (hn : st.noRef d) : ¬ r.refs d := by
  cases x <;> simp only [ev] at h
  case tmp t =>
    split at h
    · rename_i x hx
      simp at h; subst h
      exact fun hh => hn.fr _ _ hx (resV_refs hh)
    · simp at h
  case const v => simp at h; subst h; exact ofV_refs
  case func f => simp at h; subst h; rintro ⟨c, hc, _⟩; simp at hc
  case global g => simp at h
theorem evs_rel : ∀ {xs : List Operand} {rs : List SV}, evs st xs = some rs → rs.length = xs.length ∧ ∀ (k : Nat) (r : SV) (x : Operand), rs[k]? = some r → xs[k]? = some x → r.rel ρ σ (a.eval x)
  | [], rs, h => by simp [evs] at h; subst h; simp
  | x :: xs, rs, h => by
    simp only [evs] at h
    split at h
    · rename_i r hr
      split at h
      · rename_i rs' hrs
        simp at h; subst h
        obtain ⟨hl, hk⟩ := evs_rel hrs
        refine ⟨by simp [hl], fun k r' x' h1 h2 => ?_⟩
        cases k with
        | zero => simp at h1 h2; subst h1 h2; exact ev_rel hg hr
        | succ k => exact hk k r' x' (by simpa using h1) (by simpa using h2)
      · simp at h
    · simp at h
end
end Go.Vc
