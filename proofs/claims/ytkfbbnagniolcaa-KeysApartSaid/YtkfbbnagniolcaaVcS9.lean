/- What makes and writes memory. -/
import Derived.Test.YtkfbbnagniolcaaVcS8
set_option linter.unusedSectionVars false
set_option linter.unusedSimpArgs false
set_option linter.unusedVariables false
namespace Go.Vc
open Go Go.RowKit

def upd {α : Type} (f : Nat → α) (d : Nat) (x : α) : Nat → α := fun i => if i = d then x else f i
theorem upd_same {α : Type} (f : Nat → α) (d : Nat) (x : α) : upd f d x d = x := by simp [upd]
theorem upd_ne {α : Type} (f : Nat → α) {d i : Nat} (x : α) (h : i ≠ d) : upd f d x i = f i := by simp [upd, h]

section
variable {P : Program} {Γ : Tab} {w0 : W0} {w : World} {H0 : Heap} {st : St} {a : Act} {ρ : Nat → Nat} {σ : Nat → Value}
variable (hT : TabOK P Γ) (hg : Good P w0 H0 st a w ρ σ)
theorem TyOK.cellsOf {t : TypeId} {i : TyI} (h : TyOK P t i) : P.cellsOf t = i.size := by
  obtain ⟨inf, z, h1, h2, _⟩ := h.info
  simp [Program.cellsOf, h1, h2]
theorem set_get {α : Type} {l : List α} {d : Nat} {x : α} (h : d < l.length) : (l.set d x)[d]? = some x := by simp [h]
theorem Keeps.setL {st : St} {d : Nat} {o : LObj} (h : ∀ o', st.L[d]? ≠ some (some (false, o'))) : Keeps [] st (Vc.setL st d o) := by
  refine ⟨rfl, by simp [Vc.setL], fun _ _ => rfl, fun i o' hi => ?_, Heap.le_refl _⟩
  have : d ≠ i := fun e => by subst e; exact h _ hi
  simp only [Vc.setL]
  rw [List.getElem?_set_ne this]
  exact hi
theorem Keeps.setL_fresh {st : St} {d : Nat} {o : LObj} (h : fresh? st d = true) : Keeps [] st (Vc.setL st d o) :=
  Keeps.setL fun o' hh => by rw [fresh?_some h] at hh; simp at hh
theorem Keeps.setL_w {st : St} {d : Nat} {o o2 : LObj} (h : getW st d = some o2) : Keeps [] st (Vc.setL st d o) :=
  Keeps.setL fun o' hh => by rw [getW_some h] at hh; simp at hh
include hg in
/- a new object in a new block -/
theorem Good.newObj {d : Nat} (hf : fresh? st d = true) (t : TypeId) (ys : Array Value) (o' : LObj)
    (ho : (∃ cs, o' = .box t cs ∧ relL ρ σ cs ys.toList ∧ ∀ d', st.noRef d' → ¬ refsL d' cs) ∨ (o' = .arr t ys.toList ∧ ∀ y ∈ ys.toList, y.oneCell' = true)) :
    Good P w0 H0 (Vc.setL st d o') a (w.alloc (.cells ys t)) (upd ρ d w.heap.size) σ := by
  have hn := fresh?_some hf
  have hlt : d < st.L.length := (List.getElem?_eq_some_iff.1 hn).1
  have hnr := hg.nr d hn
  have hfree : ∀ o, st.H w.heap.size o = none := by
    intro o
    cases hh : st.H w.heap.size o with
    | none => rfl
    | some v => exact absurd (hg.H_lt hh) (Nat.lt_irrefl _)
  have hnew : (w.alloc (.cells ys t)).heap[w.heap.size]? = some (.cells ys t (0, 0)) := heap_alloc_new w _
  refine Good.step hg _ d o' none (set_get hlt) (fun i hi => .inl ?_) (.inr ⟨hnr, fun i hi => upd_ne _ _ hi, fun _ _ => rfl⟩) (GrB.alloc w _ none) (fun g h => by simp at h) (fun g h => by simp at h) (fun i f o g hi h hb => by simp) ?_ ?_ ?_ hg.sl
  · rw [List.getElem?_set_ne (Ne.symm hi)]
  · rcases ho with ⟨cs, rfl, hr, href⟩ | ⟨rfl, h1⟩
    · simp only [ObjOK, upd_same]
      exact ⟨ys, hnew, relL_of (fun i hi => upd_ne _ _ hi) (fun _ _ => rfl) (href d hnr) hr, .inl hg.below.size, hfree⟩
    · simp only [ObjOK, upd_same]
      exact ⟨hnew, h1, .inl hg.below.size, hfree⟩
  · intro g hb
    left
    rcases ho with ⟨cs, rfl, _⟩ | ⟨rfl, _⟩ <;> simp [blk, upd_same] at hb <;> omega
  · intro d' hd' _ hn'
    rcases ho with ⟨cs, rfl, _, href⟩ | ⟨rfl, _⟩
    · exact href d' hn'
    · exact fun hh => hh
include hg in
/- a new row -/
theorem Good.newRow {d : Nat} (hf : fresh? st d = true) {w' : World} (e : TypeId) (n : Nat) (xs : List Value) (v : Value)
    (hw : GrB w w' none) (hrow : w'.ownsRow w.heap.size e (P.cellsOf e) v n xs) (h1 : ∀ x ∈ xs, x.oneCell' = true) :
    Good P w0 H0 (Vc.setL st d (.row e n xs)) a w' ρ (upd σ d v) := by
  have hn := fresh?_some hf
  have hlt : d < st.L.length := (List.getElem?_eq_some_iff.1 hn).1
  have hnr := hg.nr d hn
  have hfree : ∀ g o, w.heap.size ≤ g → st.H g o = none := by
    intro g o hge
    cases hh : st.H g o with
    | none => rfl
    | some v => have := hg.H_lt hh; omega
  have hform : ∃ A m c, v = .slice A m c := by
    rcases hrow.2 with ⟨hv, _⟩ | ⟨g, cap, cur, hv, _⟩
    · exact ⟨_, _, _, hv⟩
    · exact ⟨_, _, _, hv⟩
  refine Good.step hg _ d (.row e n xs) none (set_get hlt) (fun i hi => .inl ?_) (.inr ⟨hnr, fun _ _ => rfl, fun i hi => upd_ne _ _ hi⟩) hw (fun g h => by simp at h) (fun g h => by simp at h) (fun i f o g hi h hb => by simp) ?_ ?_ (fun _ _ _ _ hh => hh) ?_
  · rw [List.getElem?_set_ne (Ne.symm hi)]
  · simp only [ObjOK, upd_same]
    refine ⟨?_, h1, fun g hb o => hfree g o (hrow.lt g hb).1⟩
    exact ⟨ownsRow_base0 hrow, fun g hb => .inl (Nat.le_trans hg.below.size (hrow.lt g hb).1)⟩
  · intro g hb
    simp only [blk, upd_same] at hb
    exact .inl (hrow.lt g hb).1
  · intro i
    by_cases hi : i = d
    · subst hi; rw [upd_same]; exact hform
    · rw [upd_ne _ _ hi]; exact hg.sl i

theorem run_newVar (t : TypeId) (v : Value) : (newVar t v).run P w = .ok ⟨w.heap.size, 0, none⟩ (w.alloc (.cells v.cells t)) := by
  simp [newVar, newRow]
theorem repl_length (z : List Value) (n : Nat) : (repl z n).length = n * z.length := by
  induction n with
  | zero => simp [repl]
  | succ n ih => simp [repl, ih, Nat.add_mul, Nat.add_comm]
theorem repl_get (z : List Value) (n k : Nat) (h : k < n * z.length) : (repl z n)[k]? = z[k % z.length]? := by
  induction n generalizing k with
  | zero => simp at h
  | succ n ih =>
    simp only [repl]
    by_cases hk : k < z.length
    · rw [List.getElem?_append_left hk, Nat.mod_eq_of_lt hk]
    · rw [List.getElem?_append_right (by omega), ih (k - z.length) (by rw [Nat.add_mul] at h; omega), ← Nat.mod_eq_sub_mod (by omega)]
theorem repl_mem {z : List Value} {n : Nat} {x : Value} (h : x ∈ repl z n) : x ∈ z := by
  induction n with
  | zero => simp [repl] at h
  | succ n ih =>
    simp only [repl, List.mem_append] at h
    rcases h with h | h
    · exact h
    · exact ih h
theorem range_repl (z : List Value) (n sz : Nat) (hz : z.length = sz) : ((Array.range (n * sz)).map fun k => (⟨z⟩ : Array Value)[k % (⟨z⟩ : Array Value).size]!).toList = repl z n := by
  subst hz
  apply List.ext_getElem?
  intro k
  rcases Nat.lt_or_ge k (n * z.length) with h | h
  · rw [repl_get z n k h]
    have hz : 0 < z.length := by
      rcases Nat.eq_zero_or_pos z.length with h0 | h0
      · rw [h0] at h; simp at h
      · exact h0
    have hlt : k % z.length < z.length := Nat.mod_lt _ hz
    simp [h, hlt]
  · rw [List.getElem?_eq_none (by simpa using h), List.getElem?_eq_none (by rw [repl_length]; exact h)]

/- storing cells into a block -/
theorem run_storeCells {g off : Nat} {t : TypeId} : ∀ (vs : List Value) (i : Nat) (w : World) (cur : Array Value), w.heap[g]? = some (.cells cur t (0, 0)) → off + i + vs.length ≤ cur.size → (∀ v ∈ vs, v.oneCell' = true) →
    ∃ w', (storeCells ⟨g, off, none⟩ vs i).run P w = .ok () w' ∧ w'.heap[g]? = some (.cells ⟨cur.toList.take (off + i) ++ vs ++ cur.toList.drop (off + i + vs.length)⟩ t (0, 0)) ∧ GrB w w' (some g) ∧ w'.heap.size = w.heap.size := by
  intro vs
  induction vs with
  | nil =>
    intro i w cur hb hle _
    refine ⟨w, rfl, ?_, GrB.refl w _, rfl⟩
    rw [hb]
    simp
  | cons v vs ih =>
    intro i w cur hb hle h1
    simp only [List.length_cons] at hle
    have hlt : off + i < cur.size := by omega
    have hcell : w.cell? ⟨g, off + i, none⟩ = some (cur[off + i]'hlt) := by
      rw [cell_of_block hb, Array.getElem?_eq_getElem hlt]
    have hfr : w.frozen? ⟨g, off + i, none⟩ = false := by simp [World.frozen?, hb]
    have hb2 : (w.setCell ⟨g, off + i, none⟩ v).heap[g]? = some (.cells (cur.setIfInBounds (off + i) v) t (0, 0)) := by
      simp [World.setCell, Array.getElem?_modify, hb]
    obtain ⟨w', q1, q2, q3, q4⟩ := ih (i + 1) _ _ hb2 (by simp; omega) (fun v hv => h1 v (List.mem_cons_of_mem _ hv))
    refine ⟨w', ?_, ?_, ?_, ?_⟩
    · simp only [storeCells, Sem.run_bind, add_plain, run_store P w _ v .plain (h1 v (by simp)), hcell, hfr, Bool.false_eq_true, if_false, Result.andThen_ok]
      exact q1
    · rw [q2]
      congr 3
      have hset : (cur.setIfInBounds (off + i) v).toList = cur.toList.take (off + i) ++ v :: cur.toList.drop (off + i + 1) := by
        rw [Array.toList_setIfInBounds, List.set_eq_take_append_cons_drop, if_pos (by simpa using hlt)]
      have hl : (cur.toList.take (off + i)).length = off + i := by simp; omega
      rw [hset]
      have e1 : (cur.toList.take (off + i) ++ v :: cur.toList.drop (off + i + 1)).take (off + (i + 1)) = cur.toList.take (off + i) ++ [v] := by
        rw [List.take_append, hl, List.take_of_length_le (by omega), show off + (i + 1) - (off + i) = 1 from by omega]
        rfl
      have e2 : (cur.toList.take (off + i) ++ v :: cur.toList.drop (off + i + 1)).drop (off + (i + 1) + vs.length) = cur.toList.drop (off + i + (vs.length + 1)) := by
        rw [List.drop_append, hl, List.drop_eq_nil_of_le (by omega), show off + (i + 1) + vs.length - (off + i) = vs.length + 1 from by omega, List.drop_succ_cons, List.drop_drop]
        simp only [List.nil_append]
        congr 1; omega
      rw [e1, e2]
      simp
    · refine ⟨⟨q3.os, q3.tape, q3.output, ?_, fun k hk hne => ?_⟩, q3.drawn⟩
      · have := q3.size; simpa using this
      · rw [q3.block k (by simpa using hk) hne]
        exact Below.heap_setCell w _ v k (fun e => hne (by rw [e]))
    · rw [q4]; simp
end
end Go.Vc
