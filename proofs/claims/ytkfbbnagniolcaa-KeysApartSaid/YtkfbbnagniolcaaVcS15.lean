/- Loops: from the state at a round's end to the state at the loop's head. -/
import Derived.Test.YtkfbbnagniolcaaVcS14
set_option linter.unusedSectionVars false
set_option linter.unusedSimpArgs false
set_option linter.unusedVariables false
namespace Go.Vc
open Go Go.RowKit

def isDead (st : St) (k : Nat) : Prop := st.L[k]? = some (some (true, .dead))
structure Dies (st st' : St) : Prop where
  fr : st'.fr = st.fr
  H : st'.H = st.H
  O : st'.O = st.O
  ll : st'.L.length = st.L.length
  L : ∀ k : Nat, st'.L[k]? = st.L[k]? ∨ (isDead st' k ∧ ∃ e n xs, st.L[k]? = some (some (true, .row e n xs)))
theorem Dies.refl (st : St) : Dies st st := ⟨rfl, rfl, rfl, rfl, fun _ => .inl rfl⟩
theorem Dies.keeps {st st' : St} (h : Dies st st') {k : Nat} (hd : isDead st k) : isDead st' k := by
  rcases h.L k with h | ⟨h, _⟩
  · unfold isDead at *; rw [h]; exact hd
  · exact h
theorem Dies.trans {st st' st'' : St} (h : Dies st st') (h' : Dies st' st'') : Dies st st'' := by
  refine ⟨h'.fr.trans h.fr, h'.H.trans h.H, h'.O.trans h.O, h'.ll.trans h.ll, fun k => ?_⟩
  rcases h'.L k with h1 | ⟨h1, e, n, xs, h2⟩
  · rcases h.L k with h2 | ⟨h2, h3⟩
    · exact .inl (h1.trans h2)
    · exact .inr ⟨by unfold isDead at *; rw [h1]; exact h2, h3⟩
  · rcases h.L k with h3 | ⟨h3, h4⟩
    · exact .inr ⟨h1, e, n, xs, by rw [← h3]; exact h2⟩
    · exact .inr ⟨h1, h4⟩
theorem Dies.ro {st st' : St} (h : Dies st st') {k : Nat} {o : LObj} (hk : st.L[k]? = some (some (false, o))) : st'.L[k]? = some (some (false, o)) := by
  rcases h.L k with h1 | ⟨_, e, n, xs, h2⟩
  · rw [h1]; exact hk
  · rw [hk] at h2; simp at h2
theorem Dies.back {st st' : St} (h : Dies st st') {k : Nat} {f : Bool} {o : LObj} (hk : st'.L[k]? = some (some (f, o))) (ho : o ≠ .dead) : st.L[k]? = some (some (f, o)) := by
  rcases h.L k with h1 | ⟨h1, _⟩
  · rw [← h1]; exact hk
  · unfold isDead at h1; rw [hk] at h1; simp at h1; exact absurd h1.2 ho
theorem Dies.none {st st' : St} (h : Dies st st') {k : Nat} (hk : st'.L[k]? = some none) : st.L[k]? = some none := by
  rcases h.L k with h1 | ⟨h1, _⟩
  · rw [← h1]; exact hk
  · unfold isDead at h1; rw [hk] at h1; simp at h1
theorem Dies.box {st st' : St} (h : Dies st st') {k : Nat} {f : Bool} {o : LObj} (hk : st.L[k]? = some (some (f, o))) (ho : ∀ e n xs, o ≠ .row e n xs) : st'.L[k]? = some (some (f, o)) := by
  rcases h.L k with h1 | ⟨_, e, n, xs, h2⟩
  · rw [h1]; exact hk
  · rw [hk] at h2; simp at h2; exact absurd h2.2 (ho e n xs)
theorem Dies.kill {st : St} {k : Nat} {e : TypeId} {n : Nat} {xs : List Value} (h : getW st k = some (.row e n xs)) : Dies st (setL st k .dead) := by
  have hL := getW_some h
  have hlt : k < st.L.length := (List.getElem?_eq_some_iff.1 hL).1
  refine ⟨rfl, rfl, rfl, by simp [setL], fun j => ?_⟩
  by_cases hj : j = k
  · subst hj
    exact .inr ⟨by simp only [isDead, setL]; exact set_get hlt, e, n, xs, hL⟩
  · exact .inl (setL_keeps_other hj)
theorem takeRow_dies {st st' : St} {e : TypeId} {c : S1} {n : Nat} {xs : List Value} (h : takeRow st e c = some (n, xs, st')) : Dies st st' := by
  unfold takeRow at h
  split at h
  · split at h
    · rename_i hW
      split at h
      · simp at h
        obtain ⟨_, _, rfl⟩ := h
        exact Dies.kill hW
      · simp at h
    · simp at h
  · split at h
    · split at h
      · rename_i hW
        split at h
        · simp at h
          obtain ⟨_, _, rfl⟩ := h
          exact Dies.kill hW
        · simp at h
      · simp at h
    · simp at h
  · simp at h
    obtain ⟨_, _, rfl⟩ := h
    exact Dies.refl _
  · simp at h
theorem colL_dies : ∀ {ls : List Leaf} {R : Type} {p : PostL ls R} {cs : List S1} {st : St} {q : R} {st' : St}, colL ls p cs st = some (q, st') → Dies st st'
  | [], R, p, cs, st, q, st', h => by
    cases cs with
    | nil => simp [colL] at h; obtain ⟨_, rfl⟩ := h; exact Dies.refl _
    | cons _ _ => simp [colL] at h
  | l :: ls, R, p, cs, st, q, st', h => by
    cases cs with
    | nil => cases l <;> simp [colL] at h
    | cons c cs =>
      cases l with
      | cells => simp [colL] at h
      | row i e =>
        simp only [colL] at h
        split at h
        · rename_i n xs st1 ht
          exact (takeRow_dies ht).trans (colL_dies h)
        · simp at h
      | _ =>
        simp only [colL] at h
        split at h
        · exact colL_dies h
        · simp at h
theorem colI_dies : ∀ {is : List Item} {R : Type} {p : PostI is R} {st : St} {q : R} {st' : St}, colI is p st = some (q, st') → Dies st st'
  | [], R, p, st, q, st', h => by
    simp [colI] at h
    obtain ⟨_, rfl⟩ := h
    exact Dies.refl _
  | .slot d g ls :: is, R, p, st, q, st', h => by
    simp only [colI] at h
    split at h
    · split at h
      · split at h
        · rename_i h1
          exact (colL_dies h1).trans (colI_dies h)
        · simp at h
      · split at h
        · rename_i h1
          exact (colL_dies h1).trans (colI_dies h)
        · simp at h
      · simp at h
    · simp at h
  | .box i t ls :: is, R, p, st, q, st', h => by
    simp only [colI] at h
    split at h
    · split at h
      · split at h
        · rename_i h1
          exact (colL_dies h1).trans (colI_dies h)
        · simp at h
      · simp at h
    · simp at h
  | .arr i t :: is, R, p, st, q, st', h => by
    simp only [colI] at h
    split at h
    · split at h
      · exact colI_dies h
      · simp at h
    · simp at h
  | .rowc i e :: is, R, p, st, q, st', h => by
    simp only [colI] at h
    split at h
    · rename_i hW
      split at h
      · exact (Dies.kill hW).trans (colI_dies h)
      · simp at h
    · simp at h
def itemBoxes : List Item → List Nat
  | [] => []
  | .slot _ _ _ :: is => itemBoxes is
  | .box i _ _ :: is => i :: itemBoxes is
  | .arr i _ :: is => i :: itemBoxes is
  | .rowc i _ :: is => i :: itemBoxes is
theorem colI_boxes : ∀ {is : List Item} {R : Type} {p : PostI is R} {st : St} {q : R} {st' : St}, colI is p st = some (q, st') → ∀ i ∈ itemBoxes is, ∃ o, st.L[i]? = some (some (true, o))
  | [], R, p, st, q, st', h => by simp [itemBoxes]
  | .slot d g ls :: is, R, p, st, q, st', h => by
    have back : ∀ {st1 : St} {R' : Type} {p' : PostI is R'} {q' : R'} {st2 : St}, Dies st st1 → colI is p' st1 = some (q', st2) → ∀ i ∈ itemBoxes is, ∃ o, st.L[i]? = some (some (true, o)) := by
      intro st1 R' p' q' st2 hd hc i hi
      obtain ⟨o, ho⟩ := colI_boxes hc i hi
      rcases hd.L i with h1 | ⟨_, e, n, xs, h2⟩
      · exact ⟨o, by rw [← h1]; exact ho⟩
      · exact ⟨_, h2⟩
    simp only [colI] at h
    simp only [itemBoxes]
    split at h
    · split at h
      · split at h
        · rename_i h1
          exact back (colL_dies h1) h
        · simp at h
      · split at h
        · rename_i h1
          exact back (colL_dies h1) h
        · simp at h
      · simp at h
    · simp at h
  | .box i t ls :: is, R, p, st, q, st', h => by
    simp only [colI] at h
    simp only [itemBoxes]
    split at h
    · rename_i hW
      split at h
      · split at h
        · rename_i h1
          intro j hj
          rcases List.mem_cons.1 hj with rfl | hj
          · exact ⟨_, getW_some hW⟩
          · obtain ⟨o, ho⟩ := colI_boxes h j hj
            rcases (colL_dies h1).L j with h2 | ⟨_, e, n, xs, h2⟩
            · exact ⟨o, by rw [← h2]; exact ho⟩
            · exact ⟨_, h2⟩
        · simp at h
      · simp at h
    · simp at h
  | .arr i t :: is, R, p, st, q, st', h => by
    simp only [colI] at h
    simp only [itemBoxes]
    split at h
    · rename_i hW
      split at h
      · intro j hj
        rcases List.mem_cons.1 hj with rfl | hj
        · exact ⟨_, getW_some hW⟩
        · exact colI_boxes h j hj
      · simp at h
    · simp at h
  | .rowc i e :: is, R, p, st, q, st', h => by
    simp only [colI] at h
    simp only [itemBoxes]
    split at h
    · rename_i hW
      split at h
      · intro j hj
        rcases List.mem_cons.1 hj with rfl | hj
        · exact ⟨_, getW_some hW⟩
        · obtain ⟨o, ho⟩ := colI_boxes h j hj
          rcases (Dies.kill hW).L j with h2 | ⟨_, e, n, xs, h2⟩
          · exact ⟨o, by rw [← h2]; exact ho⟩
          · exact ⟨_, h2⟩
      · simp at h
    · simp at h

section
variable {P : Program} {Γ : Tab} {w0 : W0} {w w' : World} {H0 H' : Heap} {st : St} {a : Act} {ρ : Nat → Nat} {σ : Nat → Value} {an : Ann}
/- flags and dead objects do not matter -/
theorem Good.alike (hg : Good P w0 H0 st a w ρ σ) {L' : List (Option Ent)} (h : ∀ (i : Nat) (f : Bool) (o : LObj), L'[i]? = some (some (f, o)) → o = .dead ∨ ∃ f', st.L[i]? = some (some (f', o))) (hn : ∀ d : Nat, L'[d]? = some none → st.L[d]? = some none) :
    Good P w0 H0 { st with L := L' } a w ρ σ := by
  refine ⟨hg.defers, hg.size, hg.fr, hg.below, hg.le, hg.old, hg.snap, fun i f o hi => ?_, fun i j f f' o o' g hij hi hj hb hb' => ?_, fun d hd => ⟨(hg.nr d (hn d hd)).fr, fun j f o hj => ?_⟩, hg.sl, fun b e n c hO => ⟨(hg.opn b e n c hO).1, fun i f o hi => ?_⟩⟩
  rotate_right
  · rcases h i f o hi with rfl | ⟨f', h1⟩
    · simp [blk]
    · exact (hg.opn b e n c hO).2 i f' o h1
  · rcases h i f o hi with rfl | ⟨f', h1⟩
    · trivial
    · exact hg.obj i f' o h1
  · rcases h i f o hi with rfl | ⟨f1, h1⟩
    · simp [blk] at hb
    · rcases h j f' o' hj with rfl | ⟨f2, h2⟩
      · simp [blk] at hb'
      · exact hg.sep i j f1 f2 o o' g hij h1 h2 hb hb'
  · rcases h j f o hj with rfl | ⟨f1, h1⟩
    · exact fun hh => hh
    · exact (hg.nr d (hn d hd)).obj j f1 o h1
theorem Good.dies (hg : Good P w0 H0 st a w ρ σ) {st' : St} (h : Dies st st') : Good P w0 H0 st' a w ρ σ := by
  have := hg.alike (L' := st'.L) (fun i f o hi => by
    by_cases ho : o = .dead
    · exact .inl ho
    · exact .inr ⟨f, h.back hi ho⟩) (fun d hd => h.none hd)
  have e : st' = { st with L := st'.L } := by
    cases st'; simp [← h.fr, ← h.H, ← h.O]
  rw [e]; exact this
end
end Go.Vc
