/- The code: the theorem. -/
import Derived.Test.YtkfbbnagniolcaaVcD
set_option linter.unusedSectionVars false
set_option linter.unusedSimpArgs false
set_option linter.unusedVariables false
namespace Go.Vc
open Go Go.RowKit

theorem havF_length : ∀ (ds : List Nat) (fr : List SV), (havF ds fr).length = fr.length
  | [], _ => rfl
  | d :: ds, fr => by simp [havF, havF_length ds]
theorem havF_get : ∀ {ds : List Nat} {fr : List SV} {j : Nat} {x : SV}, (havF ds fr)[j]? = some x → x = .one .any ∨ (j ∉ ds ∧ fr[j]? = some x)
  | [], fr, j, x, h => .inr ⟨by simp, h⟩
  | d :: ds, fr, j, x, h => by
    rcases havF_get (ds := ds) (fr := fr.set d (.one .any)) h with h1 | ⟨h1, h2⟩
    · exact .inl h1
    · by_cases hj : d = j
      · subst hj
        rw [List.getElem?_set_self'] at h2
        cases hl : fr[d]? with
        | none => rw [hl] at h2; simp at h2
        | some y => rw [hl] at h2; simp at h2; exact .inl h2.symm
      · rw [List.getElem?_set_ne hj] at h2
        exact .inr ⟨by simp [Ne.symm hj, h1], h2⟩
theorem havF_not : ∀ {ds : List Nat} {fr : List SV} {j : Nat}, j ∉ ds → (havF ds fr)[j]? = fr[j]?
  | [], _, _, _ => rfl
  | d :: ds, fr, j, h => by
    simp at h
    simp only [havF]
    rw [havF_not h.2, List.getElem?_set_ne (Ne.symm h.1)]
theorem havL_length : ∀ (ds : List Nat) (L : List (Option Ent)), (havL ds L).length = L.length
  | [], _ => rfl
  | d :: ds, fr => by simp [havL, havL_length ds]
theorem havL_get : ∀ {ds : List Nat} {L : List (Option Ent)} {j : Nat} {x : Option Ent}, (havL ds L)[j]? = some x → (x = none ∧ (j ∈ ds ∨ L[j]? = some none)) ∨ (j ∉ ds ∧ L[j]? = some x)
  | [], L, j, x, h => .inr ⟨by simp, h⟩
  | d :: ds, L, j, x, h => by
    rcases havL_get (ds := ds) (L := L.set d none) h with ⟨h1, h2⟩ | ⟨h1, h2⟩
    · rcases h2 with h2 | h2
      · exact .inl ⟨h1, .inl (by simp [h2])⟩
      · by_cases hj : d = j
        · exact .inl ⟨h1, .inl (by simp [hj])⟩
        · rw [List.getElem?_set_ne hj] at h2
          exact .inl ⟨h1, .inr h2⟩
    · by_cases hj : d = j
      · subst hj
        rw [List.getElem?_set_self'] at h2
        cases hl : L[d]? with
        | none => rw [hl] at h2; simp at h2
        | some y => rw [hl] at h2; simp at h2; exact .inl ⟨h2.symm, .inl (by simp)⟩
      · rw [List.getElem?_set_ne hj] at h2
        exact .inr ⟨by simp [Ne.symm hj, h1], h2⟩
theorem havL_not : ∀ {ds : List Nat} {L : List (Option Ent)} {j : Nat}, j ∉ ds → (havL ds L)[j]? = L[j]?
  | [], _, _, _ => rfl
  | d :: ds, fr, j, h => by
    simp at h
    simp only [havL]
    rw [havL_not h.2, List.getElem?_set_ne (Ne.symm h.1)]
theorem lock_length : ∀ (L : List (Option Ent)), (lock L).length = L.length
  | [] => rfl
  | none :: L => by simp [lock, lock_length L]
  | some (_, _) :: L => by simp [lock, lock_length L]
theorem lock_get : ∀ (L : List (Option Ent)) (j : Nat), (lock L)[j]? = (L[j]?).map (Option.map fun x => (false, x.2))
  | [], j => by simp [lock]
  | none :: L, j => by
    cases j with
    | zero => simp [lock]
    | succ j => simpa [lock] using lock_get L j
  | some (_, _) :: L, j => by
    cases j with
    | zero => simp [lock]
    | succ j => simpa [lock] using lock_get L j
theorem deadB_length : ∀ (is : List Item) (L : List (Option Ent)), (deadB is L).length = L.length
  | [], _ => rfl
  | .slot _ _ _ :: is, L => deadB_length is L
  | .box i _ _ :: is, L => by simp [deadB, deadB_length is]
  | .arr i _ :: is, L => by simp [deadB, deadB_length is]
  | .rowc i _ :: is, L => by simp [deadB, deadB_length is]
theorem deadB_get : ∀ {is : List Item} {L : List (Option Ent)} {j : Nat} {x : Option Ent}, (deadB is L)[j]? = some x → x = some (false, .dead) ∨ (j ∉ itemBoxes is ∧ L[j]? = some x)
  | [], L, j, x, h => .inr ⟨by simp [itemBoxes], h⟩
  | .slot _ _ _ :: is, L, j, x, h => deadB_get (is := is) h
  | .box i _ _ :: is, L, j, x, h => by
    rcases deadB_get (is := is) h with h1 | ⟨h1, h2⟩
    · exact .inl h1
    · by_cases hj : i = j
      · subst hj
        rw [List.getElem?_set_self'] at h2
        cases hl : L[i]? with
        | none => rw [hl] at h2; simp at h2
        | some y => rw [hl] at h2; simp at h2; exact .inl h2.symm
      · rw [List.getElem?_set_ne hj] at h2
        exact .inr ⟨by simp [itemBoxes, Ne.symm hj, h1], h2⟩
  | .arr i _ :: is, L, j, x, h => by
    rcases deadB_get (is := is) h with h1 | ⟨h1, h2⟩
    · exact .inl h1
    · by_cases hj : i = j
      · subst hj
        rw [List.getElem?_set_self'] at h2
        cases hl : L[i]? with
        | none => rw [hl] at h2; simp at h2
        | some y => rw [hl] at h2; simp at h2; exact .inl h2.symm
      · rw [List.getElem?_set_ne hj] at h2
        exact .inr ⟨by simp [itemBoxes, Ne.symm hj, h1], h2⟩
  | .rowc i _ :: is, L, j, x, h => by
    rcases deadB_get (is := is) h with h1 | ⟨h1, h2⟩
    · exact .inl h1
    · by_cases hj : i = j
      · subst hj
        rw [List.getElem?_set_self'] at h2
        cases hl : L[i]? with
        | none => rw [hl] at h2; simp at h2
        | some y => rw [hl] at h2; simp at h2; exact .inl h2.symm
      · rw [List.getElem?_set_ne hj] at h2
        exact .inr ⟨by simp [itemBoxes, Ne.symm hj, h1], h2⟩
theorem deadB_not : ∀ {is : List Item} {L : List (Option Ent)} {j : Nat}, j ∉ itemBoxes is → (deadB is L)[j]? = L[j]?
  | [], _, _, _ => rfl
  | .slot _ _ _ :: is, L, j, h => deadB_not (is := is) h
  | .box i _ _ :: is, L, j, h => by
    simp [itemBoxes] at h
    simp only [deadB]
    rw [deadB_not h.2, List.getElem?_set_ne (Ne.symm h.1)]
  | .arr i _ :: is, L, j, h => by
    simp [itemBoxes] at h
    simp only [deadB]
    rw [deadB_not h.2, List.getElem?_set_ne (Ne.symm h.1)]
  | .rowc i _ :: is, L, j, h => by
    simp [itemBoxes] at h
    simp only [deadB]
    rw [deadB_not h.2, List.getElem?_set_ne (Ne.symm h.1)]
theorem allFree_mem {st : St} : ∀ {ds : List Nat}, allFree st ds = true → ∀ d ∈ ds, st.L[d]? = some none
  | [], _, d, hd => by simp at hd
  | x :: ds, h, d, hd => by
    simp [allFree] at h
    rcases List.mem_cons.1 hd with rfl | hd
    · exact fresh?_some h.1
    · exact allFree_mem h.2 d hd
/- the head's objects -/
theorem headSt_get {an : Ann} {c : Code} {is : List Item} {st : St} {H : Heap} {O : OMap} {i : Nat} {f : Bool} {o : LObj} (h : (headSt an c is st H O).L[i]? = some (some (f, o))) :
    o = .dead ∨ (f = false ∧ i ∉ itemBoxes is ∧ ∃ f', st.L[i]? = some (some (f', o))) := by
  simp only [headSt] at h
  rcases deadB_get h with h1 | ⟨h1, h2⟩
  · simp at h1; exact .inl h1.2
  · right
    rcases havL_get h2 with ⟨h3, _⟩ | ⟨_, h3⟩
    · simp at h3
    · rcases havL_get h3 with ⟨h4, _⟩ | ⟨_, h4⟩
      · simp at h4
      · rw [lock_get] at h4
        cases hl : st.L[i]? with
        | none => rw [hl] at h4; simp at h4
        | some e =>
          rw [hl] at h4
          cases e with
          | none => simp at h4
          | some e =>
            simp at h4
            exact ⟨h4.1, h1, e.1, by rw [← h4.2]⟩
theorem headSt_none {an : Ann} {c : Code} {is : List Item} {st : St} {H : Heap} {O : OMap} {i : Nat} (h : (headSt an c is st H O).L[i]? = some none) :
    st.L[i]? = some none ∨ i ∈ itemIds is ++ idsOf an c := by
  simp only [headSt] at h
  rcases deadB_get h with h1 | ⟨h1, h2⟩
  · simp at h1
  · rcases havL_get h2 with ⟨_, h3⟩ | ⟨_, h3⟩
    · rcases h3 with h3 | h3
      · exact .inr (by simp [h3])
      · rcases havL_get h3 with ⟨_, h4⟩ | ⟨_, h4⟩
        · rcases h4 with h4 | h4
          · exact .inr (by simp [h4])
          · rw [lock_get] at h4
            cases hl : st.L[i]? with
            | none => rw [hl] at h4; simp at h4
            | some e => rw [hl] at h4; cases e <;> simp at h4; exact .inl rfl
        · rw [lock_get] at h4
          cases hl : st.L[i]? with
          | none => rw [hl] at h4; simp at h4
          | some e => rw [hl] at h4; cases e <;> simp at h4; exact .inl rfl
    · rcases havL_get h3 with ⟨_, h4⟩ | ⟨_, h4⟩
      · rcases h4 with h4 | h4
        · exact .inr (by simp [h4])
        · rw [lock_get] at h4
          cases hl : st.L[i]? with
          | none => rw [hl] at h4; simp at h4
          | some e => rw [hl] at h4; cases e <;> simp at h4; exact .inl rfl
      · rw [lock_get] at h4
        cases hl : st.L[i]? with
        | none => rw [hl] at h4; simp at h4
        | some e => rw [hl] at h4; cases e <;> simp at h4; exact .inl rfl
theorem headSt_ro {an : Ann} {c : Code} {is : List Item} {st : St} {H : Heap} {O : OMap} {i : Nat} {o : LObj} {f : Bool} (h : st.L[i]? = some (some (f, o))) (h1 : i ∉ itemBoxes is) (h2 : i ∉ itemIds is ++ idsOf an c) :
    (headSt an c is st H O).L[i]? = some (some (false, o)) := by
  simp at h2
  simp only [headSt]
  rw [deadB_not h1, havL_not h2.1, havL_not h2.2, lock_get, h]
  rfl
theorem unlock_get : ∀ (L L' : List (Option Ent)) (i : Nat), (∃ o, (∃ o', L[i]? = some (some (true, o'))) ∧ (∃ f, L'[i]? = some (some (f, o))) ∧ (unlock L L')[i]? = some (some (true, o))) ∨
    ((unlock L L')[i]? = L'[i]? ∧ ((∀ o, L[i]? ≠ some (some (true, o))) ∨ (∀ x, L'[i]? ≠ some (some x))))
  | [], L', i => .inr ⟨rfl, .inl (by simp)⟩
  | x :: L, [], i => .inr ⟨by cases x with
      | none => rfl
      | some x => obtain ⟨b, o⟩ := x; cases b <;> rfl, .inr (by simp)⟩
  | none :: L, y :: L', i => by
    cases i with
    | zero => exact .inr ⟨rfl, .inl (by simp)⟩
    | succ i => simpa [unlock] using unlock_get L L' i
  | some (false, o) :: L, y :: L', i => by
    cases i with
    | zero => exact .inr ⟨rfl, .inl (by simp)⟩
    | succ i => simpa [unlock] using unlock_get L L' i
  | some (true, o) :: L, none :: L', i => by
    cases i with
    | zero => exact .inr ⟨rfl, .inr (by simp)⟩
    | succ i => simpa [unlock] using unlock_get L L' i
  | some (true, o) :: L, some (f, o') :: L', i => by
    cases i with
    | zero => exact .inl ⟨o', ⟨o, rfl⟩, ⟨f, rfl⟩, rfl⟩
    | succ i => simpa [unlock] using unlock_get L L' i
theorem unlock_length : ∀ (L L' : List (Option Ent)), (unlock L L').length = L'.length
  | [], L' => rfl
  | x :: L, [] => by
    cases x with
    | none => rfl
    | some x => obtain ⟨b, o⟩ := x; cases b <;> rfl
  | none :: L, y :: L' => by simp [unlock, unlock_length L L']
  | some (false, o) :: L, y :: L' => by simp [unlock, unlock_length L L']
  | some (true, o) :: L, none :: L' => by simp [unlock, unlock_length L L']
  | some (true, o) :: L, some (f, o') :: L' => by simp [unlock, unlock_length L L']

section
variable {P : Program} {Γ : Tab} {w0 : W0} {w w' : World} {H0 H' : Heap} {a : Act} {ρ : Nat → Nat} {σ : Nat → Value} {an : Ann}
/- what holds of the state at a round's end, against the state st before the loop (st2: behind the handing over) -/
structure AtHead (an : Ann) (c : Code) (is : List Item) (st st2 stc st3 : St) : Prop where
  fl : stc.fr.length = st.fr.length
  ll : stc.L.length = st.L.length
  fr : ∀ j, j ∉ itemSlots is → j ∉ writes an c → stc.fr[j]? = st.fr[j]?
  obj : ∀ (i : Nat) (f : Bool) (o : LObj), (headSt an c is st2 stc.H noO).L[i]? = some (some (f, o)) → o = .dead ∨ (f = false ∧ ∃ f', st3.L[i]? = some (some (f', o)))
  le : Heap.le st.H stc.H
theorem head_LI {c : Code} {is : List Item} {st st2 stc st3 : St} (hnr : ∀ d : Nat, st.L[d]? = some none → st.noRef d) (hd2 : Dies st st2) (hfree : allFree st (itemIds is ++ idsOf an c) = true)
    (hg : Good P w0 H0 stc a w ρ σ) (hd3 : Dies stc st3) (hh : AtHead an c is st st2 stc st3) {O' : OMap} (hO : ∀ b : Nat, O' b ≠ none → stc.O b = O' b) : LI P w0 H0 a w ρ σ stc st3 (headSt an c is st2 stc.H O') σ stc := by
  have hg3 := hg.dies hd3
  have hfr : ∀ (j : Nat) (x : SV), (headSt an c is st2 stc.H O').fr[j]? = some x → x = .one .any ∨ (st.fr[j]? = some x ∧ stc.fr[j]? = some x) := by
    intro j x hx
    simp only [headSt] at hx
    rcases havF_get hx with h1 | ⟨h1, h2⟩
    · exact .inl h1
    · rcases havF_get h2 with h3 | ⟨h3, h4⟩
      · exact .inl h3
      · rw [hd2.fr] at h4
        exact .inr ⟨h4, (hh.fr j h1 h3).trans h4⟩
  have hlen : (headSt an c is st2 stc.H O').L.length = stc.L.length := by
    simp only [headSt, deadB_length, havL_length, lock_length]
    rw [hd2.ll, hh.ll]
  have hfl : (headSt an c is st2 stc.H O').fr.length = stc.fr.length := by
    simp only [headSt, havF_length]
    rw [hd2.fr, hh.fl]
  have hobj3 : ∀ (i : Nat) (f : Bool) (o : LObj), (headSt an c is st2 stc.H O').L[i]? = some (some (f, o)) → o ≠ .dead → ∃ f', st3.L[i]? = some (some (f', o)) := by
    intro i f o hi ho
    rcases hh.obj i f o hi with h | ⟨_, h⟩
    · exact absurd h ho
    · exact h
  refine ⟨⟨hg.defers, by rw [hg.size, hfl], fun i x hx => ?_, hg.below, hg.le, hg.old, hg.snap, fun i f o hi => ?_, fun i j f f' o o' g hij hi hj hb hb' => ?_, fun d hd => ?_, hg.sl, fun b e n c hb => ?_⟩, Dies.refl _, rfl, hfl, hlen, fun j f o g hj hb => ?_, hO, fun _ _ _ => rfl⟩
  rotate_right
  rotate_right
  · obtain ⟨k1, k2⟩ := hg.opn b e n c ((hO b (by rw [show O' b = _ from hb]; simp)).trans hb)
    refine ⟨k1, fun i f o hi => ?_⟩
    by_cases ho : o = .dead
    · subst ho; simp [blk]
    · obtain ⟨f', h⟩ := hobj3 i f o hi ho
      exact k2 i f' o (hd3.back h ho)
  rotate_left
  · rcases hfr i x hx with rfl | ⟨_, h⟩
    · trivial
    · exact hg.fr i x h
  · by_cases ho : o = .dead
    · subst ho; trivial
    · obtain ⟨f', h⟩ := hobj3 i f o hi ho
      have := hg3.obj i f' o h
      rw [hd3.H] at this
      exact this
  · have ho : o ≠ .dead := by rintro rfl; simp [blk] at hb
    have ho' : o' ≠ .dead := by rintro rfl; simp [blk] at hb'
    obtain ⟨f1, h1⟩ := hobj3 i f o hi ho
    obtain ⟨f2, h2⟩ := hobj3 j f' o' hj ho'
    exact hg3.sep i j f1 f2 o o' g hij h1 h2 hb hb'
  · have hst : st.L[d]? = some none := by
      rcases headSt_none hd with h | h
      · exact hd2.none h
      · exact allFree_mem hfree d h
    have hn := hnr d hst
    refine ⟨fun j x hx => ?_, fun j f o hj => ?_⟩
    · rcases hfr j x hx with rfl | ⟨h, _⟩
      · exact fun hh => hh
      · exact hn.fr j x h
    · rcases headSt_get hj with rfl | ⟨_, _, f', h⟩
      · exact fun hh => hh
      · by_cases ho : o = .dead
        · subst ho; exact fun hh => hh
        · exact hn.obj j f' o (hd2.back h ho)
  · have ho : o ≠ .dead := by rintro rfl; simp [blk] at hb
    obtain ⟨f', h⟩ := hobj3 j f o hj ho
    refine ⟨j, f', o, hd3.back h ho, hb, .inl ⟨rfl, fun hd => ?_⟩⟩
    unfold isDead at hd
    rw [h] at hd
    simp at hd
    exact ho hd.2

def NextE (P : Program) (w0 : W0) (H0 : Heap) (ws : List Nat) (st : St) (K : Exit → St → Prop) (Q : Exit → Act → World → Prop) : Prop :=
  ∀ e a' w' st' ρ' σ', K e st' → Keeps ws st st' → Good P w0 H0 st' a' w' ρ' σ' → Q e a' w'
theorem NextE.mono {ws ws' : List Nat} {st : St} {K : Exit → St → Prop} {Q : Exit → Act → World → Prop} (h : NextE P w0 H0 ws' st K Q) (hs : ∀ x ∈ ws, x ∈ ws') : NextE P w0 H0 ws st K Q :=
  fun e a' w' st' ρ' σ' h1 h2 h3 => h e a' w' st' ρ' σ' h1 (h2.mono hs) h3
theorem allO_elim {o : Bool} {K : OMap → Prop} (O : OMap) (h : allO o K) : ∃ O' : OMap, (∀ b : Nat, O' b ≠ none → O b = O' b) ∧ (∀ (q : HP o) (H : Heap), apH o q H O → apH o q H O') ∧ K O' := by
  cases o with
  | false => exact ⟨noO, fun b hb => absurd rfl hb, fun q H h => h, h⟩
  | true => exact ⟨O, fun _ _ => rfl, fun _ _ h => h, h O⟩
theorem vcC_sound (hm : P.follows .mixedOrders = true) (hT : TabOK P Γ) : ∀ {c : Code} {K : Exit → St → Prop} {Q : Exit → Act → World → Prop} {st : St} {a : Act} {w : World} {ρ : Nat → Nat} {σ : Nat → Value},
    Good P w0 H0 st a w ρ σ → vcC P Γ an c K st → NextE P w0 H0 (writes an c) st K Q → c.wp P Q a w := by
  intro c
  induction c with
  | skip => intro K Q st a w ρ σ hg h hn; exact wp_skip (hn _ _ _ _ _ _ h ((Keeps.refl st).mono (by simp)) hg)
  | label l => intro K Q st a w ρ σ hg h hn; exact wp_label (hn _ _ _ _ _ _ h ((Keeps.refl st).mono (by simp)) hg)
  | exit l => intro K Q st a w ρ σ hg h hn; exact wp_exit (hn _ _ _ _ _ _ h ((Keeps.refl st).mono (by simp)) hg)
  | ret => intro K Q st a w ρ σ hg h hn; exact wp_ret (hn _ _ _ _ _ _ h ((Keeps.refl st).mono (by simp)) hg)
  | region id ops draw =>
    intro K Q st a w ρ σ hg h hn
    cases draw with
    | false => exact region_sound hT hg h fun a' w' st' ρ' σ' h1 h2 h3 => hn _ _ _ _ _ _ h1 h2 h3
    | true =>
      simp only [vcC] at h
      split at h
      · rename_i hs
        split at h
        · rename_i hsch
          exact draw_sound hm hT hg hs hsch h fun a' w' st' ρ' σ' h1 h2 h3 => hn _ _ _ _ _ _ h1 h2 h3
        · exact h.elim
      · exact h.elim
  | seq x y ihx ihy =>
    intro K Q st a w ρ σ hg h hn
    refine wp_seq (ihx hg h ?_)
    intro e a' w' st' ρ' σ' h1 h2 h3
    have hk : Keeps (writes an (.seq x y)) st st' := h2.mono (by simp [writes]; intro x hx; exact .inl hx)
    cases e with
    | normal => exact ihy h3 h1 fun e a'' w'' st'' ρ'' σ'' k1 k2 k3 => hn _ _ _ _ _ _ k1 (hk.trans (k2.mono (by simp [writes]; intro x hx; exact .inr hx))) k3
    | _ => exact hn _ _ _ _ _ _ h1 hk h3
  | cond o x y ihx ihy =>
    intro K Q st a w ρ σ hg h hn
    have hx : ∀ {st : St} {a : Act} {w : World} {ρ σ}, Good P w0 H0 st a w ρ σ → vcC P Γ an x K st → NextE P w0 H0 (writes an (.cond o x y)) st K Q → x.wp P Q a w :=
      fun hg h hn => ihx hg h (hn.mono (by simp [writes]; intro x hx; exact .inl hx))
    have hy : ∀ {st : St} {a : Act} {w : World} {ρ σ}, Good P w0 H0 st a w ρ σ → vcC P Γ an y K st → NextE P w0 H0 (writes an (.cond o x y)) st K Q → y.wp P Q a w :=
      fun hg h hn => ihy hg h (hn.mono (by simp [writes]; intro x hx; exact .inr hx))
    simp only [vcC] at h
    split at h
    · rename_i he
      exact wp_cond_true (ev_rel hg he) (hx hg h hn)
    · rename_i he
      exact wp_cond_false (ev_rel hg he) (hy hg h hn)
    · rename_i b he
      exact wp_cond_split (t := b) (ev_rel hg he) (fun e => hx hg (h.1 e) hn) (fun e => hy hg (h.2 e) hn)
    · rename_i b he
      exact wp_cond_split (t := b) (ev_rel hg he) (fun e => hx hg (h.1 e) hn) (fun e => hy hg (h.2 e) hn)
    · exact h.elim
  | block id c ih =>
    intro K Q st a w ρ σ hg h hn
    refine wp_block (ih hg h ?_)
    intro e a' w' st' ρ' σ' h1 h2 h3
    cases e with
    | exit id' =>
      simp only [Exit.inBlock]
      simp only at h1
      split at h1
      · rename_i he
        simp only [he, if_true]
        exact hn _ _ _ _ _ _ h1 h2 h3
      · rename_i he
        simp only [he, if_false]
        exact hn _ _ _ _ _ _ h1 h2 h3
    | _ => exact hn _ _ _ _ _ _ h1 h2 h3
  | loop c ih =>
    intro K Q st0 a w ρ σ hg0 h hn0
    simp only [vcC] at h
    obtain ⟨inv, μ, h⟩ := h
    obtain ⟨st, h, hk0, hg, _⟩ := vcPubs_sound hg0 h
    have hn : NextE P w0 H0 (writes an (.loop c)) st K Q := fun e a' w' st' ρ' σ' h1 h2 h3 => hn0 _ _ _ _ _ _ h1 ((hk0.mono (by simp)).trans h2) h3
    split at h
    · rename_i hfree
      generalize han : an.lt (firstReg c) = is at *
      generalize hz : zipI is inv μ = z at *
      split at h
      · rename_i x st2 hcol
        obtain ⟨h0, hround⟩ := h
        have hd2 := colI_dies hcol
        have hboxes := colI_boxes hcol
        refine wp_loop_ghost (fun n a w => ∃ stc st3 ρ σ q, Good P w0 H0 stc a w ρ σ ∧ colI is z stc = some ((q, n), st3) ∧ apH an.opn q stc.H stc.O ∧ AtHead an c is st st2 stc st3) x.2 ⟨st, st2, ρ, σ, x.1, hg, hcol, h0, rfl, rfl, fun _ _ _ => rfl, ?_, Heap.le_refl _⟩ ?_
        · intro i f o hi
          rcases headSt_get hi with h1 | ⟨h1, _, h2⟩
          · exact .inl h1
          · exact .inr ⟨h1, h2⟩
        · rintro n a1 w1 ⟨stc, st3, ρ1, σ1, q, hg1, hcol1, hq, hh⟩
          have hd3 := colI_dies hcol1
          obtain ⟨O', hO', hap, hall⟩ := allO_elim stc.O (hround stc.H hh.le)
          have li := head_LI hg.nr hd2 hfree hg1 hd3 hh hO'
          obtain ⟨bs, σ2, k1, k2, k3⟩ := headI_sound hg1 hd3 li hall hcol1
          have hbH : bs.H = stc.H := k3.H
          have hbfr : ∀ j, j ∉ itemSlots is → j ∉ writes an c → bs.fr[j]? = st.fr[j]? := by
            intro j h1 h2
            rw [k3.fr j h1]
            simp only [headSt]
            rw [havF_not h1, havF_not h2, hd2.fr]
          have hblen : bs.L.length = st.L.length := by
            rw [k3.ll]
            simp only [headSt, deadB_length, havL_length, lock_length]
            exact hd2.ll
          have hbfl : bs.fr.length = st.fr.length := by
            rw [k3.fl]
            simp only [headSt, havF_length]
            rw [hd2.fr]
          refine ih k2 (k1 (hap _ _ hq)) ?_
          intro e a' w' st' ρ' σ' e1 e2 e3
          have hro : ∀ (i : Nat) (o : LObj), (headSt an c is st2 stc.H noO).L[i]? = some (some (false, o)) → i ∉ itemBoxes is → st'.L[i]? = some (some (false, o)) :=
            fun i o hi hb => e2.ro i o (k3.ro i o hb hi)
          have hle : Heap.le st.H st'.H := Heap.le_trans hh.le (by rw [← hbH]; exact e2.le)
          have exits : Keeps (writes an (.loop c)) st { st' with L := unlock st2.L st'.L } ∧ Good P w0 H0 { st' with L := unlock st2.L st'.L } a' w' ρ' σ' := by
            constructor
            · refine ⟨e2.fl.trans hbfl, by simp only [unlock_length]; exact e2.ll.trans hblen, fun j hj => ?_, fun i o hi => ?_, hle⟩
              · simp only [writes, han, List.mem_append, not_or] at hj
                exact (e2.fr j hj.2).trans (hbfr j hj.1 hj.2)
              · have h1 := hd2.ro hi
                have h2 : i ∉ itemBoxes is := fun hb => by
                  obtain ⟨o', ho'⟩ := hboxes i hb
                  rw [hi] at ho'; simp at ho'
                have h3 : i ∉ itemIds is ++ idsOf an c := fun hb => by
                  have := allFree_mem hfree i hb
                  rw [hi] at this; simp at this
                have h4 := hro i o (headSt_ro h1 h2 h3) h2
                rcases unlock_get st2.L st'.L i with ⟨o', ⟨o2, ho2⟩, _⟩ | ⟨h5, _⟩
                · rw [h1] at ho2; simp at ho2
                · simp only; rw [h5]; exact h4
            · refine e3.alike (fun i f o hi => .inr ?_) (fun d hd => ?_)
              · rcases unlock_get st2.L st'.L i with ⟨o', _, ⟨f', hf'⟩, h5⟩ | ⟨h5, _⟩
                · rw [h5] at hi; simp at hi; exact ⟨f', by rw [← hi.2]; exact hf'⟩
                · exact ⟨f, by rw [← h5]; exact hi⟩
              · rcases unlock_get st2.L st'.L d with ⟨o', _, _, h5⟩ | ⟨h5, _⟩
                · rw [h5] at hd; simp at hd
                · rw [← h5]; exact hd
          cases e with
          | normal =>
            simp only [vcEnd] at e1
            obtain ⟨stp, e1, hkp, e3, _⟩ := vcPubs_sound e3 e1
            have e2 := e2.trans (hkp.mono (by simp))
            have hro : ∀ (i : Nat) (o : LObj), (headSt an c is st2 stc.H noO).L[i]? = some (some (false, o)) → i ∉ itemBoxes is → stp.L[i]? = some (some (false, o)) :=
              fun i o hi hb => e2.ro i o (k3.ro i o hb hi)
            have hle : Heap.le st.H stp.H := Heap.le_trans hh.le (by rw [← hbH]; exact e2.le)
            split at e1
            · rename_i x' st3' hcol'
              refine ⟨x'.2, e1.2, stp, st3', ρ', σ', x'.1, e3, hcol', e1.1, e2.fl.trans hbfl, e2.ll.trans hblen, fun j h1 h2 => (e2.fr j h2).trans (hbfr j h1 h2), ?_, hle⟩
              intro i f o hi
              rcases headSt_get hi with h1 | ⟨h1, h2, f', h3⟩
              · exact .inl h1
              · subst h1
                refine .inr ⟨rfl, false, (colI_dies hcol').ro (hro i o ?_ h2)⟩
                exact hi
            · exact e1.elim
          | _ => exact hn _ _ _ _ _ _ e1 exits.1 exits.2
      · exact h.elim
    · exact h.elim
  | _ => intro K Q st a w ρ σ hg h hn; exact h.elim
end
end Go.Vc
