/- How the relation between abstract states and the machine's is kept. -/
import Derived.Test.YtkfbbnagniolcaaVcS7
set_option linter.unusedSectionVars false
set_option linter.unusedSimpArgs false
set_option linter.unusedVariables false
namespace Go.Vc
open Go Go.RowKit

structure Keeps (ws : List Nat) (st st' : St) : Prop where
  fl : st'.fr.length = st.fr.length
  ll : st'.L.length = st.L.length
  fr : ∀ j, j ∉ ws → st'.fr[j]? = st.fr[j]?
  ro : ∀ (i : Nat) (o : LObj), st.L[i]? = some (some (false, o)) → st'.L[i]? = some (some (false, o))
  le : Heap.le st.H st'.H
theorem Heap.le_refl (H : Heap) : Heap.le H H := fun _ _ _ h => h
theorem Heap.le_trans {A B C : Heap} (h : Heap.le A B) (k : Heap.le B C) : Heap.le A C := fun _ _ _ x => k _ _ _ (h _ _ _ x)
theorem Keeps.refl (st : St) : Keeps [] st st := ⟨rfl, rfl, fun _ _ => rfl, fun _ _ h => h, Heap.le_refl _⟩
theorem Keeps.mono {ws ws' : List Nat} {st st' : St} (h : Keeps ws st st') (hs : ∀ x ∈ ws, x ∈ ws') : Keeps ws' st st' :=
  ⟨h.fl, h.ll, fun j hj => h.fr j (fun hh => hj (hs j hh)), h.ro, h.le⟩
theorem Keeps.trans {ws : List Nat} {st st' st'' : St} (h : Keeps ws st st') (k : Keeps ws st' st'') : Keeps ws st st'' :=
  ⟨k.fl.trans h.fl, k.ll.trans h.ll, fun j hj => (k.fr j hj).trans (h.fr j hj), fun i o hh => k.ro i o (h.ro i o hh), Heap.le_trans h.le k.le⟩
theorem Keeps.setS (st : St) (d : Option Tmp) (x : SV) : Keeps d.toList st (setS st d x) := by
  cases d with
  | none => exact Keeps.refl st
  | some d =>
    refine ⟨by simp [Vc.setS], rfl, fun j hj => ?_, fun _ _ h => h, Heap.le_refl _⟩
    have : d ≠ j := fun e => hj (by simp [e])
    simp [Vc.setS, List.getElem?_set_ne this]

section
variable {P : Program} {w0 : W0} {w w' : World} {H0 : Heap} {st : St} {a : Act} {ρ ρ' : Nat → Nat} {σ σ' : Nat → Value}
theorem S1.rel_of {d : Nat} (hρ : ∀ i, i ≠ d → ρ' i = ρ i) (hσ : ∀ i, i ≠ d → σ' i = σ i) {c : S1} {y : Value} (hn : ¬ c.refs d) (h : c.rel ρ σ y) : c.rel ρ' σ' y := by
  cases c <;> simp only [S1.rel, S1.refs] at h hn ⊢ <;> try exact h
  case loc i off => rw [hρ i hn]; exact h
  case aelt i off => rw [hρ i hn]; exact h
  case oelt i j => rw [hσ i hn]; exact h
  case own i => rw [hσ i hn]; exact h
  case sub i l m sz => rw [hσ i hn]; exact h
  case pin i s => rw [hσ i hn]; exact h
theorem relL_of {d : Nat} (hρ : ∀ i, i ≠ d → ρ' i = ρ i) (hσ : ∀ i, i ≠ d → σ' i = σ i) : ∀ {cs : List S1} {ys : List Value}, ¬ refsL d cs → relL ρ σ cs ys → relL ρ' σ' cs ys
  | [], [], _, _ => trivial
  | c :: _, _ :: _, hn, h => ⟨S1.rel_of hρ hσ (fun hh => hn ⟨c, by simp, hh⟩) h.1, relL_of hρ hσ (fun ⟨x, hx, hh⟩ => hn ⟨x, by simp [hx], hh⟩) h.2⟩
  | [], _ :: _, _, h => h.elim
  | _ :: _, [], _, h => h.elim
theorem relT_of {d : Nat} (hρ : ∀ i, i ≠ d → ρ' i = ρ i) (hσ : ∀ i, i ≠ d → σ' i = σ i) : ∀ {cs : List (Bool × List S1)} {ys : List Value}, (¬ ∃ x ∈ cs, refsL d x.2) → relT ρ σ cs ys → relT ρ' σ' cs ys
  | [], [], _, _ => trivial
  | (true, c) :: cs, _ :: _, hn, h => by
    obtain ⟨⟨zs, e, hz⟩, h2⟩ := h
    exact ⟨⟨zs, e, relL_of hρ hσ (fun hh => hn ⟨(true, c), by simp, hh⟩) hz⟩, relT_of hρ hσ (fun ⟨x, hx, hh⟩ => hn ⟨x, by simp [hx], hh⟩) h2⟩
  | (false, c) :: cs, _ :: _, hn, h => ⟨relL_of hρ hσ (fun hh => hn ⟨(false, c), by simp, hh⟩) h.1, relT_of hρ hσ (fun ⟨x, hx, hh⟩ => hn ⟨x, by simp [hx], hh⟩) h.2⟩
  | [], _ :: _, _, h => h.elim
  | (true, _) :: _, [], _, h => h.elim
  | (false, _) :: _, [], _, h => h.elim
theorem SV.rel_of {d : Nat} (hρ : ∀ i, i ≠ d → ρ' i = ρ i) (hσ : ∀ i, i ≠ d → σ' i = σ i) {x : SV} {y : Value} (hn : ¬ x.refs d) (h : x.rel ρ σ y) : x.rel ρ' σ' y := by
  cases x <;> simp only [SV.rel, SV.refs] at h hn ⊢
  case one x => exact S1.rel_of hρ hσ hn h
  case agg cs => obtain ⟨ys, e, hr⟩ := h; exact ⟨ys, e, relL_of hρ hσ hn hr⟩
  case clo f cap => obtain ⟨ys, e, hr⟩ := h; exact ⟨ys, e, relL_of hρ hσ hn hr⟩
  case tup cs => obtain ⟨ys, e, hr⟩ := h; exact ⟨ys, e, relT_of hρ hσ hn hr⟩

theorem Good.blk_lt (hg : Good P w0 H0 st a w ρ σ) {i : Nat} {f : Bool} {o : LObj} {g : Nat} (h : st.L[i]? = some (some (f, o))) (hb : blk ρ σ i o = some g) : g < w.heap.size ∧ w0.nw (g) ∧ ∀ k, st.H g k = none := by
  have ho := hg.obj _ _ _ h
  cases o <;> simp only [blk] at hb <;> simp only [ObjOK] at ho
  case box t cs =>
    obtain ⟨ys, h1, h2, h3, h4⟩ := ho
    simp at hb; subst hb
    exact ⟨(Array.getElem?_eq_some_iff.1 h1).1, h3, h4⟩
  case arr t xs =>
    obtain ⟨h1, h2, h3, h4⟩ := ho
    simp at hb; subst hb
    exact ⟨(Array.getElem?_eq_some_iff.1 h1).1, h3, h4⟩
  case row e n xs =>
    obtain ⟨h1, h2, h3⟩ := ho
    have := h1.lt g hb
    exact ⟨this.2, this.1, h3 g hb⟩
  all_goals simp at hb
theorem Good.H_lt (hg : Good P w0 H0 st a w ρ σ) {b o : Nat} {v : Value} (h : st.H b o = some v) : b < w.heap.size := World.block_lt_of_cell? w ⟨b, o, none⟩ (hg.snap _ _ _ h)
theorem Good.setS (hg : Good P w0 H0 st a w ρ σ) (d : Option Tmp) {r : SV} {v : Value} (hr : r.rel ρ σ v) (hn : ∀ d', st.L[d']? = some none → ¬ r.refs d') : Good P w0 H0 (setS st d r) (a.put d v) w ρ σ := by
  cases d with
  | none => exact hg
  | some d =>
    refine ⟨hg.defers, by simp [Act.put, Vc.setS, hg.size], fun i x hx => ?_, hg.below, hg.le, hg.old, hg.snap, hg.obj, hg.sep, fun d' hd => ⟨fun j x hx => ?_, (hg.nr d' hd).obj⟩, hg.sl, hg.opn⟩
    · simp only [Vc.setS] at hx
      simp only [Act.put]
      by_cases hij : d = i
      · subst hij
        rw [List.getElem?_set_self'] at hx
        cases hl : st.fr[d]? with
        | none => rw [hl] at hx; simp at hx
        | some y =>
          rw [hl] at hx
          simp at hx; subst hx
          have hlt : d < a.tmps.size := by rw [hg.size]; exact (List.getElem?_eq_some_iff.1 hl).1
          simp [Array.getD_eq_getD_getElem?, hlt, hr]
      · rw [List.getElem?_set_ne hij] at hx
        have := hg.fr i x hx
        simpa [Array.getD_eq_getD_getElem?, Array.getElem?_setIfInBounds_ne hij] using this
    · simp only [Vc.setS] at hx
      by_cases hij : d = j
      · subst hij
        rw [List.getElem?_set_self'] at hx
        cases hl : st.fr[d]? with
        | none => rw [hl] at hx; simp at hx
        | some y =>
          rw [hl] at hx
          simp at hx; subst hx
          exact hn d' hd
      · rw [List.getElem?_set_ne hij] at hx
        exact (hg.nr d' hd).fr j x hx

theorem Good.noOpen (hg : Good P w0 H0 st a w ρ σ) {i : Nat} {f : Bool} {o : LObj} {g : Nat} (h : st.L[i]? = some (some (f, o))) (hb : blk ρ σ i o = some g) : st.O g = none := by
  cases hO : st.O g with
  | none => rfl
  | some x =>
    obtain ⟨e, n, c⟩ := x
    exact absurd hb ((hg.opn g e n c hO).2 i f o h)
/- the world moves on: an object d is new or changed, others may die; block 'ch' alone of the old ones has changed -/
theorem Good.step (hg : Good P w0 H0 st a w ρ σ) (L' : List (Option Ent)) (d : Nat) (o' : LObj) (ch : Option Nat)
    (hd : L'[d]? = some (some (true, o'))) (hL : ∀ i, i ≠ d → L'[i]? = st.L[i]? ∨ L'[i]? = some (some (true, .dead)))
    (hρσ : (ρ' = ρ ∧ σ' = σ) ∨ (st.noRef d ∧ (∀ i, i ≠ d → ρ' i = ρ i) ∧ (∀ i, i ≠ d → σ' i = σ i)))
    (hw : GrB w w' ch) (hch : ∀ g, ch = some g → w0.nw (g) ∧ ∀ o, st.H g o = none)
    (hopn : ∀ g, ch = some g → st.O g = none)
    (hchO : ∀ i f o g, i ≠ d → L'[i]? = some (some (f, o)) → blk ρ σ i o = some g → ch ≠ some g)
    (hobj : ObjOK P w0 w' st.H ρ' σ' d o') (hblk : ∀ g, blk ρ' σ' d o' = some g → w.heap.size ≤ g ∨ ch = some g)
    (href : ∀ d', d' ≠ d → st.L[d']? = some none → st.noRef d' → ¬ o'.refs d') (hsl : ∀ i, ∃ A n c, σ' i = .slice A n c) :
    Good P w0 H0 { st with L := L' } a w' ρ' σ' := by
  have hrel : ∀ {x : SV} {y : Value}, (st.noRef d → ¬ x.refs d) → x.rel ρ σ y → x.rel ρ' σ' y := by
    intro x y hn h
    rcases hρσ with ⟨rfl, rfl⟩ | ⟨hnr, h1, h2⟩
    · exact h
    · exact SV.rel_of h1 h2 (hn hnr) h
  have hrelL : ∀ {cs : List S1} {ys : List Value}, (st.noRef d → ¬ refsL d cs) → relL ρ σ cs ys → relL ρ' σ' cs ys := by
    intro x y hn h
    rcases hρσ with ⟨rfl, rfl⟩ | ⟨hnr, h1, h2⟩
    · exact h
    · exact relL_of h1 h2 (hn hnr) h
  have hρ : ∀ i, i ≠ d → ρ' i = ρ i := by
    rcases hρσ with ⟨rfl, rfl⟩ | ⟨hnr, h1, h2⟩
    · exact fun _ _ => rfl
    · exact h1
  have hσ : ∀ i, i ≠ d → σ' i = σ i := by
    rcases hρσ with ⟨rfl, rfl⟩ | ⟨hnr, h1, h2⟩
    · exact fun _ _ => rfl
    · exact h2
  have hblkeq : ∀ i o, i ≠ d → blk ρ' σ' i o = blk ρ σ i o := by
    intro i o hi
    cases o <;> simp only [blk] <;> simp [hρ i hi, hσ i hi]
  have hkeep : ∀ b, b < w.heap.size → ch ≠ some b → w'.heap[b]? = w.heap[b]? := fun b hb hne => hw.block b hb (fun e => hne e.symm)
  have hobjs : ∀ i f o, i ≠ d → L'[i]? = some (some (f, o)) → ObjOK P w0 w' st.H ρ' σ' i o := by
    intro i f o hi h
    rcases hL i hi with he | he
    · have h' := h
      rw [he] at h'
      have ho := hg.obj i f o h'
      have hnc := hchO i f o
      cases o <;> simp only [ObjOK] at ho ⊢
      case box t cs =>
        obtain ⟨ys, h1, h2, h3, h4⟩ := ho
        rw [hρ i hi]
        exact ⟨ys, (hkeep _ (Array.getElem?_eq_some_iff.1 h1).1 (hnc _ hi h rfl)).trans h1, hrelL (fun hn => hn.obj _ _ _ h') h2, h3, h4⟩
      case arr t xs =>
        obtain ⟨h1, h2, h3, h4⟩ := ho
        rw [hρ i hi]
        exact ⟨(hkeep _ (Array.getElem?_eq_some_iff.1 h1).1 (hnc _ hi h rfl)).trans h1, h2, h3, h4⟩
      case row e n xs =>
        obtain ⟨h1, h2, h3⟩ := ho
        rw [hσ i hi]
        refine ⟨?_, h2, h3⟩
        refine h1.kept hw.togrownBy ?_
        cases hb : (σ i).ownBlock with
        | none => exact .inl rfl
        | some g => exact .inr (fun e => hnc g hi h hb e.symm)
      case pub A n c => rw [hσ i hi]; exact ho
    · rw [he] at h
      simp at h
      obtain ⟨_, rfl⟩ := h
      trivial
  refine ⟨hg.defers, hg.size, fun i x hx => hrel (fun hn => hn.fr _ _ hx) (hg.fr i x hx), ?_, hg.le, hg.old, fun b o v hv => ?_, fun i f o h => ?_, fun i j f f' o o' g hij h h' hb => ?_, fun d' hd' => ⟨fun j x hx => ?_, fun j f o ho => ?_⟩, hsl, fun b e n c hb => ?_⟩
  · exact hg.below.grown hw.togrownBy hw.drawn (fun k hk => (hch k hk).1)
  · have hlt := hg.H_lt hv
    rw [World.cell?_of_block (hkeep b hlt (fun e => by have := (hch b e).2 o; rw [hv] at this; simp at this))]
    exact hg.snap _ _ _ hv
  · by_cases hi : i = d
    · subst hi
      simp only at h
      rw [hd] at h
      simp at h
      obtain ⟨_, rfl⟩ := h
      exact hobj
    · exact hobjs i f o hi h
  · -- separation
    have hold : ∀ i f o g, i ≠ d → L'[i]? = some (some (f, o)) → blk ρ σ i o = some g → g < w.heap.size := by
      intro i f o g hi h hb
      rcases hL i hi with he | he
      · rw [he] at h; exact (hg.blk_lt h hb).1
      · rw [he] at h; simp at h; obtain ⟨_, rfl⟩ := h; simp [blk] at hb
    simp only at h h'
    by_cases hi : i = d
    · subst hi
      have hj : j ≠ i := Ne.symm hij
      rw [hd] at h
      simp at h
      obtain ⟨_, rfl⟩ := h
      rw [hblkeq j o' hj]
      intro hb'
      have h1 := hold j f' o' g hj h' hb'
      rcases hblk g hb with h2 | h2
      · omega
      · exact hchO j f' o' g hj h' hb' h2
    · rw [hblkeq i o hi] at hb
      by_cases hj : j = d
      · subst hj
        rw [hd] at h'
        simp at h'
        obtain ⟨_, rfl⟩ := h'
        intro hb'
        have h1 := hold i f o g hi h hb
        rcases hblk g hb' with h2 | h2
        · omega
        · exact hchO i f o g hi h hb h2
      · rw [hblkeq j o' hj]
        rcases hL i hi with he | he
        · rcases hL j hj with he' | he'
          · rw [he] at h; rw [he'] at h'
            exact hg.sep i j f f' o o' g hij h h' hb
          · rw [he'] at h'; simp at h'; obtain ⟨_, rfl⟩ := h'; simp [blk]
        · rw [he] at h; simp at h; obtain ⟨_, rfl⟩ := h; simp [blk] at hb
  · have hne : d' ≠ d := fun e => by subst e; simp only at hd'; rw [hd] at hd'; simp at hd'
    have hn : st.noRef d' := hg.nr d' (by
      rcases hL d' hne with he | he
      · rw [← he]; exact hd'
      · simp only at hd'; rw [he] at hd'; simp at hd')
    exact hn.fr j x hx
  · have hne : d' ≠ d := fun e => by subst e; simp only at hd'; rw [hd] at hd'; simp at hd'
    have hfr : st.L[d']? = some none := by
      rcases hL d' hne with he | he
      · rw [← he]; exact hd'
      · simp only at hd'; rw [he] at hd'; simp at hd'
    have hn : st.noRef d' := hg.nr d' hfr
    by_cases hj : j = d
    · subst hj
      simp only at ho
      rw [hd] at ho
      simp at ho
      obtain ⟨_, rfl⟩ := ho
      exact href d' hne hfr hn
    · rcases hL j hj with he | he
      · simp only at ho; rw [he] at ho; exact hn.obj j f o ho
      · simp only at ho; rw [he] at ho; simp at ho; obtain ⟨_, rfl⟩ := ho; exact fun hh => hh
  · simp only at hb
    obtain ⟨⟨k1, ⟨cur, k2, k3⟩, k4⟩, k5⟩ := hg.opn b e n c hb
    have hlt : b < w.heap.size := (Array.getElem?_eq_some_iff.1 k2).1
    have hne : ch ≠ some b := fun h => by have := hopn b h; rw [hb] at this; cases this
    refine ⟨⟨k1, ⟨cur, (hkeep b hlt hne).trans k2, k3⟩, k4⟩, fun i f o h => ?_⟩
    simp only at h
    by_cases hi : i = d
    · subst hi
      rw [hd] at h
      simp at h
      obtain ⟨_, rfl⟩ := h
      intro h'
      rcases hblk b h' with h2 | h2
      · omega
      · exact hne h2
    · rw [hblkeq i o hi]
      rcases hL i hi with he | he
      · rw [he] at h; exact k5 i f o h
      · rw [he] at h; simp at h; obtain ⟨_, rfl⟩ := h; simp [blk]
end
end Go.Vc
