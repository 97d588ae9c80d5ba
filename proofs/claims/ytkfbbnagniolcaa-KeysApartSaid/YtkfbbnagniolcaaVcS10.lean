/- What makes and writes memory: each operation. -/
import Derived.Test.YtkfbbnagniolcaaVcS9
set_option linter.unusedSectionVars false
set_option linter.unusedSimpArgs false
set_option linter.unusedVariables false
namespace Go.Vc
open Go Go.RowKit

section
variable {P : Program} {Γ : Tab} {w0 : W0} {w : World} {H0 : Heap} {st : St} {a : Act} {ρ : Nat → Nat} {σ : Nat → Value}
variable (hT : TabOK P Γ) (hg : Good P w0 H0 st a w ρ σ)
def isBA : LObj → Bool
  | .box _ _ => true
  | .arr _ _ => true
  | _ => false
/- boxes stay what and where they were, X apart -/
structure Goes (X : Nat → Prop) (st st' : St) (ρ ρ' : Nat → Nat) (w w' : World) : Prop where
  stay : ∀ (i : Nat) (f : Bool) (o : LObj), st.L[i]? = some (some (f, o)) → isBA o = true → ¬ X i → ∃ f', st'.L[i]? = some (some (f', o))
  rho : ∀ (i : Nat) (f : Bool) (o : LObj), st.L[i]? = some (some (f, o)) → isBA o = true → ¬ X i → ρ' i = ρ i
  heap : ∀ (i : Nat) (f : Bool) (o : LObj), st.L[i]? = some (some (f, o)) → isBA o = true → ¬ X i → w'.heap[ρ i]? = w.heap[ρ i]?
def noX : Nat → Prop := fun _ => False
theorem Goes.refl {X : Nat → Prop} (st : St) (ρ : Nat → Nat) (w : World) : Goes X st st ρ ρ w w := ⟨fun _ f _ h _ _ => ⟨f, h⟩, fun _ _ _ _ _ _ => rfl, fun _ _ _ _ _ _ => rfl⟩
theorem Goes.mono {X Y : Nat → Prop} {st st' : St} {ρ ρ' : Nat → Nat} {w w' : World} (h : Goes X st st' ρ ρ' w w') (hs : ∀ i, X i → Y i) : Goes Y st st' ρ ρ' w w' :=
  ⟨fun i f o h1 h2 h3 => h.stay i f o h1 h2 fun hh => h3 (hs i hh), fun i f o h1 h2 h3 => h.rho i f o h1 h2 fun hh => h3 (hs i hh), fun i f o h1 h2 h3 => h.heap i f o h1 h2 fun hh => h3 (hs i hh)⟩
theorem Goes.any {X : Nat → Prop} {st st' : St} {ρ ρ' : Nat → Nat} {w w' : World} (h : Goes noX st st' ρ ρ' w w') : Goes X st st' ρ ρ' w w' := h.mono fun _ hh => hh.elim
theorem Goes.trans {X : Nat → Prop} {st st' st'' : St} {ρ ρ' ρ'' : Nat → Nat} {w w' w'' : World} (h : Goes X st st' ρ ρ' w w') (k : Goes X st' st'' ρ' ρ'' w' w'') : Goes X st st'' ρ ρ'' w w'' := by
  refine ⟨fun i f o h1 h2 hx => ?_, fun i f o h1 h2 hx => ?_, fun i f o h1 h2 hx => ?_⟩
  · obtain ⟨f', h3⟩ := h.stay i f o h1 h2 hx
    exact k.stay i f' o h3 h2 hx
  · obtain ⟨f', h3⟩ := h.stay i f o h1 h2 hx
    exact (k.rho i f' o h3 h2 hx).trans (h.rho i f o h1 h2 hx)
  · obtain ⟨f', h3⟩ := h.stay i f o h1 h2 hx
    have := k.heap i f' o h3 h2 hx
    rw [h.rho i f o h1 h2 hx] at this
    exact this.trans (h.heap i f o h1 h2 hx)
theorem blk_BA {ρ : Nat → Nat} {σ : Nat → Value} {i : Nat} {o : LObj} (h : isBA o = true) : blk ρ σ i o = some (ρ i) := by
  cases o <;> first | rfl | (simp [isBA] at h)
theorem Goes.of (hg : Good P w0 H0 st a w ρ σ) {st' : St} {ρ' : Nat → Nat} {w' : World} {ch : Option Nat} (hL : ∀ i : Nat, st'.L[i]? = st.L[i]? ∨ st.L[i]? = some none ∨ ∃ (f : Bool) (e : TypeId) (n : Nat) (xs : List Value), st.L[i]? = some (some (f, LObj.row e n xs)))
    (hρ : ∀ i : Nat, st.L[i]? ≠ some none → ρ' i = ρ i) (hw : GrB w w' ch) (hch : ∀ g, ch = some g → ∃ (k : Nat) (f : Bool) (e : TypeId) (n : Nat) (xs : List Value), st.L[k]? = some (some (f, .row e n xs)) ∧ (σ k).ownBlock = some g) :
    Goes noX st st' ρ ρ' w w' := by
  refine ⟨fun i f o h1 h2 _ => ?_, fun i f o h1 h2 _ => hρ i (by rw [h1]; simp), fun i f o h1 h2 _ => ?_⟩
  · rcases hL i with h | h | ⟨f', e, n, xs, h⟩
    · exact ⟨f, by rw [h]; exact h1⟩
    · rw [h1] at h; simp at h
    · rw [h1] at h; simp at h; rw [h.2] at h2; simp [isBA] at h2
  · have hb := blk_BA (ρ := ρ) (σ := σ) (i := i) h2
    refine hw.block _ (hg.blk_lt h1 hb).1 (fun e => ?_)
    obtain ⟨k, f', e', n, xs, k1, k2⟩ := hch _ e.symm
    have hne : i ≠ k := by
      rintro rfl
      rw [h1] at k1; simp at k1; rw [k1.2] at h2; simp [isBA] at h2
    exact hg.sep i k f f' o (.row e' n xs) _ hne h1 k1 hb k2
/- what an operation that makes or writes memory comes to -/
def EfOK (P : Program) (w0 : W0) (H0 : Heap) (st : St) (a : Act) (w : World) (ρ : Nat → Nat) (o : Oper) (K : St → Prop) : Prop :=
  ∃ nx v w' st' ρ' σ', (execOp a.eval o).run P w = .ok nx w' ∧ (nx = .value v ∨ (nx = .skip ∧ v = undef)) ∧ K st' ∧ Keeps o.dst.toList st st' ∧
    Good P w0 H0 st' (a.put o.dst v) w' ρ' σ' ∧ Goes (fun i => stTgt st o.op = some i) st st' ρ ρ' w w'

theorem set_none {st : St} {d d' : Nat} {o : LObj} (h : (Vc.setL st d o).L[d']? = some none) (hl : d < st.L.length) : d' ≠ d ∧ st.L[d']? = some none := by
  simp only [Vc.setL] at h
  by_cases hd : d' = d
  · subst hd
    rw [set_get hl] at h
    simp at h
  · rw [List.getElem?_set_ne (Ne.symm hd)] at h
    exact ⟨hd, h⟩
theorem fresh_lt {d : Nat} (hf : fresh? st d = true) : d < st.L.length := (List.getElem?_eq_some_iff.1 (fresh?_some hf)).1
theorem toVs_v (xs : List Value) : toVs (xs.map S1.v) = some xs := by
  induction xs with
  | nil => rfl
  | cons x xs ih => simp [toVs, S1.toV, ih]
include hg in
theorem vcNew_sound {d : Nat} {t : TypeId} {i : TyI} {cs : List S1} {K : St → Prop} {ys : Array Value} (h : vcNew st d t i cs K) (hf : fresh? st d = true)
    (hr : relL ρ σ cs ys.toList) (href : ∀ d', st.noRef d' → ¬ refsL d' cs) (h1 : ∀ y ∈ ys.toList, y.oneCell' = true) :
    ∃ st', K st' ∧ Keeps [d] st st' ∧ Good P w0 H0 st' (a.put (some d) (.pointer (some ⟨w.heap.size, 0, none⟩))) (w.alloc (.cells ys t)) (upd ρ d w.heap.size) σ ∧ Goes noX st st' ρ (upd ρ d w.heap.size) w (w.alloc (.cells ys t)) := by
  have hlt := fresh_lt hf
  have hn := fresh?_some hf
  have key : ∀ o', ((∃ cs, o' = .box t cs ∧ relL ρ σ cs ys.toList ∧ ∀ d', st.noRef d' → ¬ refsL d' cs) ∨ (o' = .arr t ys.toList ∧ ∀ y ∈ ys.toList, y.oneCell' = true)) →
      K (Vc.setS (Vc.setL st d o') (some d) (.one (.loc d 0))) → ∃ st', K st' ∧ Keeps [d] st st' ∧ Good P w0 H0 st' (a.put (some d) (.pointer (some ⟨w.heap.size, 0, none⟩))) (w.alloc (.cells ys t)) (upd ρ d w.heap.size) σ ∧ Goes noX st st' ρ (upd ρ d w.heap.size) w (w.alloc (.cells ys t)) := by
    intro o' ho hK
    refine ⟨_, hK, ?_, ?_, Goes.of (ch := none) hg (fun i => ?_) (fun i hi => upd_ne _ _ (fun e => hi (e ▸ hn))) (GrB.alloc w _ none) (by simp)⟩
    · exact ((Keeps.setL_fresh hf).mono (by simp)).trans (Keeps.setS _ (some d) _)
    · refine Good.setS (hg.newObj hf t ys o' ho) (some d) ?_ ?_
      · simp only [SV.rel, S1.rel, upd_same]
      · intro d' hd' hh
        exact (set_none hd' hlt).1 hh.symm
    · by_cases hi : i = d
      · subst hi; exact .inr (.inl hn)
      · left
        simp only [Vc.setS, Vc.setL]
        rw [List.getElem?_set_ne (Ne.symm hi)]
  unfold vcNew at h
  split at h
  · split at h
    · rename_i vs hvs
      have := toVs_rel hvs hr
      subst this
      exact key _ (.inr ⟨rfl, h1⟩) h
    · exact h.elim
  · exact key _ (.inl ⟨cs, rfl, hr, href⟩) h
include hg in
theorem Good.pub {i : Nat} {e : TypeId} {n : Nat} {xs : List Value} (h : getW st i = some (.row e n xs)) :
    ∃ A c H', Heap.le st.H H' ∧ Cells H' A 0 xs ∧ leN n c ∧ Good P w0 H0 (Vc.setL { st with H := H' } i (.pub A n c)) a w ρ σ := by
  have hL := getW_some h
  have hlt : i < st.L.length := (List.getElem?_eq_some_iff.1 hL).1
  obtain ⟨hrow, h1, hfree⟩ := hg.obj _ _ _ hL
  have fin : ∀ A c H', σ i = .slice A n c → Heap.le st.H H' → (∀ b, (∀ g, (σ i).ownBlock = some g → b ≠ g) → ∀ o, H' b o = st.H b o) → Snap H' w →
      Good P w0 H0 (Vc.setL { st with H := H' } i (.pub A n c)) a w ρ σ := by
    intro A c H' hs hle hoff hsnap
    have hget : ∀ j, j ≠ i → (st.L.set i (some (true, LObj.pub A n c)))[j]? = st.L[j]? := fun j hj => List.getElem?_set_ne (Ne.symm hj)
    refine ⟨hg.defers, hg.size, hg.fr, hg.below, Heap.le_trans hg.le hle, fun b hb o => ?_, hsnap, fun j f o hj => ?_, fun j k f f' o o' g hjk hj hk hb => ?_, fun d hd => ?_, hg.sl, fun b e n c hb => ?_⟩
    rotate_right
    · obtain ⟨⟨k1, k2, k4⟩, k5⟩ := hg.opn b e n c hb
      refine ⟨⟨k1, k2, fun t ht => ?_⟩, fun j f o hj => ?_⟩
      · rw [show (Vc.setL { st with H := H' } i (.pub A _ _)).H b t = H' b t from rfl, hoff b (fun g hg' e => k5 i _ _ hL (by simp only [blk]; rw [hg', e])) t]
        exact k4 t ht
      · by_cases hji : j = i
        · subst hji
          simp only [Vc.setL] at hj
          rw [set_get hlt] at hj
          simp at hj
          obtain ⟨_, rfl⟩ := hj
          simp [blk]
        · simp only [Vc.setL] at hj
          rw [hget j hji] at hj
          exact k5 j f o hj
    · simp only [Vc.setL]
      rw [hoff b (fun g hg' => ?_) o]
      · exact hg.old b hb o
      · intro e; subst e
        exact hb (hg.blk_lt hL hg').2.1
    · simp only [Vc.setL] at hj ⊢
      by_cases hji : j = i
      · subst hji
        rw [set_get hlt] at hj
        simp at hj
        obtain ⟨_, rfl⟩ := hj
        exact hs
      · rw [hget j hji] at hj
        have ho := hg.obj _ _ _ hj
        have hne : ∀ b, blk ρ σ j o = some b → ∀ g, (σ i).ownBlock = some g → b ≠ g := by
          intro b hb g hg' e
          subst e
          exact hg.sep j i f true o _ b hji hj hL hb hg'
        cases o <;> simp only [ObjOK] at ho ⊢
        case box t cs =>
          obtain ⟨ys, q1, q2, q3, q4⟩ := ho
          exact ⟨ys, q1, q2, q3, fun o => by rw [hoff _ (hne _ rfl)]; exact q4 o⟩
        case arr t ys =>
          obtain ⟨q1, q2, q3, q4⟩ := ho
          exact ⟨q1, q2, q3, fun o => by rw [hoff _ (hne _ rfl)]; exact q4 o⟩
        case row e' n' xs' =>
          obtain ⟨q1, q2, q3⟩ := ho
          exact ⟨q1, q2, fun g hg' o => by rw [hoff _ (hne _ hg')]; exact q3 g hg' o⟩
        case pub A' n' c' => exact ho
    · simp only [Vc.setL] at hj hk
      have hjp : j = i → False := by
        intro e; subst e
        rw [set_get hlt] at hj
        simp at hj
        obtain ⟨_, rfl⟩ := hj
        simp [blk] at hb
      rw [hget j hjp] at hj
      by_cases hki : k = i
      · subst hki
        rw [set_get hlt] at hk
        simp at hk
        obtain ⟨_, rfl⟩ := hk
        simp [blk]
      · rw [hget k hki] at hk
        exact hg.sep j k f f' o o' g hjk hj hk hb
    · obtain ⟨hdi, hd'⟩ := set_none (st := st) hd hlt
      have hn := hg.nr d hd'
      refine ⟨hn.fr, fun j f o hj => ?_⟩
      simp only [Vc.setL] at hj
      by_cases hji : j = i
      · subst hji
        rw [set_get hlt] at hj
        simp at hj
        obtain ⟨_, rfl⟩ := hj
        exact fun hh => hh
      · rw [hget j hji] at hj
        exact hn.obj j f o hj
  rcases hrow.row.2 with ⟨hs, h0⟩ | ⟨g, cap, cur, hs, hle, hb, hnc, hcm, hcs, htake⟩
  · subst h0
    have hx : xs = [] := List.eq_nil_of_length_eq_zero (by simpa using hrow.row.1)
    subst hx
    exact ⟨none, 0, st.H, Heap.le_refl _, .inl rfl, Nat.le_refl _, fin _ _ _ hs (Heap.le_refl _) (fun _ _ _ => rfl) hg.snap⟩
  · have hob : (σ i).ownBlock = some g := by rw [hs]; rfl
    have hfg := hfree g hob
    refine ⟨some ⟨g, 0, none⟩, cap, fun b o => if b = g then xs[o]? else st.H b o, ?_, ?_, hnc, ?_⟩
    · intro b o v hv
      have : b ≠ g := fun e => by subst e; rw [hfg] at hv; simp at hv
      simp [this, hv]
    · exact .inr ⟨g, 0, rfl, fun t v hv => ⟨by simpa using hv, h1 v (List.mem_of_getElem? hv)⟩⟩
    · refine fin _ _ _ hs ?_ ?_ ?_
      · intro b o v hv
        have : b ≠ g := fun e => by subst e; rw [hfg] at hv; simp at hv
        simp [this, hv]
      · intro b hbn o
        have := hbn g hob
        simp [this]
      · intro b o v hv
        simp only at hv
        split at hv
        · rename_i e; subst e
          exact row_cells hrow hs o v hv
        · exact hg.snap _ _ _ hv
theorem vcPubs_sound : ∀ {is : List Nat} {st : St} {K : St → Prop}, Good P w0 H0 st a w ρ σ → vcPubs K is st → ∃ st', K st' ∧ Keeps [] st st' ∧ Good P w0 H0 st' a w ρ σ ∧ Goes noX st st' ρ ρ w w
  | [], st, K, hg, h => ⟨st, h, Keeps.refl st, hg, Goes.refl _ _ _⟩
  | i :: is, st, K, hg, h => by
    simp only [vcPubs, vcPub] at h
    split at h
    · rename_i e n xs hW
      obtain ⟨A, c, H', h1, h2, h3, h4⟩ := hg.pub hW
      obtain ⟨st', q1, q2, q3, q4⟩ := vcPubs_sound h4 (h A c H' h1 h2 h3)
      refine ⟨st', q1, ?_, q3, Goes.trans (Goes.of (ch := none) hg (fun j => ?_) (fun _ _ => rfl) (GrB.refl w none) (by simp)) q4⟩
      rotate_left
      · by_cases hj : j = i
        · subst hj; exact .inr (.inr ⟨_, _, _, _, getW_some hW⟩)
        · left
          simp only [Vc.setL]
          rw [List.getElem?_set_ne (Ne.symm hj)]
      have hk : Keeps [] st (Vc.setL { st with H := H' } i (.pub A n c)) := by
        have := Keeps.setL_w (o := LObj.pub A n c) hW
        exact ⟨this.fl, this.ll, this.fr, this.ro, h1⟩
      exact hk.trans q2
    · exact vcPubs_sound hg h
    · exact h.elim
end
end Go.Vc
