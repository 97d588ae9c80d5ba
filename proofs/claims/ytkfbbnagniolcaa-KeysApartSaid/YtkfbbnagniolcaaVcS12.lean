/- Results of calls: laid into the abstract state. -/
import Derived.Test.YtkfbbnagniolcaaVcC
set_option linter.unusedSectionVars false
set_option linter.unusedSimpArgs false
set_option linter.unusedVariables false
namespace Go.Vc
open Go Go.RowKit

structure RowIn (P : Program) (w0 : W0) (w : World) (H : Heap) (r : NRow) : Prop where
  own : owns w w0 r.e (P.cellsOf r.e) r.s r.n r.xs
  one : ∀ x ∈ r.xs, x.oneCell' = true
  free : ∀ g, r.s.ownBlock = some g → ∀ o, H g o = none
section
variable {P : Program} {Γ : Tab} {w0 : W0} {w w' : World} {H0 H' : Heap} {st : St} {a : Act} {ρ : Nat → Nat} {σ : Nat → Value}
theorem ownsRow_mono {base base' : Nat} {e : TypeId} {size : Nat} {v : Value} {n : Nat} {xs : List Value} (h : w.ownsRow base e size v n xs) (hb : base' ≤ base) : w.ownsRow base' e size v n xs := by
  refine ⟨h.1, ?_⟩
  rcases h.2 with h | ⟨g, cap, cur, hv, hle, h⟩
  · exact .inl h
  · exact .inr ⟨g, cap, cur, hv, Nat.le_trans hb hle, h⟩
theorem ownsRow_form {base : Nat} {e : TypeId} {size : Nat} {v : Value} {n : Nat} {xs : List Value} (h : w.ownsRow base e size v n xs) : ∃ A m c, v = .slice A m c := by
  rcases h.2 with ⟨hv, _⟩ | ⟨g, cap, cur, hv, _⟩
  · exact ⟨_, _, _, hv⟩
  · exact ⟨_, _, _, hv⟩
/- a row that is in the world already, in no block of another object -/
theorem Good.addRow (hg : Good P w0 H0 st a w ρ σ) {d : Nat} (hf : fresh? st d = true) {r : NRow} (hr : RowIn P w0 w st.H r)
    (hsep : ∀ i f o g, st.L[i]? = some (some (f, o)) → blk ρ σ i o = some g → r.s.ownBlock ≠ some g) (hop : ∀ g, r.s.ownBlock = some g → st.O g = none) :
    Good P w0 H0 (Vc.setL st d (.row r.e r.n r.xs)) a w ρ (upd σ d r.s) := by
  have hn := fresh?_some hf
  have hlt : d < st.L.length := (List.getElem?_eq_some_iff.1 hn).1
  have hnr := hg.nr d hn
  refine Good.step hg _ d (.row r.e r.n r.xs) r.s.ownBlock (set_get hlt) (fun i hi => .inl ?_) (.inr ⟨hnr, fun _ _ => rfl, fun i hi => upd_ne _ _ hi⟩)
    (GrB.refl w _) (fun g h => ⟨(hr.own.lt g h).1, hr.free g h⟩) hop (fun i f o g hi h hb => ?_) ?_ ?_ (fun _ _ _ _ hh => hh) ?_
  · rw [List.getElem?_set_ne (Ne.symm hi)]
  · rw [List.getElem?_set_ne (Ne.symm hi)] at h
    exact hsep i f o g h hb
  · simp only [ObjOK, upd_same]
    exact ⟨hr.own, hr.one, hr.free⟩
  · intro g hb
    simp only [blk, upd_same] at hb
    exact .inr hb
  · intro i
    by_cases hi : i = d
    · subst hi; rw [upd_same]; exact ownsRow_form hr.own.row
    · rw [upd_ne _ _ hi]; exact hg.sl i

def SepR (st : St) (ρ : Nat → Nat) (σ : Nat → Value) (nr : List NRow) : Prop :=
  (∀ r ∈ nr, ∀ i f o g, st.L[i]? = some (some (f, o)) → blk ρ σ i o = some g → r.s.ownBlock ≠ some g) ∧ ∀ r ∈ nr, ∀ g, r.s.ownBlock = some g → st.O g = none
/- relations carried over the addition of objects under fresh numbers -/
def Carry (st : St) (σ σ' : Nat → Value) : Prop := ∀ i, st.L[i]? ≠ some none → σ' i = σ i
def noFresh1 (st : St) (c : S1) : Prop := ∀ d, st.L[d]? = some none → ¬ c.refs d
def noFreshL (st : St) (cs : List S1) : Prop := ∀ d, st.L[d]? = some none → ¬ refsL d cs
def Olds (st st' : St) : Prop := ∀ i : Nat, st.L[i]? ≠ some none → st'.L[i]? = st.L[i]?
theorem Olds.refl (st : St) : Olds st st := fun _ _ => rfl
theorem Carry.refl (st : St) (σ : Nat → Value) : Carry st σ σ := fun _ _ => rfl
theorem S1.rel_carry {σ' : Nat → Value} (h : Carry st σ σ') {c : S1} (hn : noFresh1 st c) {y : Value} (hr : c.rel ρ σ y) : c.rel ρ σ' y := by
  cases c <;> simp only [S1.rel] at hr ⊢ <;> try exact hr
  case oelt i j =>
    have := h i (fun e => hn i e rfl)
    rw [this]; exact hr
  case own i =>
    have := h i (fun e => hn i e rfl)
    rw [this]; exact hr
  case sub i l m sz =>
    have := h i (fun e => hn i e rfl)
    rw [this]; exact hr
  case pin i s =>
    have := h i (fun e => hn i e rfl)
    rw [this]; exact hr
theorem relL_carry {σ' : Nat → Value} (h : Carry st σ σ') : ∀ {cs : List S1} {ys : List Value}, noFreshL st cs → relL ρ σ cs ys → relL ρ σ' cs ys
  | [], [], _, _ => trivial
  | c :: _, _ :: _, hn, hr => ⟨S1.rel_carry h (fun d hd hh => hn d hd ⟨c, by simp, hh⟩) hr.1, relL_carry h (fun d hd ⟨x, hx, hh⟩ => hn d hd ⟨x, by simp [hx], hh⟩) hr.2⟩
  | [], _ :: _, _, hr => hr.elim
  | _ :: _, [], _, hr => hr.elim

theorem allL_sound : ∀ {ls : List Leaf} {R : Type} {p : PostL ls R} {st : St} {σ : Nat → Value} {K : List S1 → St → R → Prop} {K2 : List Value → List NRow → R → Prop} {nr : List NRow},
    Good P w0 H0 st a w ρ σ → allL ls p st K → exL ls p nr K2 → (∀ r ∈ nr, RowIn P w0 w st.H r) → apartRows nr → SepR st ρ σ nr →
    ∃ (cs : List S1) (st' : St) (q : R) (nr' : List NRow) (vs : List Value) (σ' : Nat → Value), K cs st' q ∧ K2 vs nr' q ∧ Good P w0 H0 st' a w ρ σ' ∧ relL ρ σ' cs vs ∧ Keeps [] st st' ∧ noFreshL st' cs ∧ (∀ d : Nat, st'.L[d]? = some none → st.L[d]? = some none) ∧
      Carry st σ σ' ∧ st'.H = st.H ∧ Olds st st' ∧ (∀ r ∈ nr', RowIn P w0 w st'.H r) ∧ apartRows nr' ∧ SepR st' ρ σ' nr'
  | [], R, p, st, σ, K, K2, nr, hg, h, h2, h3, h4, h5 =>
    ⟨[], st, p, nr, [], σ, h, h2, hg, trivial, Keeps.refl st, fun d _ ⟨x, hx, _⟩ => by simp at hx, fun _ h => h, Carry.refl st σ, rfl, Olds.refl st, h3, h4, h5⟩
  | l :: ls, R, p, st, σ, K, K2, nr, hg, h, h2, h3, h4, h5 => by
    have plainK : ∀ {p' : PostL ls R} (c : S1) (v : Value), (∀ ρ σ, S1.rel ρ σ c v) → (∀ d, ¬ c.refs d) → allL ls p' st (fun cs st q => K (c :: cs) st q) → exL ls p' nr (fun vs nr q => K2 (v :: vs) nr q) →
        ∃ (cs : List S1) (st' : St) (q : R) (nr' : List NRow) (vs : List Value) (σ' : Nat → Value), K cs st' q ∧ K2 vs nr' q ∧ Good P w0 H0 st' a w ρ σ' ∧ relL ρ σ' cs vs ∧ Keeps [] st st' ∧ noFreshL st' cs ∧ (∀ d : Nat, st'.L[d]? = some none → st.L[d]? = some none) ∧
          Carry st σ σ' ∧ st'.H = st.H ∧ Olds st st' ∧ (∀ r ∈ nr', RowIn P w0 w st'.H r) ∧ apartRows nr' ∧ SepR st' ρ σ' nr' := by
      intro p' c v hr hn ha he
      obtain ⟨cs, st', q, nr', vs, σ', k1, k2, k3, k4, k5, k6, k7, k8, k9, k10⟩ := allL_sound hg ha he h3 h4 h5
      refine ⟨c :: cs, st', q, nr', v :: vs, σ', k1, k2, k3, ⟨hr _ _, k4⟩, k5, ?_, k7, k8, k9, k10⟩
      rintro d hd ⟨x, hx, hh⟩
      rcases List.mem_cons.1 hx with rfl | hx
      · exact hn d hh
      · exact k6 d hd ⟨x, hx, hh⟩
    cases l with
    | int k => obtain ⟨n, h2⟩ := h2; exact plainK (.v (.int k n)) _ (fun _ _ => rfl) (fun _ hh => hh) (h n) h2
    | bool => obtain ⟨n, h2⟩ := h2; exact plainK (.b n) _ (fun _ _ => rfl) (fun _ hh => hh) (h n) h2
    | str => obtain ⟨n, h2⟩ := h2; exact plainK (.v (.string n)) _ (fun _ _ => rfl) (fun _ hh => hh) (h n) h2
    | sl => obtain ⟨A, n, c, h2⟩ := h2; exact plainK (.v (.slice A n c)) _ (fun _ _ => rfl) (fun _ hh => hh) (h A n c) h2
    | val => obtain ⟨v, _, h2⟩ := h2; exact plainK (.v v) _ (fun _ _ => rfl) (fun _ hh => hh) (h v) h2
    | cells => exact h.elim
    | row i e =>
      obtain ⟨r, nr1, rfl, rfl, h2⟩ := h2
      simp only [allL] at h
      split at h
      · rename_i hf
        have hn := fresh?_some hf
        have hlt := fresh_lt hf
        have hg1 := hg.addRow hf (h3 r (by simp)) (h5.1 r (by simp)) (h5.2 r (by simp))
        have hsep1 : SepR (Vc.setL st i (.row r.e r.n r.xs)) ρ (upd σ i r.s) nr1 := by
          refine ⟨fun r' hr' j f o g hj hb => ?_, fun r' hr' => h5.2 r' (by simp [hr'])⟩
          by_cases hji : j = i
          · subst hji
            simp only [Vc.setL] at hj
            rw [set_get hlt] at hj
            simp at hj
            obtain ⟨_, rfl⟩ := hj
            simp only [blk, upd_same] at hb
            exact fun hh => (List.pairwise_cons.1 h4).1 r' hr' g hb hh
          · rw [setL_keeps_other hji] at hj
            refine h5.1 r' (by simp [hr']) j f o g hj ?_
            cases o <;> simp only [blk] at hb ⊢ <;> try exact hb
            rw [upd_ne _ _ hji] at hb; exact hb
        obtain ⟨cs, st', q, nr', vs, σ', k1, k2, k3, k4, k5, k6, k7, k8, k9, k10⟩ := allL_sound hg1 (h r.n r.xs) h2 (fun r' hr' => h3 r' (by simp [hr'])) (List.pairwise_cons.1 h4).2 hsep1
        refine ⟨.own i :: cs, st', q, nr', r.s :: vs, σ', k1, k2, k3, ⟨?_, k4⟩, (Keeps.setL_fresh hf).trans k5, ?_, ?_, ?_, k9, ?_, k10.2⟩
        · show r.s = σ' i
          rw [k8 i (by simp only [Vc.setL]; rw [set_get hlt]; simp), upd_same]
        · rintro d hd ⟨x, hx, hh⟩
          rcases List.mem_cons.1 hx with rfl | hx
          · have hid : i = d := hh
            subst hid
            have := k7 i hd
            simp only [Vc.setL] at this
            rw [set_get hlt] at this
            simp at this
          · exact k6 d hd ⟨x, hx, hh⟩
        · intro d hd
          exact (set_none (k7 d hd) hlt).2
        · intro j hj
          have hji : j ≠ i := fun e => hj (e ▸ hn)
          rw [k8 j (by rw [setL_keeps_other hji]; exact hj), upd_ne _ _ hji]
        · intro j hj
          have hji : j ≠ i := fun e => hj (e ▸ hn)
          rw [k10.1 j (by rw [setL_keeps_other hji]; exact hj), setL_keeps_other hji]
      · exact h.elim
def noFreshT (st : St) (r : List (Bool × List S1)) : Prop := ∀ d, st.L[d]? = some none → ∀ x ∈ r, ¬ refsL d x.2
theorem relT_carry {σ' : Nat → Value} (h : Carry st σ σ') {g : Bool} {cs : List S1} {v : Value} (hn : noFreshL st cs) (hr : relT ρ σ [(g, cs)] [v]) : relT ρ σ' [(g, cs)] [v] := by
  cases g
  · exact ⟨relL_carry h hn hr.1, trivial⟩
  · obtain ⟨⟨zs, e, hz⟩, _⟩ := hr
    exact ⟨⟨zs, e, relL_carry h hn hz⟩, trivial⟩
theorem relT_cons {x : Bool × List S1} {r : List (Bool × List S1)} {v : Value} {us : List Value} (h : relT ρ σ [x] [v]) (hr : relT ρ σ r us) : relT ρ σ (x :: r) (v :: us) := by
  obtain ⟨g, cs⟩ := x
  cases g
  · exact ⟨h.1, hr⟩
  · exact ⟨h.1, hr⟩
theorem allR_sound : ∀ {ps : List (Bool × List Leaf)} {R : Type} {p : PostR ps R} {st : St} {σ : Nat → Value} {K : List (Bool × List S1) → St → R → Prop} {K2 : List Value → List NRow → R → Prop} {nr : List NRow},
    Good P w0 H0 st a w ρ σ → allR ps p st K → exR ps p nr K2 → (∀ r ∈ nr, RowIn P w0 w st.H r) → apartRows nr → SepR st ρ σ nr →
    ∃ (r : List (Bool × List S1)) (st' : St) (q : R) (nr' : List NRow) (us : List Value) (σ' : Nat → Value), K r st' q ∧ K2 us nr' q ∧ Good P w0 H0 st' a w ρ σ' ∧ relT ρ σ' r us ∧ Keeps [] st st' ∧ noFreshT st' r ∧ (∀ d : Nat, st'.L[d]? = some none → st.L[d]? = some none) ∧
      Carry st σ σ' ∧ st'.H = st.H ∧ Olds st st'
  | [], R, p, st, σ, K, K2, nr, hg, h, h2, h3, h4, h5 =>
    ⟨[], st, p, nr, [], σ, h, h2, hg, trivial, Keeps.refl st, fun d _ x hx => by simp at hx, fun _ h => h, Carry.refl st σ, rfl, Olds.refl st⟩
  | (g, ls) :: ps, R, p, st, σ, K, K2, nr, hg, h, h2, h3, h4, h5 => by
    obtain ⟨cs, st1, q1, nr1, vs, σ1, k1, ⟨v, hv, k2⟩, k3, k4, k5, k6, k7, k8, k9, k13, k10, k11, k12⟩ := allL_sound hg h h2 h3 h4 h5
    obtain ⟨r, st', q, nr', us, σ', j1, j2, j3, j4, j5, j6, j7, j8, j9, j10⟩ := allR_sound k3 k1 k2 k10 k11 k12
    refine ⟨(g, cs) :: r, st', q, nr', v :: us, σ', j1, j2, j3, relT_cons ?_ j4, k5.trans j5, ?_, fun d hd => k7 d (j7 d hd), ?_, j9.trans k9, ?_⟩
    · have hvv : relT ρ σ1 [(g, cs)] [v] := by
        cases g with
        | true =>
          simp [mkV] at hv; subst hv
          exact ⟨⟨⟨vs⟩, rfl, k4⟩, trivial⟩
        | false =>
          match vs, hv with
          | [x], hv =>
            simp [mkV] at hv; subst hv
            exact ⟨k4, trivial⟩
      exact relT_carry j8 k6 hvv
    · intro d hd x hx
      rcases List.mem_cons.1 hx with rfl | hx
      · exact k6 d (j7 d hd)
      · exact j6 d hd x hx
    · intro i hi
      rw [j8 i (fun e => hi (k7 i e)), k8 i hi]
    · intro i hi
      rw [j10 i (fun e => hi (k7 i e)), k13 i hi]
/- the result of a call, into its slot -/
theorem vcRes_sound (hg : Good P w0 H0 st a w ρ σ) {sh : RSh} {d : Option Tmp} {r : List (Bool × List S1)} {K : St → Prop} (h : vcRes sh d r st K) {us : List Value} {v : Value}
    (hr : relT ρ σ r us) (hn : noFreshT st r) (hv : if sh.tup then v = .tuple ⟨us⟩ else us = [v]) : ∃ st', K st' ∧ Keeps d.toList st st' ∧ Good P w0 H0 st' (a.put d v) w ρ σ ∧ st'.L = st.L := by
  unfold vcRes at h
  split at h
  · rename_i x hx
    refine ⟨_, h, Keeps.setS st d x, Good.setS hg d ?_ ?_, by cases d <;> rfl⟩
    · cases htup : sh.tup with
      | true =>
        rw [htup] at hx hv
        simp [mkRes] at hx; subst hx
        simp at hv; subst hv
        exact ⟨⟨us⟩, rfl, hr⟩
      | false =>
        rw [htup] at hx hv
        simp at hv; subst hv
        match r, hx, hr with
        | [(g, cs)], hx, hr =>
          simp only [mkRes] at hx
          cases g with
          | true =>
            simp [mkSV] at hx; subst hx
            exact hr.1
          | false =>
            match cs, hx, hr with
            | [c], hx, hr =>
              simp [mkSV] at hx; subst hx
              exact hr.1.1
    · intro d' hd'
      cases htup : sh.tup with
      | true =>
        rw [htup] at hx
        simp [mkRes] at hx; subst hx
        rintro ⟨x, hx, hh⟩
        exact hn d' hd' x hx hh
      | false =>
        rw [htup] at hx
        match r, hx, hn with
        | [(g, cs)], hx, hn =>
          simp only [mkRes] at hx
          cases g with
          | true =>
            simp [mkSV] at hx; subst hx
            exact hn d' hd' (true, cs) (by simp)
          | false =>
            match cs, hx, hn with
            | [c], hx, hn =>
              simp [mkSV] at hx; subst hx
              exact fun hh => hn d' hd' (false, [c]) (by simp) ⟨c, by simp, hh⟩
  · exact h.elim
end
end Go.Vc
