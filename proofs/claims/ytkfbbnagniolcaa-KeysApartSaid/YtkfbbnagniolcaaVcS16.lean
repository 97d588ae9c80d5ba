/- Loops: the state at the head. -/
import Derived.Test.YtkfbbnagniolcaaVcS15
set_option linter.unusedSectionVars false
set_option linter.unusedSimpArgs false
set_option linter.unusedVariables false
namespace Go.Vc
open Go Go.RowKit

structure LI (P : Program) (w0 : W0) (H0 : Heap) (a : Act) (w : World) (ρ : Nat → Nat) (σ : Nat → Value) (S st3 bs : St) (σ' : Nat → Value) (cst : St) : Prop where
  good : Good P w0 H0 bs a w ρ σ'
  dies : Dies S cst
  H : bs.H = S.H
  fl : bs.fr.length = S.fr.length
  ll : bs.L.length = S.L.length
  src : ∀ (j : Nat) (f : Bool) (o : LObj) (g : Nat), bs.L[j]? = some (some (f, o)) → blk ρ σ' j o = some g →
    ∃ (j' : Nat) (f' : Bool) (o' : LObj), S.L[j']? = some (some (f', o')) ∧ blk ρ σ j' o' = some g ∧ ((j' = j ∧ ¬ isDead st3 j') ∨ isDead cst j')
  ole : ∀ b : Nat, bs.O b ≠ none → S.O b = bs.O b
  sg : ∀ (j : Nat) (f : Bool), bs.L[j]? = some (some (f, .dead)) → σ' j = σ j
section
variable {P : Program} {Γ : Tab} {w0 : W0} {w w' : World} {H0 H' : Heap} {a : Act} {ρ : Nat → Nat} {σ : Nat → Value} {an : Ann} {S st3 : St}
theorem LI.noOpen {bs cst : St} {σ' : Nat → Value} (li : LI P w0 H0 a w ρ σ S st3 bs σ' cst) (hS : Good P w0 H0 S a w ρ σ) {i : Nat} {f : Bool} {o : LObj} {g : Nat} (h : S.L[i]? = some (some (f, o))) (hb : blk ρ σ i o = some g) : bs.O g = none := by
  cases hO : bs.O g with
  | none => rfl
  | some x =>
    have h1 := li.ole g (by rw [hO]; simp)
    rw [hS.noOpen h hb, hO] at h1; cases h1
theorem takeRow_sound (hS : Good P w0 H0 S a w ρ σ) {bs cst cst' : St} {σ' : Nat → Value} (li : LI P w0 H0 a w ρ σ S st3 bs σ' cst) {e : TypeId} {c : S1} {y : Value} {n : Nat} {xs : List Value}
    (h : takeRow cst e c = some (n, xs, cst')) (hr : c.rel ρ σ y) (hfin : ∀ k, isDead cst' k → isDead st3 k) {i : Nat} (hf : fresh? bs i = true) :
    LI P w0 H0 a w ρ σ S st3 (setL bs i (.row e n xs)) (upd σ' i y) cst' := by
  have hlt := fresh_lt hf
  have core : ∀ (r : NRow), r.e = e → r.n = n → r.xs = xs → r.s = y → RowIn P w0 w bs.H r → Dies cst cst' →
      (∀ g, y.ownBlock = some g → ∃ (k : Nat) (e' : TypeId) (m : Nat) (zs : List Value), S.L[k]? = some (some (true, .row e' m zs)) ∧ blk ρ σ k (.row e' m zs) = some g ∧ isDead cst' k ∧ ¬ isDead cst k) →
      LI P w0 H0 a w ρ σ S st3 (setL bs i (.row e n xs)) (upd σ' i y) cst' := by
    rintro r rfl rfl rfl rfl hin hd hk
    have hop : ∀ g, r.s.ownBlock = some g → bs.O g = none := fun g hh => by
      obtain ⟨k, e', m, zs, k1, k2, _⟩ := hk g hh
      exact li.noOpen hS k1 k2
    refine ⟨li.good.addRow hf hin ?_ hop, li.dies.trans hd, li.H, li.fl, by simpa [setL] using li.ll, ?_, li.ole, fun j f hj => ?_⟩
    rotate_right
    · by_cases hji : j = i
      · subst hji
        simp only [setL] at hj
        rw [set_get hlt] at hj
        simp at hj
      · rw [setL_keeps_other hji] at hj
        rw [upd_ne _ _ hji]
        exact li.sg j f hj
    · intro j f o g hj hb hh
      obtain ⟨k, e', m, zs, k1, k2, k3, k4⟩ := hk g hh
      obtain ⟨j', f', o', h1, h2, h3⟩ := li.src j f o g hj hb
      have hne : j' ≠ k := by
        rintro rfl
        rcases h3 with ⟨_, h3⟩ | h3
        · exact h3 (hfin _ k3)
        · exact k4 h3
      exact hS.sep j' k f' true o' _ g hne h1 k1 h2 k2
    · intro j f o g hj hb
      by_cases hji : j = i
      · subst hji
        simp only [setL] at hj
        rw [set_get hlt] at hj
        simp at hj
        obtain ⟨_, rfl⟩ := hj
        simp only [blk, upd_same] at hb
        obtain ⟨k, e', m, zs, k1, k2, k3, k4⟩ := hk g hb
        exact ⟨k, _, _, k1, k2, .inr k3⟩
      · rw [setL_keeps_other hji] at hj
        have hb' : blk ρ σ' j o = some g := by
          cases o <;> simp only [blk] at hb ⊢ <;> try exact hb
          rw [upd_ne _ _ hji] at hb; exact hb
        obtain ⟨j', f', o', h1, h2, h3⟩ := li.src j f o g hj hb'
        exact ⟨j', f', o', h1, h2, h3.imp id fun h => hd.keeps h⟩
  have hdies := takeRow_dies h
  unfold takeRow at h
  split at h
  · rename_i k
    split at h
    · rename_i e' n' xs' hW
      split at h
      · rename_i he
        subst he
        simp at h
        obtain ⟨rfl, rfl, rfl⟩ := h
        have hyk : y = σ k := hr
        subst hyk
        have hc := getW_some hW
        have hSk : S.L[k]? = some (some (true, .row e' n' xs')) := li.dies.back hc (by simp)
        obtain ⟨q1, q2, q3⟩ := hS.obj _ _ _ hSk
        have hkl : k < cst.L.length := (List.getElem?_eq_some_iff.1 hc).1
        refine core ⟨σ k, e', n', xs'⟩ rfl rfl rfl rfl ⟨q1, q2, fun g hg o => by rw [li.H]; exact q3 g hg o⟩ hdies ?_
        intro g hg
        refine ⟨k, e', n', xs', hSk, hg, ?_, ?_⟩
        · simp only [isDead, setL]; exact set_get hkl
        · intro hh; unfold isDead at hh; rw [hc] at hh; simp at hh
      · simp at h
    · simp at h
  · rename_i k l m sz
    split at h
    · split at h
      · rename_i e' n' xs' hW
        split at h
        · rename_i he
          subst he
          simp at h
          obtain ⟨rfl, rfl, rfl⟩ := h
          obtain ⟨A, n0, c0, hs, hle, hy⟩ : ∃ A n c, σ k = .slice A n c ∧ 0 + m ≤ n ∧ y = .slice (subA A c 0 sz) m (c - 0) := hr
          subst hy
          have hc := getW_some hW
          have hSk : S.L[k]? = some (some (true, .row e' n' xs')) := li.dies.back hc (by simp)
          obtain ⟨q1, q2, q3⟩ := hS.obj _ _ _ hSk
          have hn : n' = n0 := by
            rcases q1.row.2 with ⟨hv', h0⟩ | ⟨g, cap, cur, hv', _⟩
            · rw [hs] at hv'; simp at hv'; omega
            · rw [hs] at hv'; simp at hv'; exact hv'.2.1.symm
          subst hn
          have hkl : k < cst.L.length := (List.getElem?_eq_some_iff.1 hc).1
          rw [hs] at q1
          obtain ⟨c1, c2, c3⟩ := owns_cut (sz2 := sz) q1 (by omega : m ≤ n')
          have hb : ∀ g, (Value.slice (subA A c0 0 sz) m (c0 - 0)).ownBlock = some g → (σ k).ownBlock = some g := fun g hg => by rw [hs, ← c2]; exact hg
          refine core ⟨_, e', m, cutR xs' n' m⟩ rfl rfl rfl rfl ⟨c1, fun x hx => q2 x (c3 x hx), fun g hg o => by rw [li.H]; exact q3 g (hb g hg) o⟩ hdies ?_
          intro g hg
          refine ⟨k, e', n', xs', hSk, hb g hg, ?_, ?_⟩
          · simp only [isDead, setL]; exact set_get hkl
          · intro hh; unfold isDead at hh; rw [hc] at hh; simp at hh
        · simp at h
      · simp at h
    · simp at h
  · simp at h
    obtain ⟨rfl, rfl, rfl⟩ := h
    have hy : y = .slice none 0 0 := hr
    subst hy
    exact core ⟨.slice none 0 0, e, 0, []⟩ rfl rfl rfl rfl ⟨owns.nil w w0 e (P.cellsOf e), by simp, by simp [Value.ownBlock]⟩ hdies (by simp [Value.ownBlock])
  · simp at h
theorem asInt_rel {k : IntKind} {c : S1} {n : Int} {y : Value} (h : c.asInt k = some n) (hr : c.rel ρ σ y) : y = .int k n := by
  unfold S1.asInt at h
  split at h
  · split at h
    · rename_i hk; subst hk; simp at h; subst h; exact hr
    · simp at h
  · simp at h
theorem asStr_rel {c : S1} {n : ByteArray} {y : Value} (h : c.asStr = some n) (hr : c.rel ρ σ y) : y = .string n := by
  unfold S1.asStr at h
  split at h
  · simp at h; subst h; exact hr
  · simp at h
theorem asSl_rel {c : S1} {A : Option Addr} {n m : Nat} {y : Value} (h : c.asSl = some (A, n, m)) (hr : c.rel ρ σ y) : y = .slice A n m := by
  unfold S1.asSl at h
  split at h
  · simp at h; obtain ⟨rfl, rfl, rfl⟩ := h; exact hr
  · simp at h
theorem asVal_rel {c : S1} {v : Value} {y : Value} (h : c.asVal = some v) (hr : c.rel ρ σ y) : y = v := by
  unfold S1.asVal at h
  split at h
  · exact S1.toV_rel h hr
  · simp at h
theorem keeps_setL_fresh {st : St} {i : Nat} {o : LObj} (h : fresh? st i = true) : Keeps [] st (setL st i o) := Keeps.setL_fresh h

theorem headL_sound (hS : Good P w0 H0 S a w ρ σ) : ∀ {ls : List Leaf} {R : Type} {p : PostL ls R} {cs : List S1} {ys : List Value} {bs cst cst' : St} {σ' : Nat → Value} {q : R} {K : List S1 → St → R → Prop},
    LI P w0 H0 a w ρ σ S st3 bs σ' cst → allL ls p bs K → colL ls p cs cst = some (q, cst') → relL ρ σ cs ys → (∀ k, isDead cst' k → isDead st3 k) →
    ∃ (cs' : List S1) (bs' : St) (σ'' : Nat → Value), K cs' bs' q ∧ LI P w0 H0 a w ρ σ S st3 bs' σ'' cst' ∧ relL ρ σ'' cs' ys ∧ noFreshL bs' cs' ∧ (∀ d : Nat, bs'.L[d]? = some none → bs.L[d]? = some none) ∧
      Carry bs σ' σ'' ∧ Keeps [] bs bs'
  | [], R, p, cs, ys, bs, cst, cst', σ', q, K, li, h, hc, hr, hfin => by
    cases cs with
    | nil =>
      simp [colL] at hc
      obtain ⟨rfl, rfl⟩ := hc
      have hr' : relL ρ σ' [] ys := by
        cases ys with
        | nil => trivial
        | cons _ _ => exact hr.elim
      exact ⟨[], bs, σ', h, li, hr', fun d _ ⟨x, hx, _⟩ => by simp at hx, fun _ h => h, Carry.refl _ _, Keeps.refl _⟩
    | cons _ _ => simp [colL] at hc
  | l :: ls, R, p, cs, ys, bs, cst, cst', σ', q, K, li, h, hc, hr, hfin => by
    cases cs with
    | nil => cases l <;> simp [colL] at hc
    | cons c cs =>
      cases ys with
      | nil => exact hr.elim
      | cons y ys =>
        have plainK : ∀ {p' : PostL ls R} (c' : S1), (∀ ρ σ, S1.rel ρ σ c' y) → (∀ d, ¬ c'.refs d) → allL ls p' bs (fun cs st q => K (c' :: cs) st q) → colL ls p' cs cst = some (q, cst') →
            ∃ (cs' : List S1) (bs' : St) (σ'' : Nat → Value), K cs' bs' q ∧ LI P w0 H0 a w ρ σ S st3 bs' σ'' cst' ∧ relL ρ σ'' cs' (y :: ys) ∧ noFreshL bs' cs' ∧ (∀ d : Nat, bs'.L[d]? = some none → bs.L[d]? = some none) ∧
              Carry bs σ' σ'' ∧ Keeps [] bs bs' := by
          intro p' c' h1 h2 ha hcc
          obtain ⟨cs', bs', σ'', k1, k2, k3, k4, k5, k6, k7⟩ := headL_sound hS li ha hcc hr.2 hfin
          refine ⟨c' :: cs', bs', σ'', k1, k2, ⟨h1 _ _, k3⟩, ?_, k5, k6, k7⟩
          rintro d hd ⟨x, hx, hh⟩
          rcases List.mem_cons.1 hx with rfl | hx
          · exact h2 d hh
          · exact k4 d hd ⟨x, hx, hh⟩
        cases l with
        | cells => simp [colL] at hc
        | int k =>
          simp only [colL] at hc
          split at hc
          · rename_i n hn
            have := asInt_rel hn hr.1
            subst this
            exact plainK (.v (.int k n)) (fun _ _ => rfl) (fun _ hh => hh) (h n) hc
          · simp at hc
        | bool =>
          simp only [colL] at hc
          split at hc
          · rename_i n hn
            have := S1.asB_rel hn hr.1
            subst this
            exact plainK (.b n) (fun _ _ => rfl) (fun _ hh => hh) (h n) hc
          · simp at hc
        | str =>
          simp only [colL] at hc
          split at hc
          · rename_i n hn
            have := asStr_rel hn hr.1
            subst this
            exact plainK (.v (.string n)) (fun _ _ => rfl) (fun _ hh => hh) (h n) hc
          · simp at hc
        | sl =>
          simp only [colL] at hc
          split at hc
          · rename_i A n m hn
            have := asSl_rel hn hr.1
            subst this
            exact plainK (.v (.slice A n m)) (fun _ _ => rfl) (fun _ hh => hh) (h A n m) hc
          · simp at hc
        | val =>
          simp only [colL] at hc
          split at hc
          · rename_i v hn
            have := asVal_rel hn hr.1
            subst this
            exact plainK (.v y) (fun _ _ => rfl) (fun _ hh => hh) (h y) hc
          · simp at hc
        | row i e =>
          simp only [colL] at hc
          split at hc
          · rename_i n xs st1 ht
            simp only [allL] at h
            split at h
            · rename_i hf
              have hn := fresh?_some hf
              have hlt := fresh_lt hf
              have hd2 := colL_dies hc
              have li1 := takeRow_sound hS li ht hr.1 (fun k hk => hfin k (hd2.keeps hk)) hf
              obtain ⟨cs', bs', σ'', k1, k2, k3, k4, k5, k6, k7⟩ := headL_sound hS li1 (h n xs) hc hr.2 hfin
              refine ⟨.own i :: cs', bs', σ'', k1, k2, ⟨?_, k3⟩, ?_, ?_, ?_, (keeps_setL_fresh hf).trans k7⟩
              · show y = σ'' i
                rw [k6 i (by simp only [setL]; rw [set_get hlt]; simp), upd_same]
              · rintro d hd ⟨x, hx, hh⟩
                rcases List.mem_cons.1 hx with rfl | hx
                · have hid : i = d := hh
                  subst hid
                  have := k5 i hd
                  simp only [setL] at this
                  rw [set_get hlt] at this
                  simp at this
                · exact k4 d hd ⟨x, hx, hh⟩
              · intro d hd
                exact (set_none (k5 d hd) hlt).2
              · intro j hj
                have hji : j ≠ i := fun e => hj (e ▸ hn)
                rw [k6 j (by rw [setL_keeps_other hji]; exact hj), upd_ne _ _ hji]
            · exact h.elim
          · simp at hc

/- what the head's making keeps -/
structure KeepI (is : List Item) (bs bs' : St) : Prop where
  fl : bs'.fr.length = bs.fr.length
  ll : bs'.L.length = bs.L.length
  H : bs'.H = bs.H
  fr : ∀ j, j ∉ itemSlots is → bs'.fr[j]? = bs.fr[j]?
  ro : ∀ (i : Nat) (o : LObj), i ∉ itemBoxes is → bs.L[i]? = some (some (false, o)) → bs'.L[i]? = some (some (false, o))
theorem headI_sound (hS : Good P w0 H0 S a w ρ σ) (hst3 : Dies S st3) : ∀ {is : List Item} {R : Type} {p : PostI is R} {bs cst : St} {σ' : Nat → Value} {q : R} {K : St → R → Prop},
    LI P w0 H0 a w ρ σ S st3 bs σ' cst → allI is p bs K → colI is p cst = some (q, st3) →
    ∃ (bs' : St) (σ'' : Nat → Value), K bs' q ∧ Good P w0 H0 bs' a w ρ σ'' ∧ KeepI is bs bs'
  | [], R, p, bs, cst, σ', q, K, li, h, hc => by
    simp [colI] at hc
    obtain ⟨rfl, rfl⟩ := hc
    exact ⟨bs, σ', h, li.good, rfl, rfl, rfl, fun _ _ => rfl, fun _ _ _ h => h⟩
  | .slot d g ls :: is, R, p, bs, cst, σ', q, K, li, h, hc => by
    have hgc : Good P w0 H0 cst a w ρ σ := hS.dies li.dies
    simp only [colI] at hc
    simp only [allI] at h
    split at hc
    · rename_i x hx
      have hxr := resV_rel hgc.obj (hgc.fr d x hx)
      have hlt : d < a.tmps.size := by rw [hgc.size]; exact (List.getElem?_eq_some_iff.1 hx).1
      have key : ∀ {cs : List S1} {ys : List Value} {q1 : PostI is R} {st1 : St}, colL ls p cs cst = some (q1, st1) → colI is q1 st1 = some (q, st3) → relL ρ σ cs ys →
          (∀ cs' σ'' x', relL ρ σ'' cs' ys → mkSV g cs' = some x' → x'.rel ρ σ'' (a.tmps.getD d undef)) →
          ∃ (bs' : St) (σ'' : Nat → Value), K bs' q ∧ Good P w0 H0 bs' a w ρ σ'' ∧ KeepI (.slot d g ls :: is) bs bs' := by
        intro cs ys q1 st1 h1 h2 hr hmk
        obtain ⟨cs', bs1, σ1, k1, k2, k3, k4, k5, k6, k7⟩ := headL_sound hS li h h1 hr (fun k hk => (colI_dies h2).keeps hk)
        split at k1
        · rename_i x' hx'
          have hg1 := Good.setS k2.good (some d) (hmk _ _ _ k3 hx') (fun d' hd' hh => by
            refine k4 d' hd' ?_
            cases g with
            | true => simp [mkSV] at hx'; subst hx'; exact hh
            | false =>
              match cs', hx', hh with
              | [c], hx', hh => simp [mkSV] at hx'; subst hx'; exact ⟨c, by simp, hh⟩)
          rw [put_same rfl hlt] at hg1
          have li2 : LI P w0 H0 a w ρ σ S st3 (setS bs1 (some d) x') σ1 st1 := ⟨hg1, k2.dies, k2.H, by simpa [setS] using k2.fl, k2.ll, k2.src, k2.ole, k2.sg⟩
          obtain ⟨bs', σ'', j1, j2, j3⟩ := headI_sound hS hst3 li2 k1 h2
          refine ⟨bs', σ'', j1, j2, ?_, j3.ll.trans k7.ll, j3.H.trans (k2.H.trans li.H.symm), fun j hj => ?_, fun i o hi ho => ?_⟩
          · have := j3.fl
            simp [setS] at this
            rw [this]; exact k7.fl
          · simp [itemSlots] at hj
            rw [j3.fr j hj.2]
            simp only [setS]
            rw [List.getElem?_set_ne (Ne.symm hj.1)]
            exact k7.fr j (by simp)
          · exact j3.ro i o hi (k7.ro i o ho)
        · exact k1.elim
      split at hc
      · rename_i cs hres
        split at hc
        · rename_i q1 st1 h1
          rw [hres] at hxr
          obtain ⟨ys, hy, hr⟩ := hxr
          refine key h1 hc hr ?_
          intro cs' σ'' x' hr' hx'
          simp [mkSV] at hx'; subst hx'
          exact ⟨ys, hy, hr'⟩
        · simp at hc
      · rename_i c hres
        split at hc
        · rename_i q1 st1 h1
          rw [hres] at hxr
          refine key (ys := [a.tmps.getD d undef]) h1 hc ⟨hxr, trivial⟩ ?_
          intro cs' σ'' x' hr' hx'
          match cs', hr', hx' with
          | [c'], hr', hx' => simp [mkSV] at hx'; subst hx'; exact hr'.1
        · simp at hc
      · simp at hc
    · simp at hc
  | .box i t ls :: is, R, p, bs, cst, σ', q, K, li, h, hc => by
    have hgc : Good P w0 H0 cst a w ρ σ := hS.dies li.dies
    simp only [colI] at hc
    simp only [allI] at h
    split at hc
    · rename_i t' cs hW
      split at hc
      · rename_i ht
        subst ht
        split at hc
        · rename_i q1 st1 h1
          have hci := getW_some hW
          have hSi : S.L[i]? = some (some (true, .box t' cs)) := li.dies.back hci (by simp)
          obtain ⟨ys, y1, y2, y3, y4⟩ := hgc.obj _ _ _ hci
          obtain ⟨cs', bs1, σ1, k1, k2, k3, k4, k5, k6, k7⟩ := headL_sound hS li h h1 (resL_rel hgc.obj y2) (fun k hk => (colI_dies hc).keeps hk)
          have hil : i < bs1.L.length := by rw [k2.ll]; exact (List.getElem?_eq_some_iff.1 hSi).1
          have hne : ∀ (j : Nat) (f : Bool) (o : LObj) (g : Nat), j ≠ i → bs1.L[j]? = some (some (f, o)) → blk ρ σ1 j o = some g → g ≠ ρ i := by
            intro j f o g hj hL hb e
            subst e
            obtain ⟨j', f', o', h1, h2, h3⟩ := k2.src j f o _ hL hb
            have hji : j' ≠ i := by
              rcases h3 with ⟨rfl, _⟩ | h3
              · exact hj
              · rintro rfl
                have := k2.dies.box hSi (by simp)
                unfold isDead at h3
                rw [this] at h3
                simp at h3
            exact hS.sep j' i f' true o' _ _ hji h1 hSi h2 rfl
          have hg2 : Good P w0 H0 (setL bs1 i (.box t' cs')) a w ρ σ1 := by
            refine Good.step k2.good _ i (.box t' cs') (some (ρ i)) (set_get hil) (fun j hj => .inl (List.getElem?_set_ne (Ne.symm hj))) (.inl ⟨rfl, rfl⟩) (GrB.refl w _) (fun g hg => ?_) (fun g hg => by simp at hg; subst hg; exact k2.noOpen hS hSi rfl) (fun j f o g hj hL hb e => ?_) ?_ ?_ ?_ k2.good.sl
            · simp at hg; subst hg
              exact ⟨y3, fun o => by rw [k2.H, ← li.dies.H]; exact y4 o⟩
            · rw [List.getElem?_set_ne (Ne.symm hj)] at hL
              simp at e
              exact hne j f o g hj hL hb e.symm
            · exact ⟨ys, y1, k3, y3, fun o => by rw [k2.H, ← li.dies.H]; exact y4 o⟩
            · intro g hb; exact .inr hb
            · intro d' _ hd' _ hh
              exact k4 d' hd' hh
          have li2 : LI P w0 H0 a w ρ σ S st3 (setL bs1 i (.box t' cs')) σ1 st1 := by
            refine ⟨hg2, k2.dies, k2.H, k2.fl, by simpa [setL] using k2.ll, fun j f o g hL hb => ?_, k2.ole, fun j f hj => ?_⟩
            rotate_right
            · by_cases hji : j = i
              · subst hji
                simp only [setL] at hj
                rw [set_get hil] at hj
                simp at hj
              · rw [setL_keeps_other hji] at hj
                exact k2.sg j f hj
            by_cases hj : j = i
            · subst hj
              simp only [setL] at hL
              rw [set_get hil] at hL
              simp at hL
              obtain ⟨_, rfl⟩ := hL
              refine ⟨j, _, _, hSi, hb, .inl ⟨rfl, fun hd => ?_⟩⟩
              have := hst3.box hSi (by simp)
              unfold isDead at hd
              rw [this] at hd
              simp at hd
            · rw [setL_keeps_other hj] at hL
              exact k2.src j f o g hL hb
          obtain ⟨bs', σ'', j1, j2, j3⟩ := headI_sound hS hst3 li2 k1 hc
          refine ⟨bs', σ'', j1, j2, j3.fl.trans k7.fl, ?_, j3.H.trans (k2.H.trans li.H.symm), fun j hj => (j3.fr j hj).trans (k7.fr j (by simp)), fun j o hj ho => ?_⟩
          · have := j3.ll
            simp [setL] at this
            rw [this]; exact k7.ll
          · simp [itemBoxes] at hj
            exact j3.ro j o hj.2 (by rw [setL_keeps_other hj.1]; exact k7.ro j o ho)
        · simp at hc
      · simp at hc
    · simp at hc
  | .arr i t :: is, R, p, bs, cst, σ', q, K, li, h, hc => by
    have hgc : Good P w0 H0 cst a w ρ σ := hS.dies li.dies
    simp only [colI] at hc
    simp only [allI] at h
    split at hc
    · rename_i t' xs hW
      split at hc
      · rename_i ht
        subst ht
        have hci := getW_some hW
        have hSi : S.L[i]? = some (some (true, .arr t' xs)) := li.dies.back hci (by simp)
        obtain ⟨y1, y2, y3, y4⟩ := hgc.obj _ _ _ hci
        have hil : i < bs.L.length := by rw [li.ll]; exact (List.getElem?_eq_some_iff.1 hSi).1
        have hne : ∀ (j : Nat) (f : Bool) (o : LObj) (g : Nat), j ≠ i → bs.L[j]? = some (some (f, o)) → blk ρ σ' j o = some g → g ≠ ρ i := by
          intro j f o g hj hL hb e
          subst e
          obtain ⟨j', f', o', h1, h2, h3⟩ := li.src j f o _ hL hb
          have hji : j' ≠ i := by
            rcases h3 with ⟨rfl, _⟩ | h3
            · exact hj
            · rintro rfl
              have := li.dies.box hSi (by simp)
              unfold isDead at h3
              rw [this] at h3
              simp at h3
          exact hS.sep j' i f' true o' _ _ hji h1 hSi h2 rfl
        have hg2 : Good P w0 H0 (setL bs i (.arr t' xs)) a w ρ σ' := by
          refine Good.step li.good _ i (.arr t' xs) (some (ρ i)) (set_get hil) (fun j hj => .inl (List.getElem?_set_ne (Ne.symm hj))) (.inl ⟨rfl, rfl⟩) (GrB.refl w _) (fun g hg => ?_) (fun g hg => by simp at hg; subst hg; exact li.noOpen hS hSi rfl) (fun j f o g hj hL hb e => ?_) ?_ ?_ ?_ li.good.sl
          · simp at hg; subst hg
            exact ⟨y3, fun o => by rw [li.H, ← li.dies.H]; exact y4 o⟩
          · rw [List.getElem?_set_ne (Ne.symm hj)] at hL
            simp at e
            exact hne j f o g hj hL hb e.symm
          · exact ⟨y1, y2, y3, fun o => by rw [li.H, ← li.dies.H]; exact y4 o⟩
          · intro g hb; exact .inr hb
          · intro d' _ hd' _ hh
            exact hh
        have li2 : LI P w0 H0 a w ρ σ S st3 (setL bs i (.arr t' xs)) σ' cst := by
          refine ⟨hg2, li.dies, li.H, li.fl, by simpa [setL] using li.ll, fun j f o g hL hb => ?_, li.ole, fun j f hj => ?_⟩
          rotate_right
          · by_cases hji : j = i
            · subst hji
              simp only [setL] at hj
              rw [set_get hil] at hj
              simp at hj
            · rw [setL_keeps_other hji] at hj
              exact li.sg j f hj
          by_cases hj : j = i
          · subst hj
            simp only [setL] at hL
            rw [set_get hil] at hL
            simp at hL
            obtain ⟨_, rfl⟩ := hL
            refine ⟨j, _, _, hSi, hb, .inl ⟨rfl, fun hd => ?_⟩⟩
            have := hst3.box hSi (by simp)
            unfold isDead at hd
            rw [this] at hd
            simp at hd
          · rw [setL_keeps_other hj] at hL
            exact li.src j f o g hL hb
        obtain ⟨bs', σ'', j1, j2, j3⟩ := headI_sound hS hst3 li2 (h xs) hc
        refine ⟨bs', σ'', j1, j2, j3.fl, ?_, j3.H, fun j hj => j3.fr j hj, fun j o hj ho => ?_⟩
        · have := j3.ll
          simpa [setL] using this
        · simp [itemBoxes] at hj
          exact j3.ro j o hj.2 (by rw [setL_keeps_other hj.1]; exact ho)
      · simp at hc
    · simp at hc
  | .rowc i e :: is, R, p, bs, cst, σ', q, K, li, h, hc => by
    simp only [colI] at hc
    simp only [allI] at h
    split at hc
    · rename_i e' n xs hW
      split at hc
      · rename_i he
        subst he
        split at h
        · rename_i hdd
          obtain ⟨fd, hfd⟩ := getL_some hdd
          have hσ : σ' i = σ i := li.sg i fd hfd
          have hci := getW_some hW
          have hSi : S.L[i]? = some (some (true, .row e' n xs)) := li.dies.back hci (by simp)
          obtain ⟨y1, y2, y3⟩ := hS.obj _ _ _ hSi
          have hil : i < bs.L.length := (List.getElem?_eq_some_iff.1 hfd).1
          have hkl : i < cst.L.length := (List.getElem?_eq_some_iff.1 hci).1
          have hne : ∀ (j : Nat) (f : Bool) (o : LObj) (g : Nat), j ≠ i → bs.L[j]? = some (some (f, o)) → blk ρ σ' j o = some g → (σ i).ownBlock ≠ some g := by
            intro j f o g hj hL hb e
            obtain ⟨j', f', o', h1, h2, h3⟩ := li.src j f o _ hL hb
            have hji : j' ≠ i := by
              rcases h3 with ⟨rfl, _⟩ | h3
              · exact hj
              · rintro rfl
                unfold isDead at h3
                rw [hci] at h3
                simp at h3
            exact hS.sep j' i f' true o' _ _ hji h1 hSi h2 e
          have hobj : ObjOK P w0 w bs.H ρ σ' i (.row e' n xs) := by
            simp only [ObjOK, hσ]
            exact ⟨y1, y2, fun g hg o => by rw [li.H]; exact y3 g hg o⟩
          have hg2 : Good P w0 H0 (setL bs i (.row e' n xs)) a w ρ σ' := by
            refine Good.step li.good _ i (.row e' n xs) (σ i).ownBlock (set_get hil) (fun j hj => .inl (List.getElem?_set_ne (Ne.symm hj))) (.inl ⟨rfl, rfl⟩) (GrB.refl w _) (fun g hg => ?_) (fun g hg => li.noOpen hS hSi hg) (fun j f o g hj hL hb e => ?_) hobj ?_ ?_ li.good.sl
            · exact ⟨(y1.lt g hg).1, fun o => by rw [li.H]; exact y3 g hg o⟩
            · rw [List.getElem?_set_ne (Ne.symm hj)] at hL
              exact hne j f o g hj hL hb e
            · intro g hb
              simp only [blk, hσ] at hb
              exact .inr hb
            · intro d' _ hd' _ hh
              exact hh
          have hkill : Dies cst (setL cst i .dead) := Dies.kill hW
          have li2 : LI P w0 H0 a w ρ σ S st3 (setL bs i (.row e' n xs)) σ' (setL cst i .dead) := by
            refine ⟨hg2, li.dies.trans hkill, li.H, li.fl, by simpa [setL] using li.ll, fun j f o g hL hb => ?_, li.ole, fun j f hj => ?_⟩
            rotate_right
            · by_cases hji : j = i
              · subst hji
                simp only [setL] at hj
                rw [set_get hil] at hj
                simp at hj
              · rw [setL_keeps_other hji] at hj
                exact li.sg j f hj
            by_cases hj : j = i
            · subst hj
              simp only [setL] at hL
              rw [set_get hil] at hL
              simp at hL
              obtain ⟨_, rfl⟩ := hL
              refine ⟨j, _, _, hSi, by simp only [blk, hσ] at hb ⊢; exact hb, .inr ?_⟩
              simp only [isDead, setL]
              exact set_get hkl
            · rw [setL_keeps_other hj] at hL
              obtain ⟨j', f', o', h1, h2, h3⟩ := li.src j f o g hL hb
              exact ⟨j', f', o', h1, h2, h3.imp id fun h => hkill.keeps h⟩
          obtain ⟨bs', σ'', j1, j2, j3⟩ := headI_sound hS hst3 li2 (h n xs) hc
          refine ⟨bs', σ'', j1, j2, j3.fl, ?_, j3.H, fun j hj => j3.fr j hj, fun j o hj ho => ?_⟩
          · have := j3.ll
            simpa [setL] using this
          · simp [itemBoxes] at hj
            exact j3.ro j o hj.2 (by rw [setL_keeps_other hj.1]; exact ho)
        · exact h.elim
      · simp at hc
    · simp at hc
end
end Go.Vc
