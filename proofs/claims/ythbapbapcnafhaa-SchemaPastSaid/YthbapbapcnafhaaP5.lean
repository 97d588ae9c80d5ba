/- A column added or dropped: the schema is valid. -/
import Derived.Test.YthbapbapcnafhaaP4
import Derived.Test.YthbapbapcnafhaaR5
set_option linter.unusedSectionVars false
set_option linter.unusedSimpArgs false
set_option linter.unusedVariables false
namespace Go.Vc
open Go
theorem last_split {l : List Ver} {v : Ver} (h : l.getLast? = some v) : ∃ init, l = init ++ [v] := by
  obtain ⟨init, rfl⟩ := List.getLast?_eq_some_iff.1 h
  exact ⟨init, rfl⟩
theorem changeVers_all {l : List Ver} {v : Ver} {cols : List Col} {x : Int} (h : l.getLast? = some v) {p : List Col → Bool} (hl : (l.all fun v => p v.cols) = true) (hc : p cols = true) : ((changeVers l cols x).all fun v => p v.cols) = true := by
  obtain ⟨init, rfl⟩ := last_split h
  simp only [List.all_append, List.all_cons, List.all_nil, Bool.and_true, Bool.and_eq_true] at hl
  unfold changeVers
  rw [h]
  dsimp only
  rw [List.dropLast_concat]
  split
  · simp only [List.all_append, List.all_cons, List.all_nil, Bool.and_true, Bool.and_eq_true]; exact ⟨hl.1, hc⟩
  · simp only [List.all_append, List.all_cons, List.all_nil, Bool.and_true, Bool.and_eq_true]; exact ⟨hl.1, hl.2, hc⟩
/- the whole: if every ID that is asked for is in the new columns -/
theorem change_valid {s : TSch} {v : Ver} {cols : List Col} {x : Int} (h : schemaValid s = true) (hv : s.vers.getLast? = some v) (hx : v.rc.lo ≤ x) (hm : x < 1099511627776)
    (hc : validColumns cols = true) (ho : ∀ c ∈ cols, c ∈ v.cols ∨ width s < c.id) (hk : ∀ i, hasID v.cols i = true → (s.key.contains i = true ∨ (∃ f ∈ s.fks, f.cols.contains i = true) ∨ ∃ c ∈ s.csts, c.cols.contains i = true) → hasID cols i = true) :
    schemaValid { s with vers := changeVers s.vers cols x } = true := by
  obtain ⟨init, hi⟩ := last_split hv
  rw [valid_eq] at h ⊢
  simp only [refValid, Bool.and_eq_true] at h ⊢
  obtain ⟨⟨⟨⟨⟨⟨⟨⟨h1, h2⟩, h3⟩, h4⟩, h5⟩, h6⟩, h7⟩, h8⟩, h9⟩ := h
  have hhi : v.rc.hi = 1099511627776 := by rw [lastHi, hv] at h2; simpa using h2
  have hw : width s = widthCols (widthGo 0 init) v.cols := by rw [width, hi, widthGo_append]; rfl
  have hvm : v ∈ s.vers := List.mem_of_getLast? hv
  have key := change_ref (x := x) (by rw [← hi]; exact h3) ⟨hc, fun c hc => by rw [← hw]; exact ho c hc⟩ hhi hx hm
  rw [← hi] at key
  have perm : ∀ ids : List Int, permanent s.vers ids = true → (∀ i ∈ ids, hasID v.cols i = true → hasID cols i = true) → permanent (changeVers s.vers cols x) ids = true := by
    intro ids hp hs
    unfold permanent at hp ⊢
    refine changeVers_all (p := fun cols => ids.all fun x => hasID cols x) hv hp (List.all_eq_true.2 fun i hi => hs i hi ?_)
    exact List.all_eq_true.1 (List.all_eq_true.1 hp v hvm) i hi
  refine ⟨⟨⟨⟨⟨⟨⟨⟨h1, key.2⟩, key.1⟩, h4⟩, perm _ h5 fun i hi hh => hk i hh (.inl (by simpa using hi))⟩, h6⟩, h7⟩, ?_⟩, ?_⟩
  · refine List.all_eq_true.2 fun f hf => ?_
    have := List.all_eq_true.1 h8 f hf
    simp only [rfk, Bool.and_eq_true] at this ⊢
    obtain ⟨⟨⟨⟨⟨⟨q1, q2⟩, q3⟩, q4⟩, q5⟩, q6⟩, q7⟩ := this
    exact ⟨⟨⟨⟨⟨⟨q1, q2⟩, perm _ q3 fun i hi hh => hk i hh (.inr (.inl ⟨f, hf, by simpa using hi⟩))⟩, q4⟩, q5⟩, q6⟩, q7⟩
  · refine List.all_eq_true.2 fun f hf => ?_
    have := List.all_eq_true.1 h9 f hf
    simp only [rcst, Bool.and_eq_true] at this ⊢
    obtain ⟨⟨⟨q1, q2⟩, q3⟩, q4⟩ := this
    exact ⟨⟨⟨q1, q2⟩, q3⟩, perm _ q4 fun i hi hh => hk i hh (.inr (.inr ⟨f, hf, by simpa using hi⟩))⟩
theorem changeable_facts {s : TSch} {x : Int} (h : changeable s x = true) : schemaValid s = true ∧ x < 1099511627776 ∧ ∃ v, s.vers.getLast? = some v ∧ v.rc.lo ≤ x := by
  simp only [changeable, Bool.and_eq_true, decide_eq_true_eq] at h
  obtain ⟨⟨h1, h2⟩, h3⟩ := h
  refine ⟨h1, h3, ?_⟩
  split at h2
  · cases h2
  · rename_i v hv; exact ⟨v, hv, of_decide_eq_true h2⟩
theorem ver_cols {s : TSch} (h : schemaValid s = true) {v : Ver} (hv : v ∈ s.vers) : validColumns v.cols = true := by
  simp only [schemaValid, Bool.and_eq_true] at h
  exact List.all_eq_true.1 h.1.1.1.1.1.2 v hv
theorem width_ge {s : TSch} {v : Ver} (hv : v ∈ s.vers) : ∀ c ∈ v.cols, c.id ≤ width s := fun c hc => (widthGo_ge s.vers 0).2 v hv c hc
/- what a good result says -/
theorem addCol_ok {s : TSch} {c : Col} {x : Int} (h : (addCol s c x).2 = 0) : ∃ v, changeable s x = true ∧ s.vers.getLast? = some v ∧ columnName c.name = true ∧ columnKind c.kind = true ∧ (v.cols.any fun o => decide (o.name = c.name)) = false ∧ width s ≠ 12 ∧
    addCol s c x = ({ s with vers := changeVers s.vers (v.cols ++ [⟨width s + 1, c.name, c.kind⟩]) x }, 0) := by
  unfold addCol at h ⊢
  split at h
  · cases h
  split at h
  · cases h
  split at h
  · cases h
  split at h
  · cases h
  split at h
  · cases h
  split at h
  · cases h
  rename_i h1 h2 h3 _ v hv h4 h5
  refine ⟨v, by simpa using h1, hv, by simpa using h2, by simpa using h3, by simpa using h4, h5, ?_⟩
  rw [if_neg h1, if_neg h2, if_neg h3, if_neg h4, if_neg h5]
theorem dropCol_ok {s : TSch} {i x : Int} (h : (dropCol s i x).2 = 0) : ∃ v, changeable s x = true ∧ s.vers.getLast? = some v ∧ 0 ≤ idxOf (fun c => decide (c.id = i)) 0 v.cols ∧ v.cols.length ≠ 1 ∧ used s i = false ∧
    dropCol s i x = ({ s with vers := changeVers s.vers (v.cols.eraseIdx (idxOf (fun c => decide (c.id = i)) 0 v.cols).toNat) x }, 0) := by
  unfold dropCol at h ⊢
  split at h
  · cases h
  split at h
  · cases h
  split at h
  · cases h
  split at h
  · cases h
  rename_i h1 _ v hv h2 h3
  have h4 : v.cols.length ≠ 1 := fun e => h3 (.inl e)
  have h5 : used s i = false := by
    cases hu : used s i with
    | false => rfl
    | true => exact absurd (.inr (.inl hu)) h3
  refine ⟨v, by simpa using h1, hv, by omega, h4, h5, ?_⟩
  rw [if_neg h1, if_neg h2, if_neg h3]
theorem addCol_valid {s : TSch} {c : Col} {x : Int} (h : (addCol s c x).2 = 0) : schemaValid (addCol s c x).1 = true := by
  obtain ⟨v, h1, h2, h3, h4, h5, h6, h7⟩ := addCol_ok h
  obtain ⟨k1, k2, v', k3, k4⟩ := changeable_facts h1
  obtain rfl : v = v' := Option.some.inj (h2.symm.trans k3)
  rw [h7]
  have hvm : v ∈ s.vers := List.mem_of_getLast? h2
  have hc := ver_cols k1 hvm
  have hw := valid_width k1
  have hge := width_ge hvm
  have hlen := schemaValid_cols k1 hvm
  have hvc : vcols 0 [] v.cols = true := by simp only [validColumns, Bool.and_eq_true] at hc; exact hc.2
  have hids := vcols_ids v.cols 0 [] (by omega) hvc
  have hnm : ∀ o ∈ v.cols, o.name ≠ c.name := fun o ho => by
    have := List.any_eq_false.1 h5 o ho
    simpa using this
  refine change_valid k1 h2 k4 k2 ?_ ?_ ?_
  · simp only [validColumns, Bool.and_eq_true, decide_eq_true_eq, List.length_append, List.length_cons, List.length_nil]
    refine ⟨⟨by omega, ?_⟩, vcols_snoc (c := ⟨width s + 1, c.name, c.kind⟩) (by dsimp only; omega) h3 h4 v.cols 0 [] hvc (fun d hd => by have := hge d hd; dsimp only; omega) (by dsimp only; omega) (by simp) hnm⟩
    have hlt : v.cols.length < 12 := by
      have hb : ∀ (l : List Col) (last : Int) (pre : List Col), vcols last pre l = true → (∀ d ∈ l, d.id ≤ 11) → last ≤ 11 → (l.length : Int) ≤ 11 - last := by
        intro l
        induction l with
        | nil => intro last pre _ _ h; simp; omega
        | cons d r ih =>
          intro last pre hh hd _
          obtain ⟨⟨q1, -⟩, q6⟩ := (vcols_cons ..).1 hh
          have h11 := hd d (by simp)
          have := ih d.id _ q6 (fun e he => hd e (by simp [he])) h11
          simp only [List.length_cons]; omega
      have := hb v.cols 0 [] hvc (fun d hd => by have := hge d hd; omega) (by omega)
      omega
    omega
  · intro d hd
    rcases List.mem_append.1 hd with hd | hd
    · exact .inl hd
    · simp at hd; subst hd; exact .inr (by dsimp only; omega)
  · intro i hi _
    obtain ⟨d, hd, e⟩ := hasID_iff.1 hi
    exact hasID_iff.2 ⟨d, by simp [hd], e⟩
theorem idxOf_hit {T : Type} (p : T → Bool) (l : List T) (h : 0 ≤ idxOf p 0 l) : ∃ hi : (idxOf p 0 l).toNat < l.length, p l[(idxOf p 0 l).toNat] = true := by
  obtain ⟨h1, h2, h3⟩ := (idxOf_find p l 0 (by omega)).1 h
  have e : (idxOf p 0 l - 0).toNat = (idxOf p 0 l).toNat := by omega
  simp only [e] at h1 h3
  exact ⟨h1, List.find?_some h3⟩
theorem dropCol_valid {s : TSch} {i x : Int} (h : (dropCol s i x).2 = 0) : schemaValid (dropCol s i x).1 = true := by
  obtain ⟨v, h1, h2, h3, h4, h5, h6⟩ := dropCol_ok h
  obtain ⟨k1, k2, v', k3, k4⟩ := changeable_facts h1
  obtain rfl : v = v' := Option.some.inj (h2.symm.trans k3)
  rw [h6]
  have hvm : v ∈ s.vers := List.mem_of_getLast? h2
  have hc := ver_cols k1 hvm
  have hlen := schemaValid_cols k1 hvm
  have hvc : vcols 0 [] v.cols = true := by simp only [validColumns, Bool.and_eq_true] at hc; exact hc.2
  have hasc := vcols_asc v.cols 0 [] hvc
  obtain ⟨hi, hid⟩ := idxOf_hit _ _ h3
  generalize (idxOf (fun c : Col => decide (c.id = i)) 0 v.cols).toNat = y at hi hid
  have hid := of_decide_eq_true hid
  refine change_valid k1 h2 k4 k2 ?_ (fun c hc => .inl (List.mem_of_mem_eraseIdx hc)) ?_
  · simp only [validColumns, Bool.and_eq_true, decide_eq_true_eq, List.length_eraseIdx, if_pos hi]
    exact ⟨⟨by omega, by omega⟩, vcols_sub (List.eraseIdx_sublist _ _) 0 0 [] [] (Int.le_refl _) (fun o ho => ho) hvc⟩
  · intro j hj hu
    obtain ⟨d, hd, rfl⟩ := hasID_iff.1 hj
    have hne : d.id ≠ i := by
      rintro rfl
      have hc : ∀ {l : List Int}, l.contains d.id = true → l.contains d.id = false → False := fun a b => by rw [a] at b; cases b
      simp only [used, Bool.or_eq_false_iff] at h5
      rcases hu with hu | ⟨f, hf, hu⟩ | ⟨f, hf, hu⟩
      · exact hc hu h5.2
      · have := List.any_eq_false.1 h5.1.1 f hf
        simp only [hu, Bool.true_or, not_true] at this
      · have := List.any_eq_false.1 h5.1.2 f hf
        simp only [hu, not_true] at this
    obtain ⟨k, hk, e⟩ := List.mem_iff_getElem.1 hd
    have hky : k ≠ y := by rintro rfl; rw [e] at hid; exact hne hid
    exact hasID_iff.2 ⟨d, List.mem_eraseIdx_iff_getElem.2 ⟨k, hk, hky, e⟩, rfl⟩
end Go.Vc
