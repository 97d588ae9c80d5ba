/- What a change keeps: the columns at earlier instants; one column for an ID. -/
import Derived.Test.YthbapbapcnafhaaP6
set_option linter.unusedSectionVars false
set_option linter.unusedSimpArgs false
set_option linter.unusedVariables false
namespace Go.Vc
open Go
def uni (s : TSch) (c : Col) : Prop := ∃ v ∈ s.vers, c ∈ v.cols
theorem asc_of {s : TSch} (h : schemaValid s = true) {v : Ver} (hv : v ∈ s.vers) : v.cols.Pairwise (fun a b => a.id ≠ b.id) := by
  have := ver_cols h hv
  simp only [validColumns, Bool.and_eq_true] at this
  exact (vcols_asc v.cols 0 [] this.2).2
theorem one_col {l : List Ver} (h : refGo none 0 l = true) (hp : ∀ v ∈ l, v.cols.Pairwise (fun a b => a.id ≠ b.id)) : ∀ (k j : Nat) (hk : k < l.length) (hj : j ≤ k) (c d : Col), c ∈ l[j].cols → d ∈ l[k].cols → c.id = d.id → c = d
  | 0, j, hk, hj, c, d, hc, hd, he => by
    obtain rfl : j = 0 := by omega
    have h1 := find_self (hp _ (List.getElem_mem hk)) hc
    have h2 := find_self (hp _ (List.getElem_mem hk)) hd
    rw [he] at h1
    exact Option.some.inj (h1.symm.trans h2)
  | k + 1, j, hk, hj, c, d, hc, hd, he => by
    rcases Nat.eq_or_lt_of_le hj with rfl | hlt
    · have h1 := find_self (hp _ (List.getElem_mem hk)) hc
      have h2 := find_self (hp _ (List.getElem_mem hk)) hd
      rw [he] at h1
      exact Option.some.inj (h1.symm.trans h2)
    · have hid := hasID_prev h hk (x := d.id) (hasID_iff.2 ⟨d, hd, rfl⟩) (j := j) (by omega) (hasID_iff.2 ⟨c, hc, he⟩)
      have hf := refGo_at h hk
      simp only [follows, Bool.and_eq_true] at hf
      have := List.all_eq_true.1 hf.2 d hd
      unfold followsCol at this
      split at this
      · rename_i hn
        obtain ⟨e, he', hee⟩ := hasID_iff.1 hid
        have := List.find?_eq_none.1 hn e he'
        simp [hee] at this
      · rename_i e hfe
        have : e = d := of_decide_eq_true this
        subst this
        exact one_col h hp k j (by omega) (by omega) c e hc (List.mem_of_find?_eq_some hfe) he
theorem uni_one {s : TSch} (h : schemaValid s = true) {c d : Col} (hc : uni s c) (hd : uni s d) (he : c.id = d.id) : c = d := by
  obtain ⟨v, hv, hc⟩ := hc
  obtain ⟨w, hw, hd⟩ := hd
  obtain ⟨j, hj, rfl⟩ := List.mem_iff_getElem.1 hv
  obtain ⟨k, hk, rfl⟩ := List.mem_iff_getElem.1 hw
  have hr := (valid_ref h).1
  rcases Nat.le_total j k with hjk | hjk
  · exact one_col hr (fun v hv => asc_of h hv) k j hk hjk c d hc hd he
  · exact (one_col hr (fun v hv => asc_of h hv) j k hj hjk d c hd hc he.symm).symm
theorem uni_id {s : TSch} (h : schemaValid s = true) {c : Col} (hc : uni s c) : 1 ≤ c.id ∧ c.id ≤ 12 := by
  obtain ⟨v, hv, hc⟩ := hc
  have := ver_cols h hv
  simp only [validColumns, Bool.and_eq_true] at this
  exact vcols_ids v.cols 0 [] (by omega) this.2 c hc
theorem changeVers_mem {init : List Ver} {v : Ver} {cols : List Col} {x : Int} {u : Ver} (hu : u ∈ init) : u ∈ changeVers (init ++ [v]) cols x := by
  unfold changeVers
  rw [List.getLast?_concat]
  dsimp only
  rw [List.dropLast_concat]
  split <;> simp [hu]
theorem addCol_uni {s : TSch} {c : Col} {x : Int} (h : (addCol s c x).2 = 0) {d : Col} (hd : uni s d) : uni (addCol s c x).1 d := by
  obtain ⟨v, h1, h2, h3, h4, h5, h6, h7⟩ := addCol_ok h
  rw [h7]
  obtain ⟨u, hu, hd⟩ := hd
  obtain ⟨init, hi⟩ := last_split h2
  rw [hi] at hu
  show ∃ w ∈ changeVers s.vers _ x, d ∈ w.cols
  rw [hi]
  rcases List.mem_append.1 hu with hu | hu
  · exact ⟨u, changeVers_mem hu, hd⟩
  · simp at hu; subst hu
    unfold changeVers
    rw [List.getLast?_concat]
    dsimp only
    split
    · exact ⟨⟨u.rc, u.cols ++ [⟨width s + 1, c.name, c.kind⟩]⟩, by simp, by simp [hd]⟩
    · exact ⟨⟨⟨u.rc.lo, x⟩, u.cols⟩, by simp, hd⟩
theorem dropCol_fresh {s : TSch} {i x : Int} (h : (dropCol s i x).2 = 0) {v : Ver} (hv : s.vers.getLast? = some v) (hx : v.rc.lo = x) : fresh s i = false := by
  cases hf : fresh s i with
  | false => rfl
  | true =>
    obtain ⟨v', h1, h2, h3, h4, h5, h6⟩ := dropCol_ok h
    obtain rfl : v = v' := Option.some.inj (hv.symm.trans h2)
    unfold dropCol at h
    rw [if_neg (by simp [h1]), hv] at h
    dsimp only at h
    rw [if_neg (by omega), if_pos (.inr (.inr ⟨hx.symm, hf⟩))] at h
    cases h
theorem dropCol_uni {s : TSch} {i x : Int} (h : (dropCol s i x).2 = 0) {d : Col} (hd : uni s d) : uni (dropCol s i x).1 d := by
  obtain ⟨v, h1, h2, h3, h4, h5, h6⟩ := dropCol_ok h
  have hfr := dropCol_fresh h h2
  obtain ⟨k1, -⟩ := changeable_facts h1
  have hone := fun {c d : Col} => uni_one k1 (c := c) (d := d)
  rw [h6]
  have hd0 := hd
  obtain ⟨u, hu, hd⟩ := hd
  obtain ⟨init, hi⟩ := last_split h2
  rw [hi] at hu
  obtain ⟨hy, hid⟩ := idxOf_hit _ _ h3
  generalize (idxOf (fun c : Col => decide (c.id = i)) 0 v.cols).toNat = y at hy hid
  have hid := of_decide_eq_true hid
  show ∃ w ∈ changeVers s.vers _ x, d ∈ w.cols
  rcases List.mem_append.1 hu with hu | hu
  · rw [hi]; exact ⟨u, changeVers_mem hu, hd⟩
  · simp at hu; subst hu
    by_cases hx : u.rc.lo = x
    · by_cases hdi : d.id = i
      · have hf := hfr hx
        unfold fresh at hf
        rw [hi, List.dropLast_concat, List.all_eq_false] at hf
        obtain ⟨w, hw, hwi⟩ := hf
        simp only [Bool.not_eq_true', Bool.not_eq_false] at hwi
        obtain ⟨e, he, hei⟩ := hasID_iff.1 hwi
        have : d = e := hone hd0 ⟨w, by rw [hi]; simp [hw], he⟩ (hdi.trans hei.symm)
        subst this
        rw [hi]
        exact ⟨w, changeVers_mem hw, he⟩
      · rw [hi]
        unfold changeVers
        rw [List.getLast?_concat]
        dsimp only
        rw [if_pos hx]
        refine ⟨⟨u.rc, u.cols.eraseIdx y⟩, by simp, ?_⟩
        obtain ⟨k, hk, e⟩ := List.mem_iff_getElem.1 hd
        refine List.mem_eraseIdx_iff_getElem.2 ⟨k, hk, ?_, e⟩
        rintro rfl
        rw [e] at hid; exact hdi hid
    · rw [hi]
      unfold changeVers
      rw [List.getLast?_concat]
      dsimp only
      rw [if_neg hx]
      exact ⟨⟨⟨u.rc.lo, x⟩, u.cols⟩, by simp, hd⟩
theorem step_uni {s : TSch} {a c d now : Int} (h : (stepSch s a c d now).2 = 0) {e : Col} (he : uni s e) : uni (stepSch s a c d now).1 e := by
  unfold stepSch at h ⊢
  split
  · rename_i h0; rw [if_pos h0] at h; exact dropCol_uni h he
  · rename_i h0; rw [if_neg h0] at h; exact addCol_uni h he
theorem verAt_append (x : Int) : ∀ (l m : List Ver), verAt x (l ++ m) = (verAt x l).or (verAt x m)
  | [], m => by simp [verAt]
  | v :: r, m => by
    rw [List.cons_append, verAt, verAt]
    split
    · rfl
    · exact verAt_append x r m
theorem verAt_mem {x : Int} : ∀ {l : List Ver} {v : Ver}, verAt x l = some v → v ∈ l
  | [], v, h => by cases h
  | u :: r, v, h => by
    rw [verAt] at h
    split at h
    · simp at h; simp [h]
    · simp [verAt_mem h]
theorem verAt_change {l : List Ver} {v : Ver} {cols : List Col} {x t : Int} (hv : l.getLast? = some v) (ht : t < x) (hx : x < v.rc.hi) : (verAt t (changeVers l cols x)).map (·.cols) = (verAt t l).map (·.cols) := by
  obtain ⟨init, rfl⟩ := last_split hv
  unfold changeVers
  rw [hv]
  dsimp only
  rw [List.dropLast_concat]
  split
  · rename_i he
    rw [verAt_append, verAt_append]
    have h1 : verAt t [⟨v.rc, cols⟩] = none := by rw [verAt, if_neg (by dsimp only; omega)]; rfl
    have h2 : verAt t [v] = none := by rw [verAt, if_neg (by omega)]; rfl
    rw [h1, h2]
  · rw [verAt_append, verAt_append]
    cases verAt t init with
    | some w => rfl
    | none =>
      simp only [verAt, Option.none_or]
      by_cases h : v.rc.lo ≤ t
      · rw [if_pos ⟨h, ht⟩, if_pos ⟨h, by omega⟩]; rfl
      · rw [if_neg (by omega), if_neg (by omega), if_neg (by omega)]
theorem step_past {s : TSch} {a c d now t : Int} (h : (stepSch s a c d now).2 = 0) (ht : t < now) : (verAt t (stepSch s a c d now).1.vers).map (·.cols) = (verAt t s.vers).map (·.cols) := by
  have key : ∀ {v : Ver}, changeable s now = true → s.vers.getLast? = some v → now < v.rc.hi := fun h1 h2 => by
    obtain ⟨k1, k2, -⟩ := changeable_facts h1
    have := (valid_ref k1).2
    rw [lastHi, h2] at this
    have := of_decide_eq_true this
    omega
  unfold stepSch at h ⊢
  split
  · rename_i h0; rw [if_pos h0] at h
    obtain ⟨v, h1, h2, h3, h4, h5, h6⟩ := dropCol_ok h
    rw [h6]
    exact verAt_change h2 ht (key h1 h2)
  · rename_i h0; rw [if_neg h0] at h
    obtain ⟨v, h1, h2, h3, h4, h5, h6, h7⟩ := addCol_ok h
    rw [h7]
    exact verAt_change h2 ht (key h1 h2)
end Go.Vc
