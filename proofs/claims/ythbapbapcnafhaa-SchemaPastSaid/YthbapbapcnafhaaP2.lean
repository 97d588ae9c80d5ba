/- The program's and the reference's validity of schemas are one: the whole. -/
import Derived.Test.YthbapbapcnafhaaP1
set_option linter.unusedSectionVars false
set_option linter.unusedSimpArgs false
set_option linter.unusedVariables false
namespace Go.Vc
open Go
theorem refGo_iff : ∀ (l : List Ver) (p : Option Ver) (g : Int), refGo p g l = true ↔ ∀ (k : Nat) (hk : k < l.length), rver l[k] = true ∧ (match (if k = 0 then p else l[k - 1]?) with | none => True | some a => follows a l[k] (widthGo g (l.take k)) = true)
  | [], p, g => by simp [refGo]
  | v :: r, p, g => by
    rw [refGo_cons, Bool.and_eq_true, Bool.and_eq_true, refGo_iff r (some v) (widthCols g v.cols)]
    constructor
    · rintro ⟨⟨h1, h2⟩, h3⟩ k hk
      cases k with
      | zero =>
        refine ⟨h1, ?_⟩
        cases p with
        | none => trivial
        | some a => simpa [widthGo] using h2
      | succ k =>
        have := h3 k (by simpa using hk)
        simp only [Nat.add_one_sub_one, Nat.add_eq_zero_iff, Nat.one_ne_zero, and_false, if_false, List.getElem_cons_succ, List.take_succ_cons, widthGo]
        cases k with
        | zero => simpa using this
        | succ k => simpa using this
    · intro h
      refine ⟨⟨(h 0 (by simp)).1, ?_⟩, fun k hk => ?_⟩
      · have := (h 0 (by simp)).2
        cases p with
        | none => rfl
        | some a => simpa [widthGo] using this
      · have := h (k + 1) (by simpa using hk)
        simp only [Nat.add_one_sub_one, Nat.add_eq_zero_iff, Nat.one_ne_zero, and_false, if_false, List.getElem_cons_succ, List.take_succ_cons, widthGo] at this
        cases k with
        | zero => simpa using this
        | succ k => simpa using this
theorem vperGo_iff : ∀ (l : List Ver) (p : Option Ver), vperGo (p.map (·.rc.hi)) l = true ↔ ∀ (k : Nat) (hk : k < l.length), perValid l[k].rc = true ∧ (match (if k = 0 then p else l[k - 1]?) with | none => True | some a => l[k].rc.lo = a.rc.hi)
  | [], p => by simp [vperGo]
  | v :: r, p => by
    have ih := vperGo_iff r (some v)
    rw [vperGo_cons, Bool.and_eq_true, Bool.and_eq_true, show (some v.rc.hi) = (some v).map (·.rc.hi) from rfl, ih]
    constructor
    · rintro ⟨⟨h1, h2⟩, h3⟩ k hk
      cases k with
      | zero =>
        refine ⟨h1, ?_⟩
        cases p with
        | none => trivial
        | some a => simpa using h2
      | succ k =>
        have := h3 k (by simpa using hk)
        simp only [Nat.add_one_sub_one, Nat.add_eq_zero_iff, Nat.one_ne_zero, and_false, if_false, List.getElem_cons_succ]
        cases k with
        | zero => simpa using this
        | succ k => simpa using this
    · intro h
      refine ⟨⟨(h 0 (by simp)).1, ?_⟩, fun k hk => ?_⟩
      · have := (h 0 (by simp)).2
        cases p with
        | none => rfl
        | some a => simpa using this
      · have := h (k + 1) (by simpa using hk)
        simp only [Nat.add_one_sub_one, Nat.add_eq_zero_iff, Nat.one_ne_zero, and_false, if_false, List.getElem_cons_succ] at this
        cases k with
        | zero => simpa using this
        | succ k => simpa using this
theorem inv0 : HInv 0 0 none (List.replicate 13 0) (List.replicate 13 0) (List.replicate 13 col0) := by
  have z : ∀ x : Nat, (List.replicate 13 (0 : Int)).getD x 0 = 0 := fun x => by
    simp only [List.getD, List.getElem?_replicate]; split <;> rfl
  exact ⟨rfl, rfl, rfl, by omega, fun _ => ⟨rfl, fun x _ _ => z _⟩, by simp, fun x _ _ h => absurd (z _) h, by simp, by simp, fun x _ _ => by rw [z]; omega⟩
theorem vers_eq (l : List Ver) : (vperGo none l && (l.all fun v => validColumns v.cols) && validHistory l) = refGo none 0 l := by
  rw [Bool.eq_iff_iff, Bool.and_eq_true, Bool.and_eq_true, List.all_eq_true, refGo_iff, show (none : Option Int) = (none : Option Ver).map (·.rc.hi) from rfl, vperGo_iff]
  constructor
  · rintro ⟨⟨h1, h2⟩, h3⟩ k hk
    have h3 := (hist_eq l 0 0 none _ _ _ inv0 h2).1 h3 k hk
    obtain ⟨h4, h5⟩ := h1 k hk
    refine ⟨by rw [version_eq, h4, h2 _ (List.getElem_mem hk)]; rfl, ?_⟩
    cases hp : (if k = 0 then none else l[k - 1]?) with
    | none => trivial
    | some a =>
      rw [hp] at h3 h5
      simp only at h3 h5 ⊢
      rw [follows, h3, Bool.and_true]
      simp [h5]
  · intro h
    have hv : ∀ v ∈ l, validColumns v.cols = true := fun v hv => by
      obtain ⟨k, hk, rfl⟩ := List.getElem_of_mem hv
      have := (h k hk).1
      rw [version_eq, Bool.and_eq_true] at this
      exact this.2
    refine ⟨⟨fun k hk => ?_, hv⟩, (hist_eq l 0 0 none _ _ _ inv0 hv).2 fun k hk => ?_⟩
    · obtain ⟨h1, h2⟩ := h k hk
      rw [version_eq, Bool.and_eq_true] at h1
      refine ⟨h1.1, ?_⟩
      cases hp : (if k = 0 then none else l[k - 1]?) with
      | none => trivial
      | some a =>
        rw [hp] at h2
        simp only [follows, Bool.and_eq_true, decide_eq_true_eq] at h2
        exact h2.1.symm
    · obtain ⟨h1, h2⟩ := h k hk
      cases hp : (if k = 0 then none else l[k - 1]?) with
      | none => trivial
      | some a =>
        rw [hp] at h2
        simp only [follows, Bool.and_eq_true] at h2
        exact h2.2
theorem dist_eq : ∀ (r : List Int) (s : List Bool) (pre : List Int), s.length = 13 → (∀ x : Int, 1 ≤ x → x ≤ 12 → s.getD x.toNat false = pre.contains x) → distGo s r = (distinctGo pre r && inIDs r)
  | [], s, pre, _, _ => rfl
  | x :: r, s, pre, hl, hs => by
    rw [distGo, distinctGo, inIDs, List.all_cons, ← inIDs]
    by_cases hx : 1 ≤ x ∧ x ≤ 12
    · have e1 : columnID x = true := by simp [columnID, hx]
      rw [e1, hs x hx.1 hx.2, dist_eq r (s.set x.toNat true) (pre ++ [x]) (by simpa using hl) fun y y1 y2 => ?_, decide_eq_true hx.1, decide_eq_true hx.2]
      · simp [Bool.and_assoc]
      · by_cases hy : y = x
        · subst hy
          rw [getD_set_eq' (by omega)]; simp
        · rw [getD_set_ne' (by omega), hs y y1 y2]
          simp [hy]
    · have e1 : columnID x = false := by simp [columnID]; omega
      rw [e1]
      have : (decide (1 ≤ x) && decide (x ≤ 12)) = false := by simp; omega
      rw [this]; simp
theorem distinctIDs_eq (l : List Int) : distinctIDs l = (distinct l && inIDs l) := by
  refine dist_eq l _ [] rfl fun x _ _ => ?_
  simp only [List.getD, List.getElem?_replicate]
  split <;> rfl
theorem perm_in {l : List Ver} {ids : List Int} (h0 : l ≠ []) (h1 : (l.all fun v => validColumns v.cols) = true) (h2 : permanent l ids = true) : inIDs ids = true := by
  obtain ⟨v, r, rfl⟩ := List.exists_cons_of_ne_nil h0
  simp only [permanent, List.all_cons, Bool.and_eq_true] at h2
  refine List.all_eq_true.2 fun x hx => ?_
  have := List.all_eq_true.1 h2.1 x hx
  obtain ⟨c, hc, e⟩ := List.any_eq_true.1 this
  have := goodIDs_of h1 v (by simp) c hc
  simp at e
  simp; omega
theorem perm_dist {l : List Ver} {ids : List Int} (h0 : l ≠ []) (h1 : (l.all fun v => validColumns v.cols) = true) : (distinctIDs ids && permanent l ids) = (distinct ids && permanent l ids) := by
  rw [distinctIDs_eq]
  cases h : permanent l ids with
  | false => simp
  | true => rw [perm_in h0 h1 h]; simp
theorem fk_eq {l : List Ver} (h0 : l ≠ []) (h1 : (l.all fun v => validColumns v.cols) = true) (f : FKey) : fkValid l f = rfk l f := by
  unfold fkValid rfk
  rw [distinctIDs_eq f.refs]
  have := perm_dist h0 h1 (ids := f.cols)
  have e : decide (0 < f.cols.length) = decide (f.cols.length ≠ 0) := by rw [Bool.eq_iff_iff, decide_eq_true_eq, decide_eq_true_eq]; omega
  rw [e]
  revert this
  generalize distinctIDs f.cols = x1
  generalize distinct f.cols = x2
  generalize permanent l f.cols = x3
  cases x1 <;> cases x2 <;> cases x3 <;> simp [Bool.and_assoc]
theorem cst_eq {l : List Ver} (h0 : l ≠ []) (h1 : (l.all fun v => validColumns v.cols) = true) (f : Cst) : cstValid l f = rcst l f := by
  unfold cstValid rcst
  have := perm_dist h0 h1 (ids := f.cols)
  have e : decide (0 < f.cols.length) = decide (f.cols.length ≠ 0) := by rw [Bool.eq_iff_iff, decide_eq_true_eq, decide_eq_true_eq]; omega
  rw [e]
  revert this
  generalize distinctIDs f.cols = x1
  generalize distinct f.cols = x2
  generalize permanent l f.cols = x3
  cases x1 <;> cases x2 <;> cases x3 <;> simp [Bool.and_assoc]
theorem valid_eq (s : TSch) : schemaValid s = refValid s := by
  unfold schemaValid refValid
  rw [← vers_eq, validPeriods]
  by_cases hl : lastHi s.vers = true
  · have h0 : s.vers ≠ [] := by intro e; simp [e, lastHi] at hl
    by_cases h1 : (s.vers.all fun v => validColumns v.cols) = true
    · have e1 : (s.fks.all fun f => fkValid s.vers f) = s.fks.all (rfk s.vers) := by
        congr 1; funext f; exact fk_eq h0 h1 f
      have e2 : (s.csts.all fun f => cstValid s.vers f) = s.csts.all (rcst s.vers) := by
        congr 1; funext f; exact cst_eq h0 h1 f
      have := perm_dist h0 h1 (ids := s.key)
      rw [e1, e2, h1, hl]
      revert this
      generalize distinctIDs s.key = x1
      generalize distinct s.key = x2
      generalize permanent s.vers s.key = x3
      generalize s.fks.all (rfk s.vers) = x4
      generalize s.csts.all (rcst s.vers) = x5
      cases x1 <;> cases x2 <;> cases x3 <;> cases validName s.name <;> cases vperGo none s.vers <;> cases validHistory s.vers <;> cases x4 <;> cases x5 <;> simp
    · have h1 : (s.vers.all fun v => validColumns v.cols) = false := by simpa using h1
      rw [h1]; simp
  · have hl : lastHi s.vers = false := by simpa using hl
    rw [hl]; simp
end Go.Vc
