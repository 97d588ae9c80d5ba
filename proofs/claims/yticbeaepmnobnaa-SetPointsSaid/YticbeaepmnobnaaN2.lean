/- Intersection and difference of sets of points; lengths. Plain laws, no program. -/
import Derived.Test.YticbeaepmnobnaaN1
set_option linter.unusedSectionVars false
set_option linter.unusedSimpArgs false
set_option linter.unusedVariables false
namespace Go.Vc
def perInt (a b : Per) : Per := ⟨max a.lo b.lo, min a.hi b.hi⟩
def perHit (a b : Per) : Bool := pOk a && pOk b && decide (max a.lo b.lo < min a.hi b.hi)
theorem perHit_iff {a b : Per} : perHit a b = true ↔ (0 ≤ a.lo ∧ a.lo < a.hi ∧ a.hi ≤ maxT) ∧ (0 ≤ b.lo ∧ b.lo < b.hi ∧ b.hi ≤ maxT) ∧ max a.lo b.lo < min a.hi b.hi := by
  simp only [perHit, Bool.and_eq_true, pOk_iff, decide_eq_true_eq, and_assoc]
def hits (p : Per) (b : List Per) : List Per := (b.filter (perHit p)).map (perInt p)
theorem hits_cons {p q : Per} {r : List Per} : hits p (q :: r) = (if perHit p q then perInt p q :: hits p r else hits p r) := by
  unfold hits; rw [List.filter_cons]; split <;> rfl
theorem hits_in {p : Per} {t : Int} : ∀ {b : List Per}, inSet (hits p b) t = (pIn p t && inSet b t)
  | [] => by simp [hits, inSet]
  | q :: r => by
    rw [hits_cons, inSet_cons, Bool.and_or_distrib_left, ← hits_in (b := r)]
    split
    · rename_i h
      rw [perHit_iff] at h
      rw [inSet_cons]
      congr 1
      rw [Bool.eq_iff_iff, Bool.and_eq_true, pIn_iff, pIn_iff, pIn_iff]
      simp only [perInt]
      omega
    · rename_i h
      rw [perHit_iff] at h
      have : (pIn p t && pIn q t) = false := by
        rw [← Bool.not_eq_true, Bool.and_eq_true, pIn_iff, pIn_iff]
        omega
      rw [this, Bool.false_or]
theorem hits_nrm {p : Per} : ∀ {b : List Per} {h k : Int}, nrmGo h b = true → (k < p.lo ∨ k ≤ h) → nrmGo k (hits p b) = true
  | [], _, _, _, _ => rfl
  | q :: r, h, k, h1, h2 => by
    rw [nrmGo_cons] at h1
    rw [hits_cons]
    split
    · rename_i hh
      rw [perHit_iff] at hh
      rw [nrmGo_cons]
      simp only [perInt]
      refine ⟨by omega, by omega, ?_⟩
      exact hits_nrm h1.2.2 (by omega)
    · exact hits_nrm h1.2.2 (by omega)
theorem hits_hi {p x : Per} {b : List Per} (hx : x ∈ hits p b) : x.hi ≤ p.hi := by
  simp only [hits, List.mem_map, List.mem_filter] at hx
  obtain ⟨q, -, rfl⟩ := hx
  simp only [perInt]; omega
def isectGo (a b : List Per) : List Per := a.flatMap fun p => hits p b
def isect (a b : List Per) : List Per := isectGo (norm a) (norm b)
theorem isectGo_in {b : List Per} {t : Int} : ∀ {a : List Per}, inSet (isectGo a b) t = (inSet a t && inSet b t)
  | [] => by simp [isectGo, inSet]
  | p :: r => by
    rw [isectGo, List.flatMap_cons, inSet_append, hits_in, inSet_cons, Bool.and_or_distrib_right]
    congr 1
    exact isectGo_in
theorem isectGo_nrm {b : List Per} (hb : nrm b = true) : ∀ {a : List Per} {h : Int}, nrmGo h a = true → nrmGo h (isectGo a b) = true
  | [], _, _ => rfl
  | p :: r, h, h1 => by
    rw [nrmGo_cons] at h1
    rw [isectGo, List.flatMap_cons]
    exact nrmGo_append (m := p.hi) (hits_nrm hb (.inl h1.2.1)) (fun x hx => hits_hi hx) (by omega) (isectGo_nrm hb h1.2.2)
theorem isect_in (a b : List Per) (t : Int) : inSet (isect a b) t = (inSet a t && inSet b t) := by rw [isect, isectGo_in, norm_in, norm_in]
theorem isect_nrm (a b : List Per) : nrm (isect a b) = true := isectGo_nrm (norm_nrm b) (norm_nrm a)
/- two pointers, as the program does it -/
def zipI2 : Nat → List Per → List Per → List Per
  | 0, _, _ => []
  | n + 1, p :: a, q :: b => (if perHit p q then [perInt p q] else []) ++ (if p.hi < q.hi then zipI2 n a (q :: b) else zipI2 n (p :: a) b)
  | _ + 1, _, _ => []
theorem zipI2_in {t : Int} : ∀ {n : Nat} {a b : List Per} {h k : Int}, a.length + b.length ≤ n → nrmGo h a = true → nrmGo k b = true → inSet (zipI2 n a b) t = (inSet a t && inSet b t)
  | 0, a, b, _, _, h, _, _ => by
    rw [List.eq_nil_of_length_eq_zero (by omega : a.length = 0)]; rfl
  | n + 1, [], b, _, _, _, _, _ => rfl
  | n + 1, p :: a, [], _, _, _, _, _ => by simp [zipI2, inSet]
  | n + 1, p :: a, q :: b, h, k, hl, ha, hb => by
    have ha' := ha; have hb' := hb
    rw [nrmGo_cons] at ha hb
    have e1 : inSet (if perHit p q then [perInt p q] else []) t = (pIn p t && pIn q t) := by
      split
      · rename_i hh
        rw [perHit_iff] at hh
        rw [inSet_cons, inSet_nil, Bool.or_false, Bool.eq_iff_iff, Bool.and_eq_true, pIn_iff, pIn_iff, pIn_iff]
        simp only [perInt]; omega
      · rename_i hh
        rw [perHit_iff] at hh
        rw [inSet_nil]
        symm
        rw [← Bool.not_eq_true, Bool.and_eq_true, pIn_iff, pIn_iff]
        omega
    rw [zipI2, inSet_append, e1]
    simp only [List.length_cons] at hl
    split
    · rename_i hlt
      rw [zipI2_in (by simp; omega) ha.2.2 hb']
      simp only [inSet_cons]
      have hx : pIn p t = true → inSet b t = false := by
        intro h1
        cases hbt : inSet b t with
        | false => rfl
        | true => have := nrmGo_gt hb.2.2 hbt; rw [pIn_iff] at h1; omega
      cases h1 : pIn p t <;> cases h2 : pIn q t <;> cases h3 : inSet a t <;> cases h4 : inSet b t <;> simp_all
    · rename_i hlt
      rw [zipI2_in (by simp; omega) ha' hb.2.2]
      simp only [inSet_cons]
      have hx : pIn q t = true → inSet a t = false := by
        intro h1
        cases hat : inSet a t with
        | false => rfl
        | true => have := nrmGo_gt ha.2.2 hat; rw [pIn_iff] at h1; omega
      cases h1 : pIn p t <;> cases h2 : pIn q t <;> cases h3 : inSet a t <;> cases h4 : inSet b t <;> simp_all
theorem zipI2_isect (a b : List Per) : norm (zipI2 ((norm a).length + (norm b).length) (norm a) (norm b)) = isect a b :=
  nrm_eq (norm_nrm _) (isect_nrm a b) fun t => by rw [norm_in, zipI2_in (Nat.le_refl _) (norm_nrm a) (norm_nrm b), isect_in, norm_in, norm_in]
/- difference, the program's way -/
def cut : Int → Int → List Per → List Per
  | t, hi, [] => if t < hi then [⟨t, hi⟩] else []
  | t, hi, q :: r => if q.hi ≤ t ∨ hi ≤ q.lo then cut t hi r else (if t < q.lo then [⟨t, q.lo⟩] else []) ++ cut q.hi hi r
theorem cut_law {hi : Int} (h1 : hi ≤ maxT) : ∀ {b : List Per} {t k h : Int}, nrmGo h b = true → 0 ≤ t → k < t →
    (∀ u, inSet (cut t hi b) u = (decide (t ≤ u) && decide (u < hi) && !inSet b u)) ∧ nrmGo k (cut t hi b) = true ∧ ∀ p ∈ cut t hi b, p.hi ≤ hi
  | [], t, k, h, _, h2, h3 => by
    rw [cut]
    split
    · refine ⟨fun u => ?_, by rw [nrmGo_cons]; exact ⟨⟨h2, by assumption, h1⟩, h3, rfl⟩, by simp⟩
      rw [inSet_cons, inSet_nil, Bool.or_false, Bool.not_false, Bool.and_true, Bool.eq_iff_iff, pIn_iff, Bool.and_eq_true, decide_eq_true_eq, decide_eq_true_eq]
      dsimp only; omega
    · refine ⟨fun u => ?_, rfl, by simp⟩
      rw [inSet_nil]
      symm
      rw [← Bool.not_eq_true, Bool.and_eq_true, Bool.and_eq_true, decide_eq_true_eq, decide_eq_true_eq]
      omega
  | q :: r, t, k, h, hb, h2, h3 => by
    rw [nrmGo_cons] at hb
    rw [cut]
    have hqr : ∀ u, inSet r u = true → q.hi < u := fun u hu => nrmGo_gt hb.2.2 hu
    split
    · rename_i hs
      obtain ⟨k1, k2, k3⟩ := cut_law h1 (b := r) (t := t) (k := k) hb.2.2 h2 h3
      refine ⟨fun u => ?_, k2, k3⟩
      rw [k1, inSet_cons]
      have hx : decide (t ≤ u) = true → decide (u < hi) = true → pIn q u = false := by
        intro a b
        rw [decide_eq_true_eq] at a b
        rw [← Bool.not_eq_true, pIn_iff]; omega
      cases h5 : decide (t ≤ u) <;> cases h6 : decide (u < hi) <;> simp_all
    · rename_i hs
      obtain ⟨k1, k2, k3⟩ := cut_law h1 (b := r) (t := q.hi) (k := q.lo) hb.2.2 (by omega) (by omega)
      refine ⟨fun u => ?_, ?_, ?_⟩
      · rw [inSet_append, k1, inSet_cons]
        have e1 : inSet (if t < q.lo then [⟨t, q.lo⟩] else []) u = (decide (t ≤ u) && decide (u < q.lo)) := by
          split
          · rw [inSet_cons, inSet_nil, Bool.or_false, Bool.eq_iff_iff, pIn_iff, Bool.and_eq_true, decide_eq_true_eq, decide_eq_true_eq]
            dsimp only; omega
          · rw [inSet_nil]; symm
            rw [← Bool.not_eq_true, Bool.and_eq_true, decide_eq_true_eq, decide_eq_true_eq]; omega
        rw [e1]
        have e2 := hqr u
        cases h5 : inSet r u with
        | true =>
          have e2 := e2 h5
          simp only [Bool.or_true, Bool.not_true, Bool.and_false, Bool.or_false]
          rw [← Bool.not_eq_true, Bool.and_eq_true, decide_eq_true_eq, decide_eq_true_eq]; omega
        | false =>
          simp only [Bool.or_false, Bool.not_false, Bool.and_true]
          rw [Bool.eq_iff_iff]
          simp only [Bool.or_eq_true, Bool.and_eq_true, decide_eq_true_eq, Bool.not_eq_true', ← Bool.not_eq_true, pIn_iff]
          omega
      · split
        · rw [List.singleton_append, nrmGo_cons]
          exact ⟨by dsimp only; omega, h3, k2⟩
        · rw [List.nil_append]
          exact (cut_law h1 (b := r) (t := q.hi) (k := k) hb.2.2 (by omega) (by omega)).2.1
      · intro p hp
        rcases List.mem_append.1 hp with hp | hp
        · split at hp
          · rw [List.mem_singleton] at hp; subst hp; dsimp only; omega
          · simp at hp
        · exact k3 p hp
def cutAll (a b : List Per) : List Per := a.flatMap fun p => cut p.lo p.hi b
theorem cutAll_law {b : List Per} (hb : nrm b = true) : ∀ {a : List Per} {h : Int}, nrmGo h a = true → nrmGo h (cutAll a b) = true ∧ ∀ t, inSet (cutAll a b) t = (inSet a t && !inSet b t)
  | [], _, _ => ⟨rfl, fun t => rfl⟩
  | p :: r, h, h1 => by
    rw [nrmGo_cons] at h1
    obtain ⟨k1, k2⟩ := cutAll_law hb h1.2.2
    obtain ⟨q1, q2, q3⟩ := cut_law h1.1.2.2 (b := b) (t := p.lo) (k := h) hb h1.1.1 h1.2.1
    rw [cutAll, List.flatMap_cons]
    refine ⟨nrmGo_append (m := p.hi) q2 q3 (by omega) k1, fun t => ?_⟩
    rw [inSet_append, q1, inSet_cons, Bool.and_or_distrib_right]
    congr 1
    · congr 1
      rw [Bool.eq_iff_iff, Bool.and_eq_true, pIn_iff, decide_eq_true_eq, decide_eq_true_eq]
      omega
    · exact k2 t
def diff (a b : List Per) : List Per := cutAll (norm a) (norm b)
theorem diff_nrm (a b : List Per) : nrm (diff a b) = true := (cutAll_law (norm_nrm b) (norm_nrm a)).1
theorem diff_in (a b : List Per) (t : Int) : inSet (diff a b) t = (inSet a t && !inSet b t) := by rw [diff, (cutAll_law (norm_nrm b) (norm_nrm a)).2, norm_in, norm_in]
/- difference, the definition's way -/
def perSub (a b : Per) : List Per :=
  if pOk a then
    if perHit a b then (if a.lo < (perInt a b).lo then [⟨a.lo, (perInt a b).lo⟩] else []) ++ (if (perInt a b).hi < a.hi then [⟨(perInt a b).hi, a.hi⟩] else [])
    else [a]
  else []
theorem perSub_in {a b : Per} {t : Int} : inSet (perSub a b) t = (pIn a t && !pIn b t) := by
  unfold perSub
  split
  · rename_i ha
    rw [pOk_iff] at ha
    split
    · rename_i hh
      rw [perHit_iff] at hh
      rw [inSet_append]
      have e1 : inSet (if a.lo < (perInt a b).lo then [⟨a.lo, (perInt a b).lo⟩] else []) t = (decide (a.lo ≤ t) && decide (t < b.lo)) := by
        split <;> rename_i hp <;> simp only [perInt] at hp
        · rw [inSet_cons, inSet_nil, Bool.or_false, Bool.eq_iff_iff, pIn_iff, Bool.and_eq_true, decide_eq_true_eq, decide_eq_true_eq]
          simp only [perInt]; omega
        · rw [inSet_nil]; symm
          rw [← Bool.not_eq_true, Bool.and_eq_true, decide_eq_true_eq, decide_eq_true_eq]; omega
      have e2 : inSet (if (perInt a b).hi < a.hi then [⟨(perInt a b).hi, a.hi⟩] else []) t = (decide (b.hi ≤ t) && decide (t < a.hi)) := by
        split <;> rename_i hp <;> simp only [perInt] at hp
        · rw [inSet_cons, inSet_nil, Bool.or_false, Bool.eq_iff_iff, pIn_iff, Bool.and_eq_true, decide_eq_true_eq, decide_eq_true_eq]
          simp only [perInt]; omega
        · rw [inSet_nil]; symm
          rw [← Bool.not_eq_true, Bool.and_eq_true, decide_eq_true_eq, decide_eq_true_eq]; omega
      rw [e1, e2, Bool.eq_iff_iff]
      simp only [Bool.or_eq_true, Bool.and_eq_true, decide_eq_true_eq, Bool.not_eq_true', ← Bool.not_eq_true, pIn_iff]
      omega
    · rename_i hh
      rw [perHit_iff] at hh
      rw [inSet_cons, inSet_nil, Bool.or_false, Bool.eq_iff_iff]
      simp only [Bool.and_eq_true, Bool.not_eq_true', ← Bool.not_eq_true, pIn_iff]
      omega
  · rename_i ha
    rw [inSet_nil]
    symm
    rw [← Bool.not_eq_true, Bool.and_eq_true]
    rintro ⟨h, -⟩
    simp only [pIn, Bool.and_eq_true] at h
    exact ha h.1.1
theorem perSub_nrm {a b : Per} {h : Int} (ha : 0 ≤ a.lo ∧ a.lo < a.hi ∧ a.hi ≤ maxT) (hh : h < a.lo) : nrmGo h (perSub a b) = true ∧ ∀ p ∈ perSub a b, p.hi ≤ a.hi := by
  unfold perSub
  rw [if_pos (pOk_iff.2 ha)]
  split
  · rename_i hit
    rw [perHit_iff] at hit
    have hm : a.lo ≤ (perInt a b).lo ∧ (perInt a b).lo < (perInt a b).hi ∧ (perInt a b).hi ≤ a.hi := by simp only [perInt]; omega
    generalize perInt a b = m at hm
    constructor
    · split <;> split <;> simp only [List.nil_append, List.append_nil, List.singleton_append, nrmGo_cons, show ∀ h, nrmGo h [] = true from fun _ => rfl, and_true] <;> omega
    · intro p hp
      rcases List.mem_append.1 hp with hp | hp <;> split at hp <;> simp at hp <;> subst hp <;> dsimp only <;> omega
  · exact ⟨by rw [nrmGo_cons]; exact ⟨ha, hh, rfl⟩, by simp⟩
theorem subOne_law {b : Per} : ∀ {a : List Per} {h : Int}, nrmGo h a = true → nrmGo h (a.flatMap fun p => perSub p b) = true ∧ ∀ t, inSet (a.flatMap fun p => perSub p b) t = (inSet a t && !pIn b t)
  | [], _, _ => ⟨rfl, fun t => rfl⟩
  | p :: r, h, h1 => by
    rw [nrmGo_cons] at h1
    obtain ⟨k1, k2⟩ := subOne_law (b := b) h1.2.2
    obtain ⟨q1, q2⟩ := perSub_nrm (b := b) h1.1 h1.2.1
    rw [List.flatMap_cons]
    refine ⟨nrmGo_append (m := p.hi) q1 q2 (by omega) k1, fun t => ?_⟩
    rw [inSet_append, perSub_in, inSet_cons, k2, Bool.and_or_distrib_right]
def subFrom : List Per → List Per → List Per
  | a, [] => a
  | a, b :: r => subFrom (a.flatMap fun p => perSub p b) r
theorem subFrom_law : ∀ {b a : List Per}, nrm a = true → nrm (subFrom a b) = true ∧ ∀ t, inSet (subFrom a b) t = (inSet a t && !inSet b t)
  | [], a, h => ⟨h, fun t => by simp [subFrom, inSet]⟩
  | q :: r, a, h => by
    obtain ⟨k1, k2⟩ := subOne_law (b := q) h
    obtain ⟨q1, q2⟩ := subFrom_law (b := r) k1
    refine ⟨q1, fun t => ?_⟩
    rw [subFrom, q2, k2, inSet_cons, Bool.not_or, Bool.and_assoc]
theorem subFrom_diff (a b : List Per) : subFrom (norm a) b = diff a b :=
  nrm_eq (subFrom_law (norm_nrm a)).1 (diff_nrm a b) fun t => by rw [(subFrom_law (norm_nrm a)).2, diff_in, norm_in]
def union (a b : List Per) : List Per := norm (a ++ b)
theorem union_in (a b : List Per) (t : Int) : inSet (union a b) t = (inSet a t || inSet b t) := by rw [union, norm_in, inSet_append]
theorem union_nrm (a b : List Per) : nrm (union a b) = true := norm_nrm _

/- lengths -/
def sumL : List Per → Int
  | [] => 0
  | p :: r => (p.hi - p.lo) + sumL r
def lenS (l : List Per) : Int := sumL (norm l)
theorem sumL_bd : ∀ {l : List Per} {h : Int}, nrmGo h l = true → 0 ≤ sumL l ∧ (l ≠ [] → sumL l + h ≤ maxT)
  | [], _, _ => by simp [sumL]
  | p :: r, h, h1 => by
    rw [nrmGo_cons] at h1
    have := sumL_bd h1.2.2
    simp only [sumL]
    refine ⟨by omega, fun _ => ?_⟩
    cases r with
    | nil => simp only [sumL]; omega
    | cons q s => have := this.2 (by simp); omega
def cnt (f : Int → Bool) : Nat → Nat
  | 0 => 0
  | n + 1 => cnt f n + (if f n then 1 else 0)
theorem cnt_or_and {f g : Int → Bool} : ∀ n : Nat, cnt (fun t => f t || g t) n + cnt (fun t => f t && g t) n = cnt f n + cnt g n
  | 0 => rfl
  | n + 1 => by
    have := cnt_or_and (f := f) (g := g) n
    simp only [cnt]
    by_cases hf : f n = true <;> by_cases hg : g n = true <;> simp [hf, hg] <;> omega
theorem cnt_congr {f g : Int → Bool} : ∀ n : Nat, (∀ t : Int, 0 ≤ t → t < n → f t = g t) → cnt f n = cnt g n
  | 0, _ => rfl
  | n + 1, h => by rw [cnt, cnt, cnt_congr n (fun t a b => h t a (by omega)), h n (by omega) (by omega)]
theorem cnt_false : ∀ n : Nat, cnt (fun _ => false) n = 0
  | 0 => rfl
  | n + 1 => by rw [cnt, cnt_false n]; rfl
theorem cnt_per {lo hi : Int} (h0 : 0 ≤ lo) (h1 : lo < hi) : ∀ n : Nat, (cnt (fun t => decide (lo ≤ t) && decide (t < hi)) n : Int) = if n ≤ lo then 0 else if (n : Int) ≤ hi then n - lo else hi - lo
  | 0 => by rw [if_pos (by omega)]; rfl
  | n + 1 => by
    have := cnt_per h0 h1 n
    simp only [cnt]
    by_cases a : lo ≤ (n : Int) <;> by_cases b : (n : Int) < hi <;> simp only [a, b, decide_true, decide_false, Bool.and_true, Bool.and_false, if_true, Bool.false_eq_true, if_false] <;> push_cast <;> split at this <;> (try split at this) <;> (repeat' split) <;> omega
theorem cnt_set {n : Nat} (hn : maxT ≤ n) : ∀ {l : List Per} {h : Int}, nrmGo h l = true → (cnt (inSet l) n : Int) = sumL l
  | [], _, _ => by
    have : cnt (inSet []) n = 0 := (cnt_congr n fun t _ _ => rfl).trans (cnt_false n)
    rw [this]; rfl
  | p :: r, h, h1 => by
    rw [nrmGo_cons] at h1
    have ih := cnt_set hn h1.2.2
    have e1 : cnt (inSet (p :: r)) n = cnt (fun t => (decide (p.lo ≤ t) && decide (t < p.hi)) || inSet r t) n := by
      refine cnt_congr n fun t _ _ => ?_
      rw [inSet_cons]; congr 1
      rw [Bool.eq_iff_iff, Bool.and_eq_true, pIn_iff, decide_eq_true_eq, decide_eq_true_eq]
      omega
    have e2 : cnt (fun t => (decide (p.lo ≤ t) && decide (t < p.hi)) && inSet r t) n = 0 := (cnt_congr n fun t _ _ => by
      cases hr : inSet r t with
      | false => rw [Bool.and_false]
      | true =>
        have := nrmGo_gt h1.2.2 hr
        rw [show decide (t < p.hi) = false from decide_eq_false (by omega)]; simp).trans (cnt_false n)
    have e3 := cnt_or_and (f := fun t => decide (p.lo ≤ t) && decide (t < p.hi)) (g := inSet r) n
    have e4 := cnt_per h1.1.1 h1.1.2.1 n
    rw [if_neg (by omega)] at e4
    have e5 : (if (n : Int) ≤ p.hi then (n : Int) - p.lo else p.hi - p.lo) = p.hi - p.lo := by split <;> omega
    rw [e5] at e4
    simp only [sumL]
    omega
theorem len_law (a b : List Per) : lenS (union a b) + lenS (isect a b) = lenS a + lenS b := by
  obtain ⟨n, hn⟩ : ∃ n : Nat, maxT ≤ n := ⟨maxT.toNat, by omega⟩
  have key : ∀ l, (cnt (inSet l) n : Int) = lenS l := fun l => by
    rw [lenS, ← cnt_set hn (norm_nrm l)]
    congr 1
    exact cnt_congr _ fun t _ _ => (norm_in l t).symm
  have := cnt_or_and (f := inSet a) (g := inSet b) n
  rw [← key, ← key, ← key, ← key]
  rw [← cnt_congr (f := inSet (union a b)) n (fun t _ _ => union_in a b t), ← cnt_congr (f := inSet (isect a b)) n (fun t _ _ => isect_in a b t)] at this
  omega
end Go.Vc
namespace Go.Vc
theorem nrm_len : ∀ {l : List Per} {h : Int}, nrmGo h l = true → l ≠ [] → h + 2 * l.length ≤ maxT
  | [], _, _, h => absurd rfl h
  | p :: r, h, h1, _ => by
    rw [nrmGo_cons] at h1
    cases r with
    | nil => simp; omega
    | cons q s => have := nrm_len h1.2.2 (by simp); simp only [List.length_cons] at this ⊢; omega
theorem nrm_bnd {l : List Per} (h : nrm l = true) : l.length * 16 ≤ 140737488355328 := by
  by_cases h0 : l = []
  · subst h0; simp
  · have := nrm_len h h0; have : maxT = 1099511627776 := rfl; omega
theorem nrm_len2 {l : List Per} (h : nrm l = true) : l.length ≤ 549755813889 := by
  by_cases h0 : l = []
  · subst h0; simp
  · have := nrm_len h h0; have : maxT = 1099511627776 := rfl; omega
theorem zipI2_length : ∀ (n : Nat) (a b : List Per), (zipI2 n a b).length ≤ n
  | 0, _, _ => by simp [zipI2]
  | n + 1, [], _ => by simp [zipI2]
  | n + 1, _ :: _, [] => by simp [zipI2]
  | n + 1, p :: a, q :: b => by
    have h1 := zipI2_length n a (q :: b); have h2 := zipI2_length n (p :: a) b
    rw [zipI2, List.length_append]
    split <;> split <;> simp <;> omega
end Go.Vc
