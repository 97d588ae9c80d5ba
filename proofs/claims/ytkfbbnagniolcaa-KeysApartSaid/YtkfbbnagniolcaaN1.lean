/- Sets of points as lists of periods: normal form, its uniqueness, insertion, merging. Plain laws, no program. -/
import Derived.Test.YtkfbbnagniolcaaApi
set_option linter.unusedSectionVars false
set_option linter.unusedSimpArgs false
set_option linter.unusedVariables false
namespace Go.Vc
abbrev maxT : Int := 1099511627776
def pOk (p : Per) : Bool := decide (0 ≤ p.lo) && decide (p.lo < p.hi) && decide (p.hi ≤ maxT)
theorem pOk_iff {p : Per} : pOk p = true ↔ 0 ≤ p.lo ∧ p.lo < p.hi ∧ p.hi ≤ maxT := by simp [pOk, and_assoc]
def pIn (p : Per) (t : Int) : Bool := pOk p && decide (p.lo ≤ t) && decide (t < p.hi)
theorem pIn_iff {p : Per} {t : Int} : pIn p t = true ↔ (0 ≤ p.lo ∧ p.lo < p.hi ∧ p.hi ≤ maxT) ∧ p.lo ≤ t ∧ t < p.hi := by simp [pIn, pOk, and_assoc]
def inSet (l : List Per) (t : Int) : Bool := l.any fun p => pIn p t
theorem inSet_nil {t : Int} : inSet [] t = false := rfl
theorem inSet_cons {p : Per} {l : List Per} {t : Int} : inSet (p :: l) t = (pIn p t || inSet l t) := rfl
theorem inSet_append {l m : List Per} {t : Int} : inSet (l ++ m) t = (inSet l t || inSet m t) := by simp [inSet]
def nrmGo : Int → List Per → Bool
  | _, [] => true
  | h, p :: r => pOk p && decide (h < p.lo) && nrmGo p.hi r
def nrm (l : List Per) : Bool := nrmGo (-1) l
theorem nrmGo_cons {h : Int} {p : Per} {r : List Per} : nrmGo h (p :: r) = true ↔ (0 ≤ p.lo ∧ p.lo < p.hi ∧ p.hi ≤ maxT) ∧ h < p.lo ∧ nrmGo p.hi r = true := by
  simp [nrmGo, pOk, and_assoc]
theorem nrmGo_mono {h k : Int} : ∀ {l : List Per}, nrmGo h l = true → k ≤ h → nrmGo k l = true
  | [], _, _ => rfl
  | p :: r, h1, h2 => by
    rw [nrmGo_cons] at h1 ⊢
    exact ⟨h1.1, by omega, h1.2.2⟩
theorem nrmGo_gt {t : Int} : ∀ {l : List Per} {h : Int}, nrmGo h l = true → inSet l t = true → h < t
  | [], _, _, h => by simp [inSet] at h
  | p :: r, h, h1, h2 => by
    rw [nrmGo_cons] at h1
    rw [inSet_cons, Bool.or_eq_true] at h2
    rcases h2 with h2 | h2
    · rw [pIn_iff] at h2; omega
    · have := nrmGo_gt h1.2.2 h2; omega
theorem nrmGo_lt {t : Int} : ∀ {l : List Per} {h : Int}, nrmGo h l = true → inSet l t = true → t < maxT
  | [], _, _, h => by simp [inSet] at h
  | p :: r, h, h1, h2 => by
    rw [nrmGo_cons] at h1
    rw [inSet_cons, Bool.or_eq_true] at h2
    rcases h2 with h2 | h2
    · rw [pIn_iff] at h2; omega
    · exact nrmGo_lt h1.2.2 h2
theorem nrmGo_ok : ∀ {l : List Per} {h : Int}, nrmGo h l = true → ∀ p ∈ l, h < p.lo ∧ 0 ≤ p.lo ∧ p.lo < p.hi ∧ p.hi ≤ maxT
  | q :: r, h, h1, p, hp => by
    rw [nrmGo_cons] at h1
    rcases List.mem_cons.1 hp with rfl | hp
    · omega
    · have := nrmGo_ok h1.2.2 p hp; omega
/- two lists in normal form that denote one set are one list -/
theorem nrm_ext : ∀ {a b : List Per} {h k : Int}, nrmGo h a = true → nrmGo k b = true → (∀ t, inSet a t = inSet b t) → a = b
  | [], [], _, _, _, _, _ => rfl
  | [], q :: s, _, k, _, hb, he => by
    rw [nrmGo_cons] at hb
    have := he q.lo
    rw [inSet_nil, inSet_cons, show pIn q q.lo = true from pIn_iff.2 (by omega)] at this
    simp at this
  | p :: r, [], h, _, ha, _, he => by
    rw [nrmGo_cons] at ha
    have := he p.lo
    rw [inSet_nil, inSet_cons, show pIn p p.lo = true from pIn_iff.2 (by omega)] at this
    simp at this
  | p :: r, q :: s, h, k, ha, hb, he => by
    rw [nrmGo_cons] at ha hb
    have key : ∀ (x y : Per) (u v : List Per), (0 ≤ x.lo ∧ x.lo < x.hi ∧ x.hi ≤ maxT) → (0 ≤ y.lo ∧ y.lo < y.hi ∧ y.hi ≤ maxT) → nrmGo x.hi u = true → nrmGo y.hi v = true → (∀ t, inSet (x :: u) t = inSet (y :: v) t) → y.lo ≤ x.lo := by
      intro x y u v hx hy hu hv hxy
      have h1 := hxy x.lo
      rw [inSet_cons, show pIn x x.lo = true from pIn_iff.2 (by omega), Bool.true_or] at h1
      have h1 := h1.symm
      rw [inSet_cons, Bool.or_eq_true] at h1
      rcases h1 with h1 | h1
      · rw [pIn_iff] at h1; omega
      · have := nrmGo_gt hv h1; omega
    have e1 : p.lo = q.lo := Int.le_antisymm (key q p s r hb.1 ha.1 hb.2.2 ha.2.2 fun t => (he t).symm) (key p q r s ha.1 hb.1 ha.2.2 hb.2.2 he)
    have key2 : ∀ (x y : Per) (u v : List Per), (0 ≤ x.lo ∧ x.lo < x.hi ∧ x.hi ≤ maxT) → (0 ≤ y.lo ∧ y.lo < y.hi ∧ y.hi ≤ maxT) → x.lo = y.lo → nrmGo x.hi u = true → nrmGo y.hi v = true → (∀ t, inSet (x :: u) t = inSet (y :: v) t) → y.hi ≤ x.hi := by
      intro x y u v hx hy hl hu hv hxy
      rcases Int.lt_or_le x.hi y.hi with hlt | hle
      · have h1 := hxy x.hi
        rw [inSet_cons, inSet_cons, show pIn y x.hi = true from pIn_iff.2 (by omega), Bool.true_or, Bool.or_eq_true] at h1
        rcases h1 with h1 | h1
        · rw [pIn_iff] at h1; omega
        · have := nrmGo_gt hu h1; omega
      · exact hle
    have e2 : p.hi = q.hi := Int.le_antisymm (key2 q p s r hb.1 ha.1 e1.symm hb.2.2 ha.2.2 fun t => (he t).symm) (key2 p q r s ha.1 hb.1 e1 ha.2.2 hb.2.2 he)
    obtain rfl : p = q := by cases p; cases q; simp_all
    refine congrArg _ (nrm_ext ha.2.2 hb.2.2 fun t => ?_)
    have h1 := he t
    rw [inSet_cons, inSet_cons] at h1
    cases hr : inSet r t with
    | true =>
      have := nrmGo_gt ha.2.2 hr
      have hp : pIn p t = false := by rw [← Bool.not_eq_true, pIn_iff]; omega
      rw [hp, hr] at h1; simpa using h1
    | false =>
      cases hs : inSet s t with
      | false => rfl
      | true =>
        have := nrmGo_gt hb.2.2 hs
        have hp : pIn p t = false := by rw [← Bool.not_eq_true, pIn_iff]; omega
        rw [hp, hr, hs] at h1; simp at h1
/- appending lists in normal form -/
theorem nrmGo_append {m : Int} : ∀ {x y : List Per} {h : Int}, nrmGo h x = true → (∀ p ∈ x, p.hi ≤ m) → h ≤ m → nrmGo m y = true → nrmGo h (x ++ y) = true
  | [], y, h, _, _, h2, h3 => nrmGo_mono h3 h2
  | p :: r, y, h, h1, h2, h3, h4 => by
    rw [nrmGo_cons] at h1
    rw [List.cons_append, nrmGo_cons]
    exact ⟨h1.1, h1.2.1, nrmGo_append h1.2.2 (fun q hq => h2 q (List.mem_cons_of_mem _ hq)) (h2 p List.mem_cons_self) h4⟩

/- insertion as the definition does it -/
def ins2 : Int → Int → List Per → List Per
  | lo, hi, [] => [⟨lo, hi⟩]
  | lo, hi, q :: r => if q.lo ≤ hi then ins2 (min lo q.lo) (max hi q.hi) r else ⟨lo, hi⟩ :: q :: r
def ins (p : Per) : List Per → List Per
  | [] => [p]
  | q :: r => if q.hi < p.lo then q :: ins p r else ins2 p.lo p.hi (q :: r)
theorem ins2_law : ∀ {l : List Per} {lo hi h : Int}, nrmGo h l = true → h < lo → 0 ≤ lo → lo < hi → hi ≤ maxT → (∀ q ∈ l, lo ≤ q.hi) →
    nrmGo h (ins2 lo hi l) = true ∧ ∀ t, inSet (ins2 lo hi l) t = (pIn ⟨lo, hi⟩ t || inSet l t)
  | [], lo, hi, h, _, h1, h2, h3, h4, _ => ⟨by rw [ins2, nrmGo_cons]; exact ⟨⟨h2, h3, h4⟩, h1, rfl⟩, fun t => by simp [ins2, inSet]⟩
  | q :: r, lo, hi, h, hn, h1, h2, h3, h4, h5 => by
    have hn' := hn
    rw [nrmGo_cons] at hn
    have hq := h5 q List.mem_cons_self
    rw [ins2]
    split
    · rename_i hle
      obtain ⟨k1, k2⟩ := ins2_law (l := r) (lo := min lo q.lo) (hi := max hi q.hi) (h := h) (nrmGo_mono hn.2.2 (by omega)) (by omega) (by omega) (by omega) (by omega)
        (fun x hx => by have := nrmGo_ok hn.2.2 x hx; omega)
      refine ⟨k1, fun t => ?_⟩
      rw [k2, inSet_cons, ← Bool.or_assoc]
      congr 1
      rw [Bool.eq_iff_iff, Bool.or_eq_true, pIn_iff, pIn_iff, pIn_iff]
      dsimp only
      omega
    · rename_i hle
      refine ⟨?_, fun t => rfl⟩
      rw [nrmGo_cons, nrmGo_cons]
      exact ⟨⟨h2, h3, h4⟩, h1, hn.1, by dsimp only; omega, hn.2.2⟩
theorem ins_law {p : Per} (hp : 0 ≤ p.lo ∧ p.lo < p.hi ∧ p.hi ≤ maxT) : ∀ {l : List Per} {h : Int}, nrmGo h l = true → h < p.lo →
    nrmGo h (ins p l) = true ∧ ∀ t, inSet (ins p l) t = (pIn p t || inSet l t)
  | [], h, _, h1 => ⟨by rw [ins, nrmGo_cons]; exact ⟨hp, h1, rfl⟩, fun t => rfl⟩
  | q :: r, h, hn, h1 => by
    have hn' := hn
    rw [nrmGo_cons] at hn
    rw [ins]
    split
    · rename_i hlt
      obtain ⟨k1, k2⟩ := ins_law hp hn.2.2 hlt
      refine ⟨by rw [nrmGo_cons]; exact ⟨hn.1, hn.2.1, k1⟩, fun t => ?_⟩
      rw [inSet_cons, k2, inSet_cons]
      simp only [Bool.or_left_comm]
    · rename_i hlt
      obtain ⟨k1, k2⟩ := ins2_law hn' h1 hp.1 hp.2.1 hp.2.2 (fun x hx => by
        rcases List.mem_cons.1 hx with rfl | hx
        · omega
        · have := nrmGo_ok hn.2.2 x hx; omega)
      exact ⟨k1, k2⟩
def nrmFrom : List Per → List Per → List Per
  | acc, [] => acc
  | acc, p :: r => nrmFrom (if pOk p then ins p acc else acc) r
def norm (l : List Per) : List Per := nrmFrom [] l
theorem nrmFrom_law : ∀ {l acc : List Per}, nrm acc = true → nrm (nrmFrom acc l) = true ∧ ∀ t, inSet (nrmFrom acc l) t = (inSet acc t || inSet l t)
  | [], acc, h => ⟨h, fun t => by simp [nrmFrom, inSet]⟩
  | p :: r, acc, h => by
    rw [nrmFrom]
    cases hp : pOk p with
    | true =>
      have hp' := pOk_iff.1 hp
      obtain ⟨k1, k2⟩ := ins_law hp' h (by omega)
      obtain ⟨q1, q2⟩ := nrmFrom_law (l := r) (acc := ins p acc) k1
      refine ⟨q1, fun t => ?_⟩
      rw [if_pos rfl, q2, k2, inSet_cons, Bool.or_comm (pIn p t), Bool.or_assoc]
    | false =>
      obtain ⟨q1, q2⟩ := nrmFrom_law (l := r) (acc := acc) h
      refine ⟨q1, fun t => ?_⟩
      rw [if_neg (by simp), q2, inSet_cons, show pIn p t = false by simp [pIn, hp], Bool.false_or]
theorem norm_nrm (l : List Per) : nrm (norm l) = true := (nrmFrom_law (acc := []) rfl).1
theorem norm_in (l : List Per) (t : Int) : inSet (norm l) t = inSet l t := by rw [norm, (nrmFrom_law (acc := []) rfl).2]; rfl
theorem nrm_eq {a b : List Per} (ha : nrm a = true) (hb : nrm b = true) (h : ∀ t, inSet a t = inSet b t) : a = b := nrm_ext ha hb h
theorem norm_of_nrm {a : List Per} (ha : nrm a = true) : norm a = a := nrm_eq (norm_nrm a) ha (norm_in a)
theorem norm_congr {a b : List Per} (h : ∀ t, inSet a t = inSet b t) : norm a = norm b := nrm_eq (norm_nrm a) (norm_nrm b) fun t => by rw [norm_in, norm_in, h]
theorem ins2_length : ∀ (l : List Per) (lo hi : Int), (ins2 lo hi l).length ≤ l.length + 1
  | [], lo, hi => by simp [ins2]
  | q :: r, lo, hi => by
    rw [ins2]; split
    · have := ins2_length r (min lo q.lo) (max hi q.hi); simp; omega
    · simp
theorem ins_length (p : Per) : ∀ (l : List Per), (ins p l).length ≤ l.length + 1
  | [] => by simp [ins]
  | q :: r => by
    rw [ins]; split
    · have := ins_length p r; simp; omega
    · exact ins2_length _ _ _
theorem nrmFrom_length : ∀ (l acc : List Per), (nrmFrom acc l).length ≤ acc.length + l.length
  | [], acc => by simp [nrmFrom]
  | p :: r, acc => by
    rw [nrmFrom]
    have h1 := nrmFrom_length r (if pOk p then ins p acc else acc)
    have h2 : (if pOk p then ins p acc else acc).length ≤ acc.length + 1 := by
      split
      · exact ins_length p acc
      · omega
    simp; omega
theorem norm_length (l : List Per) : (norm l).length ≤ l.length := by have := nrmFrom_length l []; simpa [norm] using this

/- merging a list sorted by its starts, as the program does it -/
def mrg : Per → List Per → List Per
  | q, [] => [q]
  | q, p :: r => if p.lo ≤ q.hi then mrg ⟨q.lo, max q.hi p.hi⟩ r else q :: mrg p r
def mrgAll : List Per → List Per
  | [] => []
  | q :: r => mrg q r
theorem mrg_law : ∀ {l : List Per} {q : Per} {h : Int}, (∀ p ∈ q :: l, 0 ≤ p.lo ∧ p.lo < p.hi ∧ p.hi ≤ maxT) → (q :: l).Pairwise (fun a b => a.lo ≤ b.lo) → h < q.lo →
    nrmGo h (mrg q l) = true ∧ ∀ t, inSet (mrg q l) t = inSet (q :: l) t
  | [], q, h, h1, _, h3 => ⟨by rw [mrg, nrmGo_cons]; exact ⟨h1 q List.mem_cons_self, h3, rfl⟩, fun t => rfl⟩
  | p :: r, q, h, h1, h2, h3 => by
    have hq := h1 q List.mem_cons_self
    have hp := h1 p (List.mem_cons_of_mem _ List.mem_cons_self)
    have hqp := (List.pairwise_cons.1 h2).1 p List.mem_cons_self
    rw [mrg]
    split
    · rename_i hle
      obtain ⟨k1, k2⟩ := mrg_law (l := r) (q := ⟨q.lo, max q.hi p.hi⟩) (h := h) (fun x hx => by
        rcases List.mem_cons.1 hx with rfl | hx
        · dsimp only; omega
        · exact h1 x (by simp [hx])) (List.pairwise_cons.2 ⟨fun x hx => (List.pairwise_cons.1 h2).1 x (List.mem_cons_of_mem _ hx), (List.pairwise_cons.1 (List.pairwise_cons.1 h2).2).2⟩) h3
      refine ⟨k1, fun t => ?_⟩
      rw [k2, inSet_cons, inSet_cons, inSet_cons, ← Bool.or_assoc]
      congr 1
      rw [Bool.eq_iff_iff, Bool.or_eq_true, pIn_iff, pIn_iff, pIn_iff]
      dsimp only
      omega
    · rename_i hle
      obtain ⟨k1, k2⟩ := mrg_law (l := r) (q := p) (h := q.hi) (fun x hx => h1 x (List.mem_cons_of_mem _ hx)) (List.pairwise_cons.1 h2).2 (by omega)
      refine ⟨by rw [nrmGo_cons]; exact ⟨hq, h3, k1⟩, fun t => ?_⟩
      rw [inSet_cons, k2]; rfl
theorem mrgAll_norm {l m : List Per} (hp : m.Perm (l.filter pOk)) (hs : m.Pairwise (fun a b => a.lo ≤ b.lo)) : mrgAll m = norm l := by
  have hin : ∀ t, inSet m t = inSet l t := fun t => by
    rw [Bool.eq_iff_iff]
    simp only [inSet, List.any_eq_true]
    constructor
    · rintro ⟨p, h1, h2⟩
      exact ⟨p, (List.mem_filter.1 (hp.mem_iff.1 h1)).1, h2⟩
    · rintro ⟨p, h1, h2⟩
      exact ⟨p, hp.mem_iff.2 (List.mem_filter.2 ⟨h1, by simp [pIn] at h2; exact h2.1.1⟩), h2⟩
  have hok : ∀ p ∈ m, 0 ≤ p.lo ∧ p.lo < p.hi ∧ p.hi ≤ maxT := fun p h => pOk_iff.1 (List.mem_filter.1 (hp.mem_iff.1 h)).2
  cases m with
  | nil => exact (nrm_eq (norm_nrm l) rfl fun t => by rw [norm_in, ← hin]; rfl).symm
  | cons q r =>
    obtain ⟨k1, k2⟩ := mrg_law (h := -1) hok hs (by have := hok q List.mem_cons_self; omega)
    exact nrm_eq k1 (norm_nrm l) fun t => by rw [mrgAll, k2, hin, norm_in]
theorem mrg_length : ∀ (l : List Per) (q : Per), (mrg q l).length ≤ l.length + 1
  | [], q => by simp [mrg]
  | p :: r, q => by
    rw [mrg]; split
    · have := mrg_length r ⟨q.lo, max q.hi p.hi⟩; simp; omega
    · have := mrg_length r p; simp; omega
end Go.Vc
