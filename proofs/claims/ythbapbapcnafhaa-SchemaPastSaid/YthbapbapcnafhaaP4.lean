/- A change of a valid schema is valid. -/
import Derived.Test.YthbapbapcnafhaaP3
set_option linter.unusedSectionVars false
set_option linter.unusedSimpArgs false
set_option linter.unusedVariables false
namespace Go.Vc
open Go
theorem vcols_cons (last : Int) (pre r : List Col) (c : Col) : vcols last pre (c :: r) = true ↔ (last < c.id ∧ c.id ≤ 12 ∧ columnName c.name = true ∧ columnKind c.kind = true ∧ ∀ o ∈ pre, o.name ≠ c.name) ∧ vcols c.id (pre ++ [c]) r = true := by
  simp only [vcols, Bool.and_eq_true, Bool.not_eq_true', Bool.or_eq_false_iff, decide_eq_false_iff_not, List.any_eq_false, decide_eq_true_eq]
  simp only [Bool.not_eq_eq_eq_not, Bool.not_false, Bool.not_true]
  constructor
  · rintro ⟨⟨⟨⟨⟨h1, h2⟩, h3⟩, h4⟩, h5⟩, h6⟩
    exact ⟨⟨by omega, by omega, h3, h4, h5⟩, h6⟩
  · rintro ⟨⟨h1, h2, h3, h4, h5⟩, h6⟩
    exact ⟨⟨⟨⟨⟨by omega, by omega⟩, h3⟩, h4⟩, h5⟩, h6⟩
theorem vcols_sub {l' l : List Col} (h : l'.Sublist l) : ∀ (last' last : Int) (pre' pre : List Col), last' ≤ last → (∀ o ∈ pre', o ∈ pre) → vcols last pre l = true → vcols last' pre' l' = true := by
  induction h with
  | slnil => intro _ _ _ _ _ _ _; rfl
  | cons a _ ih =>
    intro last' last pre' pre h1 h2 h3
    obtain ⟨⟨q1, q2, q3, q4, q5⟩, q6⟩ := (vcols_cons ..).1 h3
    exact ih last' a.id pre' (pre ++ [a]) (by omega) (fun o ho => by simp [h2 o ho]) q6
  | cons_cons a _ ih =>
    intro last' last pre' pre h1 h2 h3
    obtain ⟨⟨q1, q2, q3, q4, q5⟩, q6⟩ := (vcols_cons ..).1 h3
    refine (vcols_cons ..).2 ⟨⟨by omega, q2, q3, q4, fun o ho => q5 o (h2 o ho)⟩, ih a.id a.id _ _ (Int.le_refl _) (fun o ho => ?_) q6⟩
    rcases List.mem_append.1 ho with ho | ho
    · simp [h2 o ho]
    · simp at ho; simp [ho]
theorem vcols_snoc {c : Col} (h12 : c.id ≤ 12) (hn : columnName c.name = true) (hk : columnKind c.kind = true) : ∀ (l : List Col) (last : Int) (pre : List Col), vcols last pre l = true → (∀ d ∈ l, d.id < c.id) → last < c.id →
    (∀ o ∈ pre, o.name ≠ c.name) → (∀ o ∈ l, o.name ≠ c.name) → vcols last pre (l ++ [c]) = true
  | [], last, pre, _, _, h2, h3, _ => (vcols_cons ..).2 ⟨⟨h2, h12, hn, hk, h3⟩, rfl⟩
  | d :: r, last, pre, h, h1, h2, h3, h4 => by
    obtain ⟨⟨q1, q2, q3, q4, q5⟩, q6⟩ := (vcols_cons ..).1 h
    refine (vcols_cons ..).2 ⟨⟨q1, q2, q3, q4, q5⟩, vcols_snoc h12 hn hk r d.id _ q6 (fun e he => h1 e (by simp [he])) (h1 d (by simp)) (fun o ho => ?_) (fun o ho => h4 o (by simp [ho]))⟩
    rcases List.mem_append.1 ho with ho | ho
    · exact h3 o ho
    · simp at ho; subst ho; exact h4 _ (by simp)
def lastOr (p : Option Ver) : List Ver → Option Ver
  | [] => p
  | v :: r => lastOr (some v) r
theorem refGo_append : ∀ (l m : List Ver) (p : Option Ver) (g : Int), refGo p g (l ++ m) = (refGo p g l && refGo (lastOr p l) (widthGo g l) m)
  | [], m, p, g => by simp [refGo, lastOr, widthGo]
  | v :: r, m, p, g => by
    rw [List.cons_append, refGo_cons, refGo_cons, refGo_append r m, lastOr, widthGo]
    simp only [Bool.and_assoc]
theorem widthGo_append : ∀ (l m : List Ver) (g : Int), widthGo g (l ++ m) = widthGo (widthGo g l) m
  | [], m, g => rfl
  | v :: r, m, g => by rw [List.cons_append, widthGo, widthGo, widthGo_append r m]
theorem lastOr_mem : ∀ (l : List Ver) (p : Option Ver) (v : Ver), lastOr p l = some v → p = some v ∨ v ∈ l
  | [], p, v, h => .inl h
  | u :: r, p, v, h => by
    rcases lastOr_mem r (some u) v h with h | h
    · simp at h; simp [h]
    · simp [h]
theorem find_self {l : List Col} (h : l.Pairwise (fun a b => a.id ≠ b.id)) {c : Col} (hc : c ∈ l) : l.find? (fun d => decide (d.id = c.id)) = some c := by
  induction l with
  | nil => cases hc
  | cons d r ih =>
    obtain ⟨h1, h2⟩ := List.pairwise_cons.1 h
    rcases List.mem_cons.1 hc with rfl | hc
    · simp
    · rw [List.find?_cons_of_neg (by simpa using h1 c hc), ih h2 hc]
/- what a version's new columns have to be -/
structure GoodCols (v : Ver) (init : List Ver) (cols : List Col) : Prop where
  valid : validColumns cols = true
  old : ∀ c ∈ cols, c ∈ v.cols ∨ widthCols (widthGo 0 init) v.cols < c.id
theorem follows_new {a v : Ver} {cols : List Col} {g w : Int} (h : follows a v g = true) (hw : g ≤ w) (hv : ∀ c ∈ a.cols, c.id ≤ g) (ho : ∀ c ∈ cols, c ∈ v.cols ∨ w < c.id) {x : Int} : follows a ⟨⟨v.rc.lo, x⟩, cols⟩ g = true := by
  simp only [follows, Bool.and_eq_true] at h ⊢
  refine ⟨h.1, List.all_eq_true.2 fun c hc => ?_⟩
  rcases ho c hc with h' | h'
  · exact List.all_eq_true.1 h.2 c h'
  · unfold followsCol
    rw [List.find?_eq_none.2 (fun d hd => by have := hv d hd; simp; omega)]
    exact decide_eq_true (by omega)
theorem change_ref {init : List Ver} {v : Ver} {cols : List Col} {x : Int} (h : refGo none 0 (init ++ [v]) = true) (hg : GoodCols v init cols) (hhi : v.rc.hi = 1099511627776) (hx : v.rc.lo ≤ x) (hm : x < 1099511627776) :
    refGo none 0 (changeVers (init ++ [v]) cols x) = true ∧ lastHi (changeVers (init ++ [v]) cols x) = true := by
  rw [refGo_append, Bool.and_eq_true] at h
  obtain ⟨h1, h2⟩ := h
  rw [refGo_cons] at h2
  simp only [refGo, Bool.and_true, Bool.and_eq_true] at h2
  obtain ⟨h2, h3⟩ := h2
  rw [version_eq, Bool.and_eq_true] at h2
  obtain ⟨hp, hv⟩ := h2
  have hwl := widthGo_ge init 0
  have hwc := widthCols_le v.cols (widthGo 0 init)
  have hall : ∀ a, lastOr none init = some a → ∀ c ∈ a.cols, c.id ≤ widthGo 0 init := by
    intro a ha c hc
    rcases lastOr_mem _ _ _ ha with h | h
    · cases h
    · exact hwl.2 a h c hc
  have hasc := vcols_asc v.cols 0 [] (by simp only [validColumns, Bool.and_eq_true] at hv; exact hv.2)
  unfold changeVers
  rw [List.getLast?_concat]
  dsimp only
  rw [List.dropLast_concat]
  split
  · rename_i he
    rw [refGo_append, h1, refGo_cons, version_eq]
    simp only [refGo, Bool.and_true, Bool.true_and, Bool.and_eq_true]
    refine ⟨⟨⟨hp, hg.valid⟩, ?_⟩, ?_⟩
    · revert h3 hall
      cases lastOr none init with
      | none => intro _ _; rfl
      | some a =>
        intro h3 hall
        exact follows_new (x := v.rc.hi) h3 hwc.1 (hall a rfl) hg.old
    · rw [lastHi, List.getLast?_concat]
      exact decide_eq_true hhi
  · rename_i he
    have hpv : perValid v.rc = true := hp
    simp only [perValid, Bool.and_eq_true, decide_eq_true_eq] at hp
    refine ⟨?_, ?_⟩
    · rw [refGo_append, h1, refGo_cons, refGo_cons, version_eq, version_eq]
      simp only [refGo, Bool.and_true, Bool.true_and, Bool.and_eq_true]
      refine ⟨⟨⟨?_, hv⟩, ?_⟩, ⟨?_, hg.valid⟩, ?_⟩
      · simp only [perValid, Bool.and_eq_true, decide_eq_true_eq]; omega
      · revert h3 hall
        cases lastOr none init with
        | none => intro _ _; rfl
        | some a =>
          intro h3 hall
          exact follows_new h3 hwc.1 (hall a rfl) (fun c hc => .inl hc)
      · simp only [perValid, Bool.and_eq_true, decide_eq_true_eq]; omega
      · simp only [follows, Bool.and_eq_true, decide_eq_true_eq, true_and]
        refine List.all_eq_true.2 fun c hc => ?_
        unfold followsCol
        rcases hg.old c hc with h' | h'
        · rw [find_self hasc.2 h']
          exact decide_eq_true rfl
        · rw [List.find?_eq_none.2 (fun d hd => by have := hwc.2 d hd; simp; omega)]
          exact decide_eq_true h'
    · rw [lastHi, show ∀ (a b : Ver), init ++ [a, b] = (init ++ [a]) ++ [b] from fun a b => by simp, List.getLast?_concat]
      exact decide_eq_true rfl
end Go.Vc
