/- Valid schemas: what the changes of the reference lean on. -/
import Derived.Test.YthbapbapcnafhaaP2
import Derived.Test.YthbapbapcnafhaaC8
set_option linter.unusedSectionVars false
set_option linter.unusedSimpArgs false
set_option linter.unusedVariables false
namespace Go.Vc
open Go
theorem widthGo_ge : ∀ (l : List Ver) (w : Int), w ≤ widthGo w l ∧ ∀ v ∈ l, ∀ c ∈ v.cols, c.id ≤ widthGo w l
  | [], w => ⟨Int.le_refl _, fun _ h => by cases h⟩
  | v :: r, w => by
    have h := widthGo_ge r (widthCols w v.cols)
    have h' := widthCols_le v.cols w
    unfold widthGo
    refine ⟨by omega, fun u hu c hc => ?_⟩
    rcases List.mem_cons.1 hu with rfl | hu
    · have := h'.2 c hc; omega
    · exact h.2 u hu c hc
theorem widthGo_get : ∀ (l : List Ver) (w : Int), widthGo w l = w ∨ ∃ v ∈ l, ∃ c ∈ v.cols, c.id = widthGo w l
  | [], w => .inl rfl
  | v :: r, w => by
    unfold widthGo
    rcases widthGo_get r (widthCols w v.cols) with h | ⟨u, hu, c, hc, h⟩
    · rcases widthCols_get v.cols w with h' | ⟨c, hc, h'⟩
      · exact .inl (by rw [h, h'])
      · exact .inr ⟨v, by simp, c, hc, by rw [h', h]⟩
    · exact .inr ⟨u, by simp [hu], c, hc, h⟩
theorem hasID_iff {l : List Col} {x : Int} : hasID l x = true ↔ ∃ c ∈ l, c.id = x := by simp [hasID]
theorem refGo_at {l : List Ver} (h : refGo none 0 l = true) {k : Nat} (hk : k + 1 < l.length) : follows l[k] l[k + 1] (widthGo 0 (l.take (k + 1))) = true := by
  have := ((refGo_iff l none 0).1 h (k + 1) hk).2
  simp only [Nat.add_one_ne_zero, if_false, Nat.add_one_sub_one, List.getElem?_eq_getElem (show k < l.length by omega)] at this
  exact this
/- an ID that a version has, and some earlier one: the version ahead has it too -/
theorem hasID_prev {l : List Ver} (h : refGo none 0 l = true) {k : Nat} (hk : k + 1 < l.length) {x : Int} (hx : hasID l[k + 1].cols x = true) {j : Nat} (hj : j ≤ k) (hxj : hasID l[j].cols x = true) : hasID l[k].cols x = true := by
  have hf := refGo_at h hk
  simp only [follows, Bool.and_eq_true] at hf
  obtain ⟨c, hc, rfl⟩ := hasID_iff.1 hx
  obtain ⟨d, hd, hdc⟩ := hasID_iff.1 hxj
  have := List.all_eq_true.1 hf.2 c hc
  unfold followsCol at this
  split at this
  · have h1 := (widthGo_ge (l.take (k + 1)) 0).2 l[j] (List.mem_take_iff_getElem.2 ⟨j, by omega, by simp⟩) d hd
    have := of_decide_eq_true this
    omega
  · rename_i e he
    have h1 := List.find?_some he
    exact hasID_iff.2 ⟨e, List.mem_of_find?_eq_some he, of_decide_eq_true h1⟩
theorem valid_ref {s : TSch} (h : schemaValid s = true) : refGo none 0 s.vers = true ∧ lastHi s.vers = true := by
  rw [valid_eq] at h
  simp only [refValid, Bool.and_eq_true] at h
  exact ⟨h.1.1.1.1.1.1.2, h.1.1.1.1.1.1.1.2⟩
theorem fresh_eq {s : TSch} (h : schemaValid s = true) {x : Int} {v : Ver} (hv : s.vers.getLast? = some v) (hx : hasID v.cols x = true) :
    fresh s x = (match s.vers[s.vers.length - 2]? with | none => true | some p => decide (s.vers.length < 2) || !hasID p.cols x) := by
  have hr := (valid_ref h).1
  have hne := schemaValid_ne h
  have hlen : 0 < s.vers.length := List.length_pos_iff.2 hne
  rw [List.getElem?_eq_getElem (by omega)]
  dsimp only
  unfold fresh
  by_cases h2 : s.vers.length < 2
  · rw [decide_eq_true h2, Bool.true_or, List.all_eq_true]
    intro u hu
    have : s.vers.dropLast.length = 0 := by rw [List.length_dropLast]; omega
    rw [List.eq_nil_of_length_eq_zero this] at hu
    cases hu
  rw [decide_eq_false h2, Bool.false_or]
  rw [List.getLast?_eq_getElem?] at hv
  obtain ⟨hl1, hl2⟩ := List.getElem?_eq_some_iff.1 hv
  rw [Bool.eq_iff_iff, List.all_eq_true]
  constructor
  · intro hall
    refine hall _ (List.mem_iff_getElem.2 ⟨s.vers.length - 2, by rw [List.length_dropLast]; omega, ?_⟩)
    rw [List.getElem_dropLast]
  · intro hp u hu
    obtain ⟨j, hj, rfl⟩ := List.mem_iff_getElem.1 hu
    rw [List.length_dropLast] at hj
    rw [List.getElem_dropLast]
    cases hq : hasID (s.vers[j]'(by omega)).cols x with
    | false => rfl
    | true =>
      have := hasID_prev hr (k := s.vers.length - 2) (by omega) (x := x) (by
        have e : s.vers[s.vers.length - 2 + 1]'(by omega) = v := by rw [← hl2]; congr 1; omega
        rw [e]; exact hx) (j := j) (by omega) hq
      rw [this] at hp
      cases hp
end Go.Vc
