/- slices.Sort and slices.Compact on a row of ints of the caller's own. -/
import Derived.Test.YteogpcpleokfbaaGJAg10
import Derived.Shelf.Sort.Plain
import Derived.Shelf.Slices.In.SortNone
import Derived.Shelf.Slices.CompactI
set_option linter.unusedSectionVars false
set_option linter.unusedSimpArgs false
set_option linter.unusedVariables false
namespace Go.Vc
open Go Go.RowKit Go.Shelf Go.Proofs Go.Sort
theorem compact_snoc (l : List Int) (x : Int) : Lib.compact (l ++ [x]) = Lib.compact l ++ (if l.getLast? = some x then [] else [x]) := by
  have hlow : ∀ m, m ≤ l.length → Lib.compactUpTo (l ++ [x]).toArray m = Lib.compactUpTo l.toArray m := by
    intro m hm
    have hget : ∀ j, j < l.length → (l ++ [x]).toArray[j]! = l.toArray[j]! := by
      intro j hj
      rw [getElem!_pos (l ++ [x]).toArray j (by simp; omega), getElem!_pos l.toArray j (by simpa using hj)]
      simp [List.getElem_append_left hj]
    unfold Lib.compactUpTo
    have h1 : (List.range m).filter (Lib.keeps (l ++ [x]).toArray) = (List.range m).filter (Lib.keeps l.toArray) := by
      apply List.filter_congr
      intro j hj
      have hj := List.mem_range.1 hj
      unfold Lib.keeps
      rw [hget j (by omega), hget (j - 1) (by omega)]
    rw [h1]
    apply List.map_congr_left
    intro j hj
    have hj := List.mem_range.1 (List.mem_filter.1 hj).1
    exact hget j (by omega)
  unfold Lib.compact
  rw [show (l ++ [x]).length = l.length + 1 by simp, Lib.compactUpTo_succ, hlow _ (Nat.le_refl _)]
  congr 1
  have hx : (l ++ [x]).toArray[l.length]! = x := by
    rw [getElem!_pos (l ++ [x]).toArray l.length (by simp)]
    simp
  rw [hx]
  unfold Lib.keeps
  rw [hx]
  rcases Nat.eq_zero_or_pos l.length with h0 | h0
  · have : l = [] := List.eq_nil_of_length_eq_zero h0
    subst this; simp
  · have hl : (l ++ [x]).toArray[l.length - 1]! = l[l.length - 1]'(by omega) := by
      rw [getElem!_pos (l ++ [x]).toArray (l.length - 1) (by simp; omega)]
      simp [List.getElem_append_left (show l.length - 1 < l.length by omega)]
    rw [hl, List.getLast?_eq_getElem?, List.getElem?_eq_getElem (by omega)]
    by_cases h : l[l.length - 1] = x
    · have hne : l ≠ [] := fun e => by subst e; simp at h0
      simp [h, hne]
    · have : ¬ x = l[l.length - 1] := fun e => h e.symm
      simp [h, this]
end Go.Vc
