/- Plain laws: dropping neighbours that are equal, out of an ascending list. -/
import Derived.Test.YtkfbbnagniolcaaB8
set_option linter.unusedSectionVars false
set_option linter.unusedSimpArgs false
set_option linter.unusedVariables false
namespace Go.Vc
open Go
theorem snoc_ind {T : Type} {p : List T → Prop} (h0 : p []) (h1 : ∀ l x, p l → p (l ++ [x])) (l : List T) : p l := by
  have key : ∀ r : List T, p r.reverse := by
    intro r
    induction r with
    | nil => exact h0
    | cons x r ih => rw [List.reverse_cons]; exact h1 _ _ ih
  have := key l.reverse
  rwa [List.reverse_reverse] at this
theorem compact_last (l : List Int) : (Lib.compact l).getLast? = l.getLast? := by
  refine snoc_ind (p := fun l => (Lib.compact l).getLast? = l.getLast?) rfl (fun l x ih => ?_) l
  rw [compact_snoc]
  split
  · rename_i h
    rw [List.append_nil, ih, h]; simp
  · simp
theorem compact_mem (l : List Int) (y : Int) : y ∈ Lib.compact l ↔ y ∈ l := by
  refine snoc_ind (p := fun l => y ∈ Lib.compact l ↔ y ∈ l) (by simp [show Lib.compact ([] : List Int) = [] from rfl]) (fun l x ih => ?_) l
  rw [compact_snoc]
  split
  · rename_i h
    have hx : x ∈ l := List.mem_of_getLast? h
    rw [List.append_nil, ih]
    simp only [List.mem_append, List.mem_singleton]
    exact ⟨.inl, fun h => h.elim id (fun e => e ▸ hx)⟩
  · simp [ih]
theorem compact_asc (l : List Int) (h : l.Pairwise (fun a b => a ≤ b)) : (Lib.compact l).Pairwise (fun a b => a < b) := by
  revert h
  refine snoc_ind (p := fun l => l.Pairwise (fun a b => a ≤ b) → (Lib.compact l).Pairwise (fun a b => a < b)) (fun _ => by simp [show Lib.compact ([] : List Int) = [] from rfl]) (fun l x ih => ?_) l
  intro h
  obtain ⟨h1, -, h2⟩ := List.pairwise_append.1 h
  have h2 : ∀ a ∈ l, a ≤ x := fun a ha => h2 a ha x (by simp)
  rw [compact_snoc]
  split
  · rw [List.append_nil]; exact ih h1
  · rename_i hne
    refine List.pairwise_append.2 ⟨ih h1, by simp, fun a ha b hb => ?_⟩
    simp at hb; subst hb
    -- a is below the last, which is below x
    obtain ⟨z, hz⟩ : ∃ z, (Lib.compact l).getLast? = some z := by
      cases hl : (Lib.compact l).getLast? with
      | none => rw [List.getLast?_eq_none_iff] at hl; rw [hl] at ha; cases ha
      | some z => exact ⟨z, rfl⟩
    have hzl : l.getLast? = some z := by rw [← compact_last]; exact hz
    have hzx : z ≠ b := fun e => hne (by rw [hzl, e])
    have hz1 := h2 z (List.mem_of_getLast? hzl)
    obtain ⟨l', hl'⟩ := List.getLast?_eq_some_iff.1 hz
    have hp := ih h1
    rw [hl'] at hp ha
    rcases List.mem_append.1 ha with ha | ha
    · have := (List.pairwise_append.1 hp).2.2 a ha z (by simp)
      omega
    · simp at ha; subst ha; omega
theorem sortI_asc (l : List Int) : (sortI l).Pairwise (fun a b => a ≤ b) := by
  have h1 := List.pairwise_mergeSort (le := fun x y : Int => decide (x ≤ y)) (fun a b c h1 h2 => by simp only [decide_eq_true_eq] at *; omega) (fun a b => by simp only [Bool.or_eq_true, decide_eq_true_eq]; omega) l
  exact h1.imp fun h => by simpa using h
theorem points_asc (g : List Kd) : (points g).Pairwise (fun a b => a < b) := compact_asc _ (sortI_asc _)
theorem confl_chain (g : List Kd) : chainV (confl g) := confGo_chain _ _ _ _ (points_asc g) trivial (fun u f h => by cases h)
end Go.Vc
