
import Derived.Test.YtkfbbnagniolcaaGH77
import Derived.Test.YtkfbbnagniolcaaGH72
import Derived.Test.YtkfbbnagniolcaaProg
set_option linter.unusedSectionVars false
set_option linter.unusedSimpArgs false
set_option linter.unusedVariables false
namespace Go.Vc
open Go Go.RowKit
theorem tabOK_check : tabCheck Go.Proofs.Try.prog tab (List.range 170) = true := by kernel_rfl
theorem tabOK : TabOK Go.Proofs.Try.prog tab := by
  intro t i h
  have hlt : t < 170 := by
    unfold tab at h
    split at h
    · assumption
    · simp at h
  exact tabCheck_ok tabOK_check t (List.mem_range.2 hlt) i h
end Go.Vc
/- Common: predicates that functions compute; the first index. -/
namespace Go.Vc
open Go Go.Proofs
theorem mix : Go.Proofs.Try.prog.follows .mixedOrders = true := by kernel_rfl
instance (k : IntKind) (e : Int) : Decidable (rng k e) := by cases k <;> (unfold rng; exact inferInstance)
def idxOf {T : Type} (p : T → Bool) : Int → List T → Int
  | _, [] => -1
  | i, x :: r => if p x then i else idxOf p (i + 1) r
theorem idxOf_ge {T : Type} (p : T → Bool) : ∀ (l : List T) (i : Int), 0 ≤ i → (0 ≤ idxOf p i l ↔ l.any p = true)
  | [], i, h => by simp [idxOf]
  | x :: r, i, h => by
    have := idxOf_ge p r (i + 1) (by omega)
    unfold idxOf
    split <;> simp_all
theorem idxOf_bd {T : Type} (p : T → Bool) : ∀ (l : List T) (i : Int), -1 ≤ i → -1 ≤ idxOf p i l ∧ idxOf p i l < i + l.length + 1
  | [], i, h => by simp [idxOf]; omega
  | x :: r, i, h => by
    have := idxOf_bd p r (i + 1) (by omega)
    unfold idxOf
    split <;> simp_all <;> omega
theorem idxOf_in {T : Type} (p : T → Bool) : ∀ (l : List T) (i : Int), 0 ≤ i → 0 ≤ idxOf p i l → idxOf p i l < i + l.length
  | [], i, h0, h => by simp [idxOf] at h
  | x :: r, i, h0, h => by
    simp only [idxOf, List.length_cons] at h ⊢
    split at h
    · rw [if_pos (by assumption)]; omega
    · rw [if_neg (by assumption)]
      have := idxOf_in p r (i + 1) (by omega) h
      omega
/- a predicate that a function value computes in every grown heap -/
def PredFn (P : Program) (T : Type) [Rep T] (H : Heap) (f : FuncId) (q : Value) (p : T → Bool) : Prop :=
  ∀ (H' : Heap) (vs : List Value) (t : T), Heap.le H H' → Rep.rel H' vs t → ConT P f [.agg ⟨vs⟩, q] H' shB (fun b _ => b = p t)
end Go.Vc
