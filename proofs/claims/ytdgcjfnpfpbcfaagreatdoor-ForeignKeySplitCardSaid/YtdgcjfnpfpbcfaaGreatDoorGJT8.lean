
import Derived.Test.YtdgcjfnpfpbcfaaGreatDoorGJT7
import Derived.Test.YtdgcjfnpfpbcfaaGreatDoorGJT2
import Derived.Test.YtdgcjfnpfpbcfaaGreatDoorProg
set_option linter.unusedSectionVars false
set_option linter.unusedSimpArgs false
set_option linter.unusedVariables false
namespace Go.Vc
open Go Go.RowKit
theorem tabOK_check : tabCheck Go.Proofs.Tryz.prog tab (List.range 228) = true := by kernel_rfl
theorem tabOK : TabOK Go.Proofs.Tryz.prog tab := by
  intro t i h
  have hlt : t < 228 := by
    unfold tab at h
    split at h
    · assumption
    · simp at h
  exact tabCheck_ok tabOK_check t (List.mem_range.2 hlt) i h
end Go.Vc
/- Common: predicates that functions compute; the first index. -/
namespace Go.Vc
open Go Go.Proofs
theorem mix : Go.Proofs.Tryz.prog.follows .mixedOrders = true := by kernel_rfl
instance (k : IntKind) (e : Int) : Decidable (rng k e) := by cases k <;> (unfold rng; exact inferInstance)
def idxOf {T : Type} (p : T → Bool) : Int → List T → Int
  | _, [] => -1
  | i, x :: r => if p x then i else idxOf p (i + 1) r
/- a predicate that a function value computes in every grown heap -/
def PredFn (P : Program) (T : Type) [Rep T] (H : Heap) (f : FuncId) (q : Value) (p : T → Bool) : Prop :=
  ∀ (H' : Heap) (vs : List Value) (t : T), Heap.le H H' → Rep.rel H' vs t → ConT P f [.agg ⟨vs⟩, q] H' shB (fun b _ => b = p t)
end Go.Vc
