/- The library's contracts at this program: strings.Compare, slices.Sort and slices.Compact on ints; comparing values. -/
import Derived.Test.YteogpcpleokfbaaGJAg8
import Derived.Test.YteogpcpleokfbaaGJAg11
import Derived.Test.YteogpcpleokfbaaGJAg12
import Derived.Shelf.Small.Strs
import Derived.Test.YteogpcpleokfbaaGJAg2
import Derived.Test.YteogpcpleokfbaaGJAg10
set_option linter.unusedSectionVars false
set_option linter.unusedSimpArgs false
set_option linter.unusedVariables false
namespace Go.Vc
open Go Go.Proofs Go.Shelf
def an73 : Ann where
  res := fun _ => none
  lend := fun _ => false
  sch := fun _ => .done
  lt := fun _ => []
  tup := tups

theorem vc73 (P : Program) (H : Heap) (x : Int) (post : Bool → Heap → Prop) :
  vcFn P tab an73 Try.f73 [.int .i64 x] 0 H ⟨false, [(false, [.bool])]⟩ post =
  (  post (!decide (x = x)) H) := by kernel_rfl
theorem cmp_isNaN {x : Int} {H : Heap} : ConT Try.prog 73 [.int .i64 x] H shB (fun r _ => r = false) := by
  refine con_of_vc (an := an73) (fn := Try.f73) mix tabOK Try.func73 (by kernel_rfl) (extra := 0) ?_
  rw [vc73]
  simp
def an49 : Ann where
  res := fun _ => none
  lend := fun | 8 => true | 10 => true | _ => false
  sch := fun _ => .done
  lt := fun _ => []
  tup := tups

theorem vc49 (P : Program) (H : Heap) (x : Int) (y : Int) (post : Int → Heap → Prop) :
  vcFn P tab an49 Try.f49 [.int .i64 x, .int .i64 y] 0 H ⟨false, [(false, [.int .i64])]⟩ post =
  (  ∃ (post0 : Bool → Heap → Prop), ConT P 73 [.int .i64 x] H ⟨false, [(false, [.bool])]⟩ post0 ∧ ∀ (H1 : Heap), Heap.le H H1 → ∀ (b3 : Bool), post0 b3 H1 → ∃ (post5 : Bool → Heap → Prop), ConT
  P 73 [.int .i64 y] H1 ⟨false, [(false, [.bool])]⟩ post5 ∧ ∀ (H6 : Heap), Heap.le H1 H6 → ∀ (b8 : Bool), post5 b8 H6 → (b3 = true → (b8 = true → post (0 : Int) H6) ∧ (b8 = false → post (-1 :
  Int) H6)) ∧ (b3 = false → (b8 = true → post (1 : Int) H6) ∧ (b8 = false → (decide (x < y) = true → post (-1 : Int) H6) ∧ (decide (x < y) = false → (decide (y < x) = true → post (1 : Int)
  H6) ∧ (decide (y < x) = false → post (0 : Int) H6))))) := by kernel_rfl
theorem cmp_Compare {x y : Int} {H : Heap} : ConT Try.prog 49 [.int .i64 x, .int .i64 y] H shI (fun r _ => r = cmpI x y) := by
  refine con_of_vc (an := an49) (fn := Try.f49) mix tabOK Try.func49 (by kernel_rfl) (extra := 0) ?_
  rw [vc49]
  refine ⟨_, cmp_isNaN, ?_⟩
  rintro H1 _ _ rfl
  refine ⟨_, cmp_isNaN, ?_⟩
  rintro H2 _ _ rfl
  grind [cmpI]
end Go.Vc
/- Comparing lists of values; the values at columns; periods. -/
namespace Go.Vc
open Go Go.Proofs Go.Shelf
def val0 : Val := ⟨0, 0, ⟨#[]⟩⟩
def an27 : Ann where
  res := fun _ => none
  lend := fun _ => false
  sch := fun _ => .done
  lt := fun _ => []
  tup := tups

theorem vc27 (P : Program) (H : Heap) (pFrom : Int) (pTo : Int) (post : Bool → Heap → Prop) :
  vcFn P tab an27 Try.f27 [.agg #[.int .i64 pFrom, .int .i64 pTo]] 0 H ⟨false, [(false, [.bool])]⟩ post =
  (  (decide ((0 : Int) ≤ pFrom) = true → (decide (pFrom < pTo) = true → post (decide (pTo ≤ (1099511627776 : Int))) H) ∧ (decide (pFrom < pTo) = false → post false H)) ∧ (decide ((0 : Int) ≤
  pFrom) = false → post false H)) := by kernel_rfl
theorem period_Valid {a b : Int} {H : Heap} : ConT Try.prog 27 [.agg ⟨[.int .i64 a, .int .i64 b]⟩] H shB (fun r _ => r = pOk ⟨a, b⟩) := by
  refine con_of_vc (an := an27) (fn := Try.f27) mix tabOK Try.func27 (by kernel_rfl) (extra := 0) ?_
  rw [vc27]
  grind [pOk]
end Go.Vc
/- Merging in place: plain law. -/
namespace Go.Vc
open Go Go.RowKit Go.Shelf Go.Proofs Go.Sort
section
variable {T : Type}
def srt (cf : T → T → Int) (l : List T) : Prop := l.Pairwise (fun a b => ¬ cf b a < 0)
variable {cf : T → T → Int} (hO : Sort.SWO (ltOf cf))
include hO
end
/- runs of one length -/
section
variable {T : Type}
end
end Go.Vc
/- Merging in place: the recursion's conditions. -/
namespace Go.Vc
open Go Go.RowKit Go.Shelf Go.Proofs Go.Sort
theorem half_u {i j : Int} (h0 : 0 ≤ i + j) (h1 : i + j ≤ 1000000000000000) : IntKind.wrap .u64 (i + j) = i + j := wrap_in (by simp only [rng]; omega)
theorem half_i {x : Int} (h0 : 0 ≤ x) (h1 : x ≤ 1000000000000000) : IntKind.wrap .i64 (Int.fdiv x 2) = x / 2 := by
  rw [Int.fdiv_eq_ediv_of_nonneg _ (by decide)]
  exact wrap_in (by simp only [rng]; omega)
section
variable {P : Program} {f rot : FuncId} {ty : TypeId} {g : FuncId} {T : Type} [Rep T] {cf : T → T → Int} {N : Nat} {s0 : Value}
end
end Go.Vc
/- The order of tuples with key values; sorting them (fewer than twenty). -/
namespace Go.Vc
open Go Go.Proofs Go.Shelf
end Go.Vc
