/- Names, kinds, IDs, periods: contracts of the small functions. -/
import Derived.Test.YthbapbapcnafhaaApi
import Derived.Test.YthbapbapcnafhaaVcS18
import Derived.Test.YthbapbapcnafhaaVcTab
set_option linter.unusedSectionVars false
set_option linter.unusedSimpArgs false
set_option linter.unusedVariables false
namespace Go.Vc
open Go Go.Proofs
theorem mix : Go.Proofs.Try.prog.follows .mixedOrders = true := by kernel_rfl

def identB (c : Int) : Bool := decide (97 ≤ c) && decide (c ≤ 122) || decide (48 ≤ c) && decide (c ≤ 57) || decide (c = 95)
def allB (s : ByteArray) (f : Int → Bool) : Bool := (List.range s.size).all fun i => f (byteAt s i)
def validName (s : ByteArray) : Bool := decide (1 ≤ s.size) && decide (s.size ≤ 20) && decide (97 ≤ byteAt s 0) && decide (byteAt s 0 ≤ 122) && allB s identB
theorem allB_iff {s : ByteArray} {f : Int → Bool} : allB s f = true ↔ ∀ i : Int, 0 ≤ i → i < s.size → f (byteAt s i) = true := by
  unfold allB
  simp only [List.all_eq_true, List.mem_range]
  exact ⟨fun h i h0 h1 => by have := h i.toNat (by omega); rwa [Int.toNat_of_nonneg h0] at this, fun h i hi => h i (by omega) (by omega)⟩
def an38 : Ann where
  res := fun _ => none
  lend := fun _ => false
  sch := fun _ => .done
  lt := fun _ => []
  tup := tups

theorem vc38 (P : Program) (H : Heap) (c : Int) (post : Bool → Heap → Prop) :
  vcFn P tab an38 Try.f38 [.int .u8 c] 0 H ⟨false, [(false, [.bool])]⟩ post =
  (  (decide ((97 : Int) ≤ c) = true → (decide (c ≤ (122 : Int)) = true → post true H) ∧ (decide (c ≤ (122 : Int)) = false → (decide ((48 : Int) ≤ c) = true → (decide (c ≤ (57 : Int)) = true →
  post true H) ∧ (decide (c ≤ (57 : Int)) = false → post (decide (c = (95 : Int))) H)) ∧ (decide ((48 : Int) ≤ c) = false → post (decide (c = (95 : Int))) H))) ∧ (decide ((97 : Int) ≤ c) =
  false → (decide ((48 : Int) ≤ c) = true → (decide (c ≤ (57 : Int)) = true → post true H) ∧ (decide (c ≤ (57 : Int)) = false → post (decide (c = (95 : Int))) H)) ∧ (decide ((48 : Int) ≤ c) =
  false → post (decide (c = (95 : Int))) H))) := by kernel_rfl
theorem schema_identByte {c : Int} {H : Heap} : ConT Try.prog 38 [.int .u8 c] H ⟨false, [(false, [.bool])]⟩ (fun b _ => b = identB c) := by
  refine con_of_vc (an := an38) (fn := Try.f38) mix tabOK Try.func38 (by kernel_rfl) (extra := 0) ?_
  rw [vc38]
  grind [identB]
def an10 : Ann where
  res := fun _ => none
  lend := fun | 31 => true | _ => false
  sch := fun _ => .done
  lt := fun | 4 => [.slot 3 false [.int .i64]] | _ => []
  tup := tups

theorem vc10 (P : Program) (H : Heap) (s : ByteArray) (post : Bool → Heap → Prop) :
  vcFn P tab an10 Try.f10 [.string s] 0 H ⟨false, [(false, [.bool])]⟩ post =
  (  (decide ((↑(ByteArray.size s) : Int) < (1 : Int)) = true → post false H) ∧ (decide ((↑(ByteArray.size s) : Int) < (1 : Int)) = false → (decide ((20 : Int) < (↑(ByteArray.size s) : Int)) =
  true → post false H) ∧ (decide ((20 : Int) < (↑(ByteArray.size s) : Int)) = false → (0 : Int) ≤ (0 : Int) ∧ (0 : Int) < (↑(ByteArray.size s) : Int) ∧ (decide (byteAt s (0 : Int) < (97 :
  Int)) = true → post false H) ∧ (decide (byteAt s (0 : Int) < (97 : Int)) = false → (0 : Int) ≤ (0 : Int) ∧ (0 : Int) < (↑(ByteArray.size s) : Int) ∧ (decide ((122 : Int) < byteAt s (0 :
  Int)) = true → post false H) ∧ (decide ((122 : Int) < byteAt s (0 : Int)) = false → ∃ (inv8 : Int → Heap → Prop), ∃ (m9 : Int → Nat), inv8 (1 : Int) H ∧ ∀ (H10 : Heap), Heap.le H H10 → ∀
  (n12 : Int), inv8 n12 H10 → (decide (n12 < (↑(ByteArray.size s) : Int)) = true → (0 : Int) ≤ n12 ∧ n12 < (↑(ByteArray.size s) : Int) ∧ ∃ (post15 : Bool → Heap → Prop), ConT P 38 [.int .u8
  (byteAt s n12)] H10 ⟨false, [(false, [.bool])]⟩ post15 ∧ ∀ (H16 : Heap), Heap.le H10 H16 → ∀ (b18 : Bool), post15 b18 H16 → ((!b18) = true → post false H16) ∧ ((!b18) = false → rng .i64
  (n12 + (1 : Int)) ∧ inv8 (n12 + (1 : Int)) H16 ∧ m9 (n12 + (1 : Int)) < m9 n12)) ∧ (decide (n12 < (↑(ByteArray.size s) : Int)) = false → post true H10)))))) := by kernel_rfl
theorem schema_ValidName {s : ByteArray} {H : Heap} : ConT Try.prog 10 [.string s] H ⟨false, [(false, [.bool])]⟩ (fun b _ => b = validName s) := by
  refine con_of_vc (an := an10) (fn := Try.f10) mix tabOK Try.func10 (by kernel_rfl) (extra := 0) ?_
  rw [vc10]
  have hb := @allB_iff s identB
  simp only [decide_eq_true_eq, decide_eq_false_iff_not]
  refine ⟨fun h => by grind [validName], fun h => ⟨fun h => by grind [validName], fun h => ⟨by omega, by omega, fun h => by grind [validName], fun h => ⟨by omega, by omega, fun h => by grind [validName], fun h =>
    ⟨fun n _ => 1 ≤ n ∧ n ≤ s.size ∧ ∀ i : Int, 0 ≤ i → i < n → identB (byteAt s i) = true, fun n => s.size - n.toNat, ⟨by omega, by omega, ?_⟩, ?_⟩⟩⟩⟩⟩
  · intro i h0 h1
    have : i = 0 := by omega
    grind [identB]
  · intro H10 _ n ⟨h1, h2, h3⟩
    refine ⟨fun hlt => ⟨by omega, hlt, _, schema_identByte, ?_⟩, fun h => by grind [validName]⟩
    rintro H11 _ b rfl
    refine ⟨fun h => ?_, fun h => ⟨?_, ⟨by omega, by omega, ?_⟩, by dsimp only; omega⟩⟩
    · grind [validName]
    · simp only [rng]; omega
    · grind
def an11 : Ann where
  res := fun _ => none
  lend := fun _ => false
  sch := fun _ => .done
  lt := fun | 4 => [.slot 3 false [.int .i64]] | _ => []
  tup := tups

theorem vc11 (P : Program) (H : Heap) (s : ByteArray) (post : Bool → Heap → Prop) :
  vcFn P tab an11 Try.f11 [.string s] 0 H ⟨false, [(false, [.bool])]⟩ post =
  (  (decide ((↑(ByteArray.size s) : Int) = (0 : Int)) = true → post false H) ∧ (decide ((↑(ByteArray.size s) : Int) = (0 : Int)) = false → (decide ((20 : Int) < (↑(ByteArray.size s) : Int)) =
  true → post false H) ∧ (decide ((20 : Int) < (↑(ByteArray.size s) : Int)) = false → (0 : Int) ≤ (0 : Int) ∧ (0 : Int) < (↑(ByteArray.size s) : Int) ∧ (decide (byteAt s (0 : Int) < (97 :
  Int)) = true → post false H) ∧ (decide (byteAt s (0 : Int) < (97 : Int)) = false → (0 : Int) ≤ (0 : Int) ∧ (0 : Int) < (↑(ByteArray.size s) : Int) ∧ (decide ((122 : Int) < byteAt s (0 :
  Int)) = true → post false H) ∧ (decide ((122 : Int) < byteAt s (0 : Int)) = false → ∃ (inv8 : Int → Heap → Prop), ∃ (m9 : Int → Nat), inv8 (0 : Int) H ∧ ∀ (H10 : Heap), Heap.le H H10 → ∀
  (n12 : Int), inv8 n12 H10 → (decide (n12 < (↑(ByteArray.size s) : Int)) = true → (0 : Int) ≤ n12 ∧ n12 < (↑(ByteArray.size s) : Int) ∧ (decide (byteAt s n12 < (97 : Int)) = true → (decide
  (byteAt s n12 < (48 : Int)) = true → ((!decide (byteAt s n12 = (95 : Int))) = true → post false H10) ∧ ((!decide (byteAt s n12 = (95 : Int))) = false → rng .i64 (n12 + (1 : Int)) ∧ inv8
  (n12 + (1 : Int)) H10 ∧ m9 (n12 + (1 : Int)) < m9 n12)) ∧ (decide (byteAt s n12 < (48 : Int)) = false → (decide ((57 : Int) < byteAt s n12) = true → ((!decide (byteAt s n12 = (95 : Int))) =
  true → post false H10) ∧ ((!decide (byteAt s n12 = (95 : Int))) = false → rng .i64 (n12 + (1 : Int)) ∧ inv8 (n12 + (1 : Int)) H10 ∧ m9 (n12 + (1 : Int)) < m9 n12)) ∧ (decide ((57 : Int) <
  byteAt s n12) = false → rng .i64 (n12 + (1 : Int)) ∧ inv8 (n12 + (1 : Int)) H10 ∧ m9 (n12 + (1 : Int)) < m9 n12))) ∧ (decide (byteAt s n12 < (97 : Int)) = false → (decide ((122 : Int) <
  byteAt s n12) = true → (decide (byteAt s n12 < (48 : Int)) = true → ((!decide (byteAt s n12 = (95 : Int))) = true → post false H10) ∧ ((!decide (byteAt s n12 = (95 : Int))) = false → rng
  .i64 (n12 + (1 : Int)) ∧ inv8 (n12 + (1 : Int)) H10 ∧ m9 (n12 + (1 : Int)) < m9 n12)) ∧ (decide (byteAt s n12 < (48 : Int)) = false → (decide ((57 : Int) < byteAt s n12) = true → ((!decide
  (byteAt s n12 = (95 : Int))) = true → post false H10) ∧ ((!decide (byteAt s n12 = (95 : Int))) = false → rng .i64 (n12 + (1 : Int)) ∧ inv8 (n12 + (1 : Int)) H10 ∧ m9 (n12 + (1 : Int)) < m9
  n12)) ∧ (decide ((57 : Int) < byteAt s n12) = false → rng .i64 (n12 + (1 : Int)) ∧ inv8 (n12 + (1 : Int)) H10 ∧ m9 (n12 + (1 : Int)) < m9 n12))) ∧ (decide ((122 : Int) < byteAt s n12) =
  false → rng .i64 (n12 + (1 : Int)) ∧ inv8 (n12 + (1 : Int)) H10 ∧ m9 (n12 + (1 : Int)) < m9 n12))) ∧ (decide (n12 < (↑(ByteArray.size s) : Int)) = false → post true H10)))))) := by kernel_rfl
theorem ref21_ValidName {s : ByteArray} {H : Heap} : ConT Try.prog 11 [.string s] H ⟨false, [(false, [.bool])]⟩ (fun b _ => b = validName s) := by
  refine con_of_vc (an := an11) (fn := Try.f11) mix tabOK Try.func11 (by kernel_rfl) (extra := 0) ?_
  rw [vc11]
  have hb := @allB_iff s identB
  simp only [decide_eq_true_eq, decide_eq_false_iff_not]
  refine ⟨fun h => by grind [validName], fun h => ⟨fun h => by grind [validName], fun h => ⟨by omega, by omega, fun h => by grind [validName], fun h => ⟨by omega, by omega, fun h => by grind [validName], fun h =>
    ⟨fun n _ => 0 ≤ n ∧ n ≤ s.size ∧ ∀ i : Int, 0 ≤ i → i < n → identB (byteAt s i) = true, fun n => s.size - n.toNat, ⟨by omega, by omega, by omega⟩, ?_⟩⟩⟩⟩⟩
  · intro H10 _ n ⟨h1, h2, h3⟩
    refine ⟨fun hlt => ⟨by omega, hlt, ?_⟩, fun h => by grind [validName]⟩
    have hr : rng .i64 (n + 1) := by simp only [rng]; omega
    have hc : identB (byteAt s n) = true → ∀ i : Int, 0 ≤ i → i < n + 1 → identB (byteAt s i) = true := by grind
    have hd : identB (byteAt s n) = false → validName s = false := by grind [validName]
    have hm : s.size - (n + 1).toNat < s.size - n.toNat := by omega
    dsimp only
    repeat' (first | apply And.intro | intro _)
    all_goals grind [identB]
end Go.Vc
