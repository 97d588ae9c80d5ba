/- The laws' sanity check; which types are read as which data. -/
import Derived.Test.YticbeaepmnobnaaF4
import Derived.Test.YticbeaepmnobnaaBr
import Derived.Test.YticbeaepmnobnaaRows
import Derived.ProofKit
set_option linter.unusedSectionVars false
set_option linter.unusedSimpArgs false
set_option linter.unusedVariables false
namespace Go.Vc
open Go Go.Proofs Go.Shelf
theorem norm_awake : norm [⟨5, 9⟩, ⟨0, 5⟩, ⟨20, 30⟩] = [⟨0, 9⟩, ⟨20, 30⟩] := by decide +kernel
def an10 : Ann where
  res := fun _ => none
  lend := fun | 26 => true | 31 => true | 36 => true | _ => false
  sch := fun _ => .done
  lt := fun _ => []
  tup := tups

theorem vc10 (P : Program) (H : Heap)  (post : Bool → Heap → Prop) :
  vcFn P tab an10 Try.f10 [] 0 H ⟨false, [(false, [.bool])]⟩ post =
  (  ∀ (A0 : Option Addr) (c1 : Nat) (H2 : Heap), Heap.le H H2 → Cells H2 A0 0 [.int .i64 (5 : Int), .int .i64 (9 : Int), .int .i64 (0 : Int), .int .i64 (5 : Int), .int .i64 (20 : Int), .int
  .i64 (30 : Int)] → 3 ≤ c1 → ∃ (post6 : Option Addr → Nat → Nat → Heap → Prop), ConT P 14 [.slice A0 3 c1] H2 ⟨false, [(false, [.sl])]⟩ post6 ∧ ∀ (H7 : Heap), Heap.le H2 H7 → ∀ (A9 : Option
  Addr) (n10 c11 : Nat), post6 A9 n10 c11 H7 → (decide ((↑n10 : Int) = (2 : Int)) = true → someA A9 ∧ (0 : Int) ≤ (0 : Int) ∧ (0 : Int) < (↑n10 : Int) ∧ ∃ (n14 : Int), ∃ (n15 : Int), Cells H7
  A9 (Int.toNat (0 : Int) * 2) [.int .i64 n14, .int .i64 n15] ∧ ((decide (n14 = (0 : Int)) && decide (n15 = (9 : Int))) = true → someA A9 ∧ (0 : Int) ≤ (1 : Int) ∧ (1 : Int) < (↑n10 : Int) ∧
  ∃ (n17 : Int), ∃ (n18 : Int), Cells H7 A9 (Int.toNat (1 : Int) * 2) [.int .i64 n17, .int .i64 n18] ∧ ((decide (n17 = (20 : Int)) && decide (n18 = (30 : Int))) = true → ∃ (post20 : Int →
  Heap → Prop), ConT P 16 [.slice A9 n10 c11] H7 ⟨false, [(false, [.int .i64])]⟩ post20 ∧ ∀ (H21 : Heap), Heap.le H7 H21 → ∀ (n23 : Int), post20 n23 H21 → (decide (n23 = (19 : Int)) = true →
  ∃ (post26 : Bool → Heap → Prop), ConT P 11 [.slice A9 n10 c11] H21 ⟨false, [(false, [.bool])]⟩ post26 ∧ ∀ (H27 : Heap), Heap.le H21 H27 → ∀ (b29 : Bool), post26 b29 H27 → (b29 = true → ∃
  (post32 : Bool → Heap → Prop), (∀ (A33 : Option Addr) (c34 : Nat) (H35 : Heap), Heap.le H27 H35 → Cells H35 A33 0 [.int .i64 (0 : Int), .int .i64 (0 : Int)] → 1 ≤ c34 → ConT P 11 [.slice
  A33 1 c34] H35 ⟨false, [(false, [.bool])]⟩ post32) ∧ ∀ (H39 : Heap) (b40 : Bool), post32 b40 H39 → post (!b40) H27) ∧ (b29 = false → post false H27)) ∧ (decide (n23 = (19 : Int)) = false →
  post false H21)) ∧ ((decide (n17 = (20 : Int)) && decide (n18 = (30 : Int))) = false → post false H7)) ∧ ((decide (n14 = (0 : Int)) && decide (n15 = (9 : Int))) = false → post false H7)) ∧
  (decide ((↑n10 : Int) = (2 : Int)) = false → post false H7)) := by kernel_rfl
theorem law5_awake {H : Heap} : ConT Try.prog 10 [] H shB (fun r _ => r = true) := by
  refine con_of_vc (an := an10) (fn := Try.f10) mix tabOK Try.func10 (by kernel_rfl) (extra := 0) ?_
  rw [vc10]
  intro A0 c0 H1 l1 hc hn
  have h0 : Sl H1 A0 3 c0 [(⟨5, 9⟩ : Per), ⟨0, 5⟩, ⟨20, 30⟩] :=
    Row.sl (H := H) (T := Per) (l := [⟨5, 9⟩, ⟨0, 5⟩, ⟨20, 30⟩]) ⟨[_, _], [_, _, _, _], rfl, ⟨rfl, by decide, by decide⟩, [_, _], [_, _], rfl, ⟨rfl, by decide, by decide⟩, [_, _], [], rfl, ⟨rfl, by decide, by decide⟩, rfl⟩ l1 hc rfl hn (by decide) (by decide)
  refine ⟨_, periodset_Normalize h0, ?_⟩
  rw [norm_awake]
  intro H2 l2 A2 n2 c2 h2
  have hl := h2.len
  simp only [List.length_cons, List.length_nil] at hl
  subst hl
  refine ⟨fun _ => ?_, fun h => by simp at h⟩
  obtain ⟨hi0, hA, _, hc0, ⟨rfl, -, -⟩⟩ := h2.at (hle_refl H2) (i := 0) (by omega) (by omega)
  obtain ⟨hi1, hA1, _, hc1, ⟨rfl, -, -⟩⟩ := h2.at (hle_refl H2) (i := 1) (by omega) (by omega)
  refine ⟨hA, by omega, by omega, _, _, hc0, fun _ => ⟨hA, by omega, by omega, _, _, hc1, fun _ => ⟨_, periodset_Len h2, ?_⟩, fun h => by simp at h⟩, fun h => by simp at h⟩
  rintro H3 l3 r rfl
  have e1 : lenS [⟨0, 9⟩, ⟨20, 30⟩] = 19 := by decide +kernel
  rw [e1]
  refine ⟨fun _ => ⟨_, periodset_IsNormal (h2.mono l3), ?_⟩, fun h => by simp at h⟩
  rintro H4 l4 r rfl
  have e2 : nrm [⟨0, 9⟩, ⟨20, 30⟩] = true := by decide +kernel
  rw [e2]
  refine ⟨fun _ => ⟨_, fun A5 c5 H5 l5 hc5 hn5 => periodset_IsNormal (l := [⟨0, 0⟩]) (Row.sl (H := H) (T := Per) (l := [⟨0, 0⟩]) ⟨[_, _], [], rfl, ⟨rfl, by decide, by decide⟩, rfl⟩ (hle_trans l1 (hle_trans l2 (hle_trans l3 (hle_trans l4 l5)))) hc5 rfl hn5 (by decide) (by decide)), ?_⟩, fun h => by simp at h⟩
  rintro H6 r rfl
  decide +kernel
theorem oInt : Opn Try.prog 3 Int := opn_int Try.underlying3 (by kernel_rfl) (by kernel_rfl)
theorem oPer : Opn Try.prog 30 Per := opn_Per ⟨_, Try.underlying30, rfl⟩ oInt (by kernel_rfl) (by kernel_rfl)
theorem oPers : Opn Try.prog 22 (List Per) := opn_slice Try.underlying22 (by kernel_rfl) (by kernel_rfl) oPer
structure U8 where
  n : Int
instance : Rep U8 where
  sz := 1
  byt := 1
  rel _ vs v := vs = [.int .u8 v.n] ∧ rng .u8 v.n
  mono _ h := h
  len h := by simp [h.1]
  pos := by decide
  bpos := by decide
  one h := by rw [h.1]; simp [Value.oneCell']
theorem opn_U8 {P : Program} {t : TypeId} (ht : P.underlying t = some (.int .u8)) (hc : P.cellsOf t = 1) (hb : P.bytesOf t = 1) : Opn P t U8 :=
  ⟨hc, hb, sp_int ht, fun h _ => by obtain ⟨n, rfl, rfl, hw⟩ := DataW.trod_int ht h; exact ⟨⟨n⟩, rfl, wf_rng hw⟩⟩
theorem oU8 : Opn Try.prog 5 U8 := opn_U8 Try.underlying5 (by kernel_rfl) (by kernel_rfl)
theorem few_bound {n m : Nat} (h : (decide (n ≤ 40) && decide (m ≤ 40)) = true) : (n + m) * 16 ≤ 140737488355328 := by
  simp only [Bool.and_eq_true, decide_eq_true_eq] at h; omega
end Go.Vc
