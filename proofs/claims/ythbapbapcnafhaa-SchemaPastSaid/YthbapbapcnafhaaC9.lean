/- The laws' changes: step and same. -/
import Derived.Test.YthbapbapcnafhaaR7
import Derived.Test.YthbapbapcnafhaaP5
set_option linter.unusedSectionVars false
set_option linter.unusedSimpArgs false
set_option linter.unusedVariables false
namespace Go.Vc
open Go Go.Proofs
def stepName (s : ByteArray) (x : Int) : ByteArray := if 0 < x.tmod 3 then s ++ (if x.tmod 2 = 0 then ⟨⟨[120]⟩⟩ else ⟨⟨[121]⟩⟩) else s
def stepSch (s : TSch) (a c d now : Int) : TSch × Int :=
  if a.tmod 3 = 0 then dropCol s (1 + c.tmod 7) now
  else addCol s ⟨(mkCol (c.tmod 5)).id, stepName (mkCol (c.tmod 5)).name d, (mkCol (c.tmod 5)).kind⟩ now
theorem mkCol_size {i : Int} (h0 : 0 ≤ i) (h5 : i < 5) : (mkCol i).name.size = 1 := by
  obtain rfl | rfl | rfl | rfl | rfl : i = 0 ∨ i = 1 ∨ i = 2 ∨ i = 3 ∨ i = 4 := by omega
  all_goals rfl
theorem u16_tmod {x : Int} (h : rng .u16 x) (k : Int) (hk : 0 < k) : 0 ≤ x.tmod k ∧ x.tmod k < k := by
  simp only [rng] at h
  rw [Int.tmod_eq_emod_of_nonneg h.1]
  exact ⟨Int.emod_nonneg _ (by omega), Int.emod_lt_of_pos _ hk⟩
section
variable {H : Heap} {nm : ByteArray} {A : Option Addr} {n c : Nat} {B : Option Addr} {m d : Nat} {E : Option Addr} {k e : Nat} {F : Option Addr} {l f : Nat} {s : TSch}
def an35 : Ann where
  res := fun _ => none
  lend := fun _ => false
  sch := fun | 5 => (tk [0, 1, 3, 4, 5] (.alt 2 (.alt 6 (.alt 7 (tk [8, 9] (.alt 10 .done .fin)) .fin) .fin) .fin)) | _ => .done
  lt := fun _ => []
  tup := tups

theorem vc35 (P : Program) (H : Heap) (sName : ByteArray) (sVersionsA : Option Addr) (sVersionsN sVersionsC : Nat) (sKeyA : Option Addr) (sKeyN sKeyC : Nat) (sForeignKeysA : Option Addr) (sForeignKeysN sForeignKeysC : Nat) (sConstraintsA : Option Addr) (sConstraintsN sConstraintsC : Nat) (x0 : Int) (x1 : Int) (x2 : Int) (x3 : Int) (now : Int) (post : ByteArray → Option Addr → Nat → Nat → Option Addr → Nat → Nat → Option Addr → Nat → Nat → Option Addr → Nat → Nat → Int → Heap → Prop) :
  vcFn P tab an35 Try.f35 [.agg #[.string sName, .slice sVersionsA sVersionsN sVersionsC, .slice sKeyA sKeyN sKeyC, .slice sForeignKeysA sForeignKeysN sForeignKeysC, .slice sConstraintsA sConstraintsN sConstraintsC], .agg #[.int .u16 x0, .int .u16 x1, .int .u16 x2, .int .u16 x3], .int .i64 now] 0 H ⟨true, [(true, [.str, .sl, .sl, .sl, .sl]), (false, [.int .i64])]⟩ post =
  (  (0 : Int) ≤ (0 : Int) ∧ (0 : Int) < (↑4 : Int) ∧ ∃ (n0 : Int), win [.int .u16 x0, .int .u16 x1, .int .u16 x2, .int .u16 x3] (Int.toNat (0 : Int) * 1) 1 = [.int .u16 n0] ∧ (3 : Int) ≠ (0 :
  Int) ∧ (decide (Int.tmod n0 (3 : Int) = (0 : Int)) = true → (0 : Int) ≤ (2 : Int) ∧ (2 : Int) < (↑4 : Int) ∧ ∃ (n2 : Int), win [.int .u16 x0, .int .u16 x1, .int .u16 x2, .int .u16 x3]
  (Int.toNat (2 : Int) * 1) 1 = [.int .u16 n2] ∧ (7 : Int) ≠ (0 : Int) ∧ ∃ (e3 : Int), IntKind.wrap IntKind.i64 (Int.tmod n2 (7 : Int)) = e3 ∧ rng .i64 ((1 : Int) + e3) ∧ ∃ (post4 : ByteArray
  → Option Addr → Nat → Nat → Option Addr → Nat → Nat → Option Addr → Nat → Nat → Option Addr → Nat → Nat → Int → Heap → Prop), ConT P 31 [.agg ⟨[.string sName, .slice sVersionsA sVersionsN
  sVersionsC, .slice sKeyA sKeyN sKeyC, .slice sForeignKeysA sForeignKeysN sForeignKeysC, .slice sConstraintsA sConstraintsN sConstraintsC]⟩, .int .i64 ((1 : Int) + e3), .int .i64 now] H
  ⟨true, [(true, [.str, .sl, .sl, .sl, .sl]), (false, [.int .i64])]⟩ post4 ∧ ∀ (H5 : Heap), Heap.le H H5 → ∀ (s7 : ByteArray) (A8 : Option Addr) (n9 c10 : Nat) (A11 : Option Addr) (n12 c13 :
  Nat) (A14 : Option Addr) (n15 c16 : Nat) (A17 : Option Addr) (n18 c19 : Nat) (n20 : Int), post4 s7 A8 n9 c10 A11 n12 c13 A14 n15 c16 A17 n18 c19 n20 H5 → post s7 A8 n9 c10 A11 n12 c13 A14
  n15 c16 A17 n18 c19 n20 H5) ∧ (decide (Int.tmod n0 (3 : Int) = (0 : Int)) = false → (0 : Int) ≤ (2 : Int) ∧ (2 : Int) < (↑4 : Int) ∧ ∃ (n23 : Int), win [.int .u16 x0, .int .u16 x1, .int
  .u16 x2, .int .u16 x3] (Int.toNat (2 : Int) * 1) 1 = [.int .u16 n23] ∧ (5 : Int) ≠ (0 : Int) ∧ ∃ (e24 : Int), IntKind.wrap IntKind.i64 (Int.tmod n23 (5 : Int)) = e24 ∧ ∃ (post25 : Int →
  ByteArray → Int → Heap → Prop), ConT P 72 [.int .i64 e24] H ⟨false, [(true, [.int .i64, .str, .int .i64])]⟩ post25 ∧ ∀ (H26 : Heap), Heap.le H H26 → ∀ (n28 : Int) (s29 : ByteArray) (n30 :
  Int), post25 n28 s29 n30 H26 → (0 : Int) ≤ (3 : Int) ∧ (3 : Int) < (↑4 : Int) ∧ ∃ (n32 : Int), win [.int .u16 x0, .int .u16 x1, .int .u16 x2, .int .u16 x3] (Int.toNat (3 : Int) * 1) 1 =
  [.int .u16 n32] ∧ (3 : Int) ≠ (0 : Int) ∧ (decide ((0 : Int) < Int.tmod n32 (3 : Int)) = true → (0 : Int) ≤ (3 : Int) ∧ (3 : Int) < (↑4 : Int) ∧ ∃ (n34 : Int), win [.int .u16 x0, .int .u16
  x1, .int .u16 x2, .int .u16 x3] (Int.toNat (3 : Int) * 1) 1 = [.int .u16 n34] ∧ (2 : Int) ≠ (0 : Int) ∧ (0 : Int) ≤ Int.tmod n34 (2 : Int) ∧ Int.tmod n34 (2 : Int) < (↑2 : Int) ∧ ∃ (s35 :
  ByteArray), win [.string { data := ⟨[(120 : UInt8)]⟩ }, .string { data := ⟨[(121 : UInt8)]⟩ }] (Int.toNat (Int.tmod n34 (2 : Int)) * 1) 1 = [.string s35] ∧ ByteArray.size s29 +
  ByteArray.size s35 ≤ 9223372036854775807 ∧ ∃ (post36 : ByteArray → Option Addr → Nat → Nat → Option Addr → Nat → Nat → Option Addr → Nat → Nat → Option Addr → Nat → Nat → Int → Heap →
  Prop), ConT P 29 [.agg ⟨[.string sName, .slice sVersionsA sVersionsN sVersionsC, .slice sKeyA sKeyN sKeyC, .slice sForeignKeysA sForeignKeysN sForeignKeysC, .slice sConstraintsA
  sConstraintsN sConstraintsC]⟩, .agg ⟨[.int .i64 n28, .string (s29 ++ s35), .int .i64 n30]⟩, .int .i64 now] H26 ⟨true, [(true, [.str, .sl, .sl, .sl, .sl]), (false, [.int .i64])]⟩ post36 ∧ ∀
  (H37 : Heap), Heap.le H26 H37 → ∀ (s39 : ByteArray) (A40 : Option Addr) (n41 c42 : Nat) (A43 : Option Addr) (n44 c45 : Nat) (A46 : Option Addr) (n47 c48 : Nat) (A49 : Option Addr) (n50 c51
  : Nat) (n52 : Int), post36 s39 A40 n41 c42 A43 n44 c45 A46 n47 c48 A49 n50 c51 n52 H37 → post s39 A40 n41 c42 A43 n44 c45 A46 n47 c48 A49 n50 c51 n52 H37) ∧ (decide ((0 : Int) < Int.tmod
  n32 (3 : Int)) = false → ∃ (post55 : ByteArray → Option Addr → Nat → Nat → Option Addr → Nat → Nat → Option Addr → Nat → Nat → Option Addr → Nat → Nat → Int → Heap → Prop), ConT P 29 [.agg
  ⟨[.string sName, .slice sVersionsA sVersionsN sVersionsC, .slice sKeyA sKeyN sKeyC, .slice sForeignKeysA sForeignKeysN sForeignKeysC, .slice sConstraintsA sConstraintsN sConstraintsC]⟩,
  .agg ⟨[.int .i64 n28, .string s29, .int .i64 n30]⟩, .int .i64 now] H26 ⟨true, [(true, [.str, .sl, .sl, .sl, .sl]), (false, [.int .i64])]⟩ post55 ∧ ∀ (H56 : Heap), Heap.le H26 H56 → ∀ (s58 :
  ByteArray) (A59 : Option Addr) (n60 c61 : Nat) (A62 : Option Addr) (n63 c64 : Nat) (A65 : Option Addr) (n66 c67 : Nat) (A68 : Option Addr) (n69 c70 : Nat) (n71 : Int), post55 s58 A59 n60
  c61 A62 n63 c64 A65 n66 c67 A68 n69 c70 n71 H56 → post s58 A59 n60 c61 A62 n63 c64 A65 n66 c67 A68 n69 c70 n71 H56))) := by kernel_rfl
theorem law21_step {a b x y now : Int} (hs : IsTSch H nm A n c B m d E k e F l f s) (ha : rng .u16 a) (hx : rng .u16 x) (hy : rng .u16 y) (hnow : rng .i64 now) (hlim : s.vers.length ≤ 3000000000000) :
    ConT Try.prog 35 [.agg ⟨[.string nm, .slice A n c, .slice B m d, .slice E k e, .slice F l f]⟩, .agg ⟨[.int .u16 a, .int .u16 b, .int .u16 x, .int .u16 y]⟩, .int .i64 now] H shTSI
      (fun nm' A' n' c' B' m' d' E' k' e' F' l' f' r H' => IsTSch H' nm' A' n' c' B' m' d' E' k' e' F' l' f' (stepSch s a x y now).1 ∧ r = (stepSch s a x y now).2) := by
  refine con_of_vc (an := an35) (fn := Try.f35) mix tabOK Try.func35 (by kernel_rfl) (extra := 0) ?_
  rw [vc35]
  have x7 := u16_tmod hx 7 (by omega)
  have x5 := u16_tmod hx 5 (by omega)
  have y2 := u16_tmod hy 2 (by omega)
  unfold stepSch
  refine ⟨by decide, by decide, a, rfl, by decide, fun h => ⟨by decide, by decide, x, rfl, by decide, x.tmod 7, IntWalk.i64_in _ (by omega), by simp only [rng]; omega, ?_⟩, fun h => ⟨by decide, by decide, x, rfl, by decide, x.tmod 5, IntWalk.i64_in _ (by omega), _, law0_Column x5.1 x5.2, ?_⟩⟩
  · rw [if_pos (of_decide_eq_true h)]
    exact ⟨_, schema_DropColumn hs hnow hlim, fun _ _ _ _ _ _ _ _ _ _ _ _ _ _ _ _ h => h⟩
  rw [if_neg (of_decide_eq_false h)]
  rintro H1 l1 p q r ⟨e1, r1, r2, r3⟩
  have hsz := mkCol_size x5.1 x5.2
  rw [← e1] at hsz ⊢
  dsimp only at hsz ⊢
  unfold stepName
  refine ⟨by decide, by decide, y, rfl, by decide, fun h => ⟨by decide, by decide, y, rfl, by decide, y2.1, y2.2, if y.tmod 2 = 0 then ⟨⟨[120]⟩⟩ else ⟨⟨[121]⟩⟩, ?_, ?_, ?_⟩, fun h => ?_⟩
  · obtain h0 | h0 : y.tmod 2 = 0 ∨ y.tmod 2 = 1 := by omega
    all_goals rw [h0]; rfl
  · have : (if y.tmod 2 = 0 then (⟨⟨[120]⟩⟩ : ByteArray) else ⟨⟨[121]⟩⟩).size = 1 := by split <;> rfl
    omega
  · rw [if_pos (of_decide_eq_true h)]
    refine ⟨_, schema_AddColumn (hs.mono l1) ?_ r3 hnow hlim, fun _ _ _ _ _ _ _ _ _ _ _ _ _ _ _ _ h => h⟩
    have : (if y.tmod 2 = 0 then (⟨⟨[120]⟩⟩ : ByteArray) else ⟨⟨[121]⟩⟩).size = 1 := by split <;> rfl
    simp only [str, ByteArray.size_append]
    omega
  · rw [if_neg (of_decide_eq_false h)]
    exact ⟨_, schema_AddColumn (hs.mono l1) r2 r3 hnow hlim, fun _ _ _ _ _ _ _ _ _ _ _ _ _ _ _ _ h => h⟩
def an36 : Ann where
  res := fun _ => none
  lend := fun _ => false
  sch := fun | 5 => (tk [0, 1, 3, 4, 5] (.alt 2 (.alt 6 (.alt 7 (tk [8, 9] (.alt 10 .done .fin)) .fin) .fin) .fin)) | _ => .done
  lt := fun _ => []
  tup := tups

theorem vc36 (P : Program) (H : Heap) (sName : ByteArray) (sVersionsA : Option Addr) (sVersionsN sVersionsC : Nat) (sKeyA : Option Addr) (sKeyN sKeyC : Nat) (sForeignKeysA : Option Addr) (sForeignKeysN sForeignKeysC : Nat) (sConstraintsA : Option Addr) (sConstraintsN sConstraintsC : Nat) (x0 : Int) (x1 : Int) (x2 : Int) (x3 : Int) (now : Int) (post : ByteArray → Option Addr → Nat → Nat → Option Addr → Nat → Nat → Option Addr → Nat → Nat → Option Addr → Nat → Nat → Int → Heap → Prop) :
  vcFn P tab an36 Try.f36 [.agg #[.string sName, .slice sVersionsA sVersionsN sVersionsC, .slice sKeyA sKeyN sKeyC, .slice sForeignKeysA sForeignKeysN sForeignKeysC, .slice sConstraintsA sConstraintsN sConstraintsC], .agg #[.int .u16 x0, .int .u16 x1, .int .u16 x2, .int .u16 x3], .int .i64 now] 0 H ⟨true, [(true, [.str, .sl, .sl, .sl, .sl]), (false, [.int .i64])]⟩ post =
  (  (0 : Int) ≤ (0 : Int) ∧ (0 : Int) < (↑4 : Int) ∧ ∃ (n0 : Int), win [.int .u16 x0, .int .u16 x1, .int .u16 x2, .int .u16 x3] (Int.toNat (0 : Int) * 1) 1 = [.int .u16 n0] ∧ (3 : Int) ≠ (0 :
  Int) ∧ (decide (Int.tmod n0 (3 : Int) = (0 : Int)) = true → (0 : Int) ≤ (2 : Int) ∧ (2 : Int) < (↑4 : Int) ∧ ∃ (n2 : Int), win [.int .u16 x0, .int .u16 x1, .int .u16 x2, .int .u16 x3]
  (Int.toNat (2 : Int) * 1) 1 = [.int .u16 n2] ∧ (7 : Int) ≠ (0 : Int) ∧ ∃ (e3 : Int), IntKind.wrap IntKind.i64 (Int.tmod n2 (7 : Int)) = e3 ∧ rng .i64 ((1 : Int) + e3) ∧ ∃ (post4 : ByteArray
  → Option Addr → Nat → Nat → Option Addr → Nat → Nat → Option Addr → Nat → Nat → Option Addr → Nat → Nat → Int → Heap → Prop), ConT P 32 [.agg ⟨[.string sName, .slice sVersionsA sVersionsN
  sVersionsC, .slice sKeyA sKeyN sKeyC, .slice sForeignKeysA sForeignKeysN sForeignKeysC, .slice sConstraintsA sConstraintsN sConstraintsC]⟩, .int .i64 ((1 : Int) + e3), .int .i64 now] H
  ⟨true, [(true, [.str, .sl, .sl, .sl, .sl]), (false, [.int .i64])]⟩ post4 ∧ ∀ (H5 : Heap), Heap.le H H5 → ∀ (s7 : ByteArray) (A8 : Option Addr) (n9 c10 : Nat) (A11 : Option Addr) (n12 c13 :
  Nat) (A14 : Option Addr) (n15 c16 : Nat) (A17 : Option Addr) (n18 c19 : Nat) (n20 : Int), post4 s7 A8 n9 c10 A11 n12 c13 A14 n15 c16 A17 n18 c19 n20 H5 → post s7 A8 n9 c10 A11 n12 c13 A14
  n15 c16 A17 n18 c19 n20 H5) ∧ (decide (Int.tmod n0 (3 : Int) = (0 : Int)) = false → (0 : Int) ≤ (2 : Int) ∧ (2 : Int) < (↑4 : Int) ∧ ∃ (n23 : Int), win [.int .u16 x0, .int .u16 x1, .int
  .u16 x2, .int .u16 x3] (Int.toNat (2 : Int) * 1) 1 = [.int .u16 n23] ∧ (5 : Int) ≠ (0 : Int) ∧ ∃ (e24 : Int), IntKind.wrap IntKind.i64 (Int.tmod n23 (5 : Int)) = e24 ∧ ∃ (post25 : Int →
  ByteArray → Int → Heap → Prop), ConT P 72 [.int .i64 e24] H ⟨false, [(true, [.int .i64, .str, .int .i64])]⟩ post25 ∧ ∀ (H26 : Heap), Heap.le H H26 → ∀ (n28 : Int) (s29 : ByteArray) (n30 :
  Int), post25 n28 s29 n30 H26 → (0 : Int) ≤ (3 : Int) ∧ (3 : Int) < (↑4 : Int) ∧ ∃ (n32 : Int), win [.int .u16 x0, .int .u16 x1, .int .u16 x2, .int .u16 x3] (Int.toNat (3 : Int) * 1) 1 =
  [.int .u16 n32] ∧ (3 : Int) ≠ (0 : Int) ∧ (decide ((0 : Int) < Int.tmod n32 (3 : Int)) = true → (0 : Int) ≤ (3 : Int) ∧ (3 : Int) < (↑4 : Int) ∧ ∃ (n34 : Int), win [.int .u16 x0, .int .u16
  x1, .int .u16 x2, .int .u16 x3] (Int.toNat (3 : Int) * 1) 1 = [.int .u16 n34] ∧ (2 : Int) ≠ (0 : Int) ∧ (0 : Int) ≤ Int.tmod n34 (2 : Int) ∧ Int.tmod n34 (2 : Int) < (↑2 : Int) ∧ ∃ (s35 :
  ByteArray), win [.string { data := ⟨[(120 : UInt8)]⟩ }, .string { data := ⟨[(121 : UInt8)]⟩ }] (Int.toNat (Int.tmod n34 (2 : Int)) * 1) 1 = [.string s35] ∧ ByteArray.size s29 +
  ByteArray.size s35 ≤ 9223372036854775807 ∧ ∃ (post36 : ByteArray → Option Addr → Nat → Nat → Option Addr → Nat → Nat → Option Addr → Nat → Nat → Option Addr → Nat → Nat → Int → Heap →
  Prop), ConT P 30 [.agg ⟨[.string sName, .slice sVersionsA sVersionsN sVersionsC, .slice sKeyA sKeyN sKeyC, .slice sForeignKeysA sForeignKeysN sForeignKeysC, .slice sConstraintsA
  sConstraintsN sConstraintsC]⟩, .agg ⟨[.int .i64 n28, .string (s29 ++ s35), .int .i64 n30]⟩, .int .i64 now] H26 ⟨true, [(true, [.str, .sl, .sl, .sl, .sl]), (false, [.int .i64])]⟩ post36 ∧ ∀
  (H37 : Heap), Heap.le H26 H37 → ∀ (s39 : ByteArray) (A40 : Option Addr) (n41 c42 : Nat) (A43 : Option Addr) (n44 c45 : Nat) (A46 : Option Addr) (n47 c48 : Nat) (A49 : Option Addr) (n50 c51
  : Nat) (n52 : Int), post36 s39 A40 n41 c42 A43 n44 c45 A46 n47 c48 A49 n50 c51 n52 H37 → post s39 A40 n41 c42 A43 n44 c45 A46 n47 c48 A49 n50 c51 n52 H37) ∧ (decide ((0 : Int) < Int.tmod
  n32 (3 : Int)) = false → ∃ (post55 : ByteArray → Option Addr → Nat → Nat → Option Addr → Nat → Nat → Option Addr → Nat → Nat → Option Addr → Nat → Nat → Int → Heap → Prop), ConT P 30 [.agg
  ⟨[.string sName, .slice sVersionsA sVersionsN sVersionsC, .slice sKeyA sKeyN sKeyC, .slice sForeignKeysA sForeignKeysN sForeignKeysC, .slice sConstraintsA sConstraintsN sConstraintsC]⟩,
  .agg ⟨[.int .i64 n28, .string s29, .int .i64 n30]⟩, .int .i64 now] H26 ⟨true, [(true, [.str, .sl, .sl, .sl, .sl]), (false, [.int .i64])]⟩ post55 ∧ ∀ (H56 : Heap), Heap.le H26 H56 → ∀ (s58 :
  ByteArray) (A59 : Option Addr) (n60 c61 : Nat) (A62 : Option Addr) (n63 c64 : Nat) (A65 : Option Addr) (n66 c67 : Nat) (A68 : Option Addr) (n69 c70 : Nat) (n71 : Int), post55 s58 A59 n60
  c61 A62 n63 c64 A65 n66 c67 A68 n69 c70 n71 H56 → post s58 A59 n60 c61 A62 n63 c64 A65 n66 c67 A68 n69 c70 n71 H56))) := by kernel_rfl
theorem law21_same {a b x y now : Int} (hs : IsTSch H nm A n c B m d E k e F l f s) (ha : rng .u16 a) (hx : rng .u16 x) (hy : rng .u16 y) (hnow : rng .i64 now) (hlim : s.vers.length ≤ 3000000000000) :
    ConT Try.prog 36 [.agg ⟨[.string nm, .slice A n c, .slice B m d, .slice E k e, .slice F l f]⟩, .agg ⟨[.int .u16 a, .int .u16 b, .int .u16 x, .int .u16 y]⟩, .int .i64 now] H shTSI
      (fun nm' A' n' c' B' m' d' E' k' e' F' l' f' r H' => IsTSch H' nm' A' n' c' B' m' d' E' k' e' F' l' f' (stepSch s a x y now).1 ∧ r = (stepSch s a x y now).2) := by
  refine con_of_vc (an := an36) (fn := Try.f36) mix tabOK Try.func36 (by kernel_rfl) (extra := 0) ?_
  rw [vc36]
  have x7 := u16_tmod hx 7 (by omega)
  have x5 := u16_tmod hx 5 (by omega)
  have y2 := u16_tmod hy 2 (by omega)
  unfold stepSch
  refine ⟨by decide, by decide, a, rfl, by decide, fun h => ⟨by decide, by decide, x, rfl, by decide, x.tmod 7, IntWalk.i64_in _ (by omega), by simp only [rng]; omega, ?_⟩, fun h => ⟨by decide, by decide, x, rfl, by decide, x.tmod 5, IntWalk.i64_in _ (by omega), _, law0_Column x5.1 x5.2, ?_⟩⟩
  · rw [if_pos (of_decide_eq_true h)]
    exact ⟨_, ref21_DropColumn hs hnow hlim, fun _ _ _ _ _ _ _ _ _ _ _ _ _ _ _ _ h => h⟩
  rw [if_neg (of_decide_eq_false h)]
  rintro H1 l1 p q r ⟨e1, r1, r2, r3⟩
  have hsz := mkCol_size x5.1 x5.2
  rw [← e1] at hsz ⊢
  dsimp only at hsz ⊢
  unfold stepName
  refine ⟨by decide, by decide, y, rfl, by decide, fun h => ⟨by decide, by decide, y, rfl, by decide, y2.1, y2.2, if y.tmod 2 = 0 then ⟨⟨[120]⟩⟩ else ⟨⟨[121]⟩⟩, ?_, ?_, ?_⟩, fun h => ?_⟩
  · obtain h0 | h0 : y.tmod 2 = 0 ∨ y.tmod 2 = 1 := by omega
    all_goals rw [h0]; rfl
  · have : (if y.tmod 2 = 0 then (⟨⟨[120]⟩⟩ : ByteArray) else ⟨⟨[121]⟩⟩).size = 1 := by split <;> rfl
    omega
  · rw [if_pos (of_decide_eq_true h)]
    refine ⟨_, ref21_AddColumn (hs.mono l1) ?_ r3 hnow hlim, fun _ _ _ _ _ _ _ _ _ _ _ _ _ _ _ _ h => h⟩
    have : (if y.tmod 2 = 0 then (⟨⟨[120]⟩⟩ : ByteArray) else ⟨⟨[121]⟩⟩).size = 1 := by split <;> rfl
    simp only [str, ByteArray.size_append]
    omega
  · rw [if_neg (of_decide_eq_false h)]
    exact ⟨_, ref21_AddColumn (hs.mono l1) r2 r3 hnow hlim, fun _ _ _ _ _ _ _ _ _ _ _ _ _ _ _ _ h => h⟩
end
end Go.Vc
