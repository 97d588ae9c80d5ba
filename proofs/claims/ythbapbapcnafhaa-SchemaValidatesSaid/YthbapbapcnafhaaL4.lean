/- SchemaValidates: Validate, At, Width and Index agree with the definition, for arbitrary schemas. No conditions. -/
import Derived.Test.YthbapbapcnafhaaR4
import Derived.Test.YthbapbapcnafhaaO1
set_option linter.unusedSectionVars false
set_option linter.unusedSimpArgs false
set_option linter.unusedVariables false
namespace Go.Vc
open Go Go.Proofs
section
variable {H : Heap} {nm : ByteArray} {A : Option Addr} {n c : Nat} {B : Option Addr} {m d : Nat} {E : Option Addr} {k e : Nat} {F : Option Addr} {l f : Nat} {s : TSch}
def an4 : Ann where
  res := fun _ => none
  lend := fun | 14 => true | 16 => true | 45 => true | 52 => true | 55 => true | 58 => true | 60 => true | 71 => true | 75 => true | 77 => true | _ => false
  sch := fun | 5 => (tk [0, 1, 2, 3, 4, 5, 6, 7, 8, 9, 10, 11, 12, 13, 14, 15, 17, 18, 19, 20, 21, 22] (.alt 16 (.alt 23 (tk [24, 25] .done) .fin) .fin)) | 7 => (.alt 0 (tk [1, 2, 4] (.alt 3 (.alt 5 (tk [6, 7, 8, 9, 10, 11, 12, 13, 14, 15] (.alt 16 (tk [17, 18, 19, 21] (.alt 20 (.alt 22 (tk [23, 24, 25] .done) .fin) .fin)) .fin)) .fin) .fin)) .fin) | _ => .done
  lt := fun _ => []
  tup := tups

theorem vc4 (P : Program) (H : Heap) (sName : ByteArray) (sVersionsA : Option Addr) (sVersionsN sVersionsC : Nat) (sKeyA : Option Addr) (sKeyN sKeyC : Nat) (sForeignKeysA : Option Addr) (sForeignKeysN sForeignKeysC : Nat) (sConstraintsA : Option Addr) (sConstraintsN sConstraintsC : Nat) (p1 : Int) (p2 : ByteArray) (p3 : Int) (post : Bool → Heap → Prop) :
  vcFn P tab an4 Try.f4 [.agg #[.string sName, .slice sVersionsA sVersionsN sVersionsC, .slice sKeyA sKeyN sKeyC, .slice sForeignKeysA sForeignKeysN sForeignKeysC, .slice sConstraintsA sConstraintsN sConstraintsC], .int .i64 p1, .string p2, .int .i64 p3] 0 H ⟨false, [(false, [.bool])]⟩ post =
  (  ∃ (post0 : Bool → Heap → Prop), ConT P 12 [.agg ⟨[.string sName, .slice sVersionsA sVersionsN sVersionsC, .slice sKeyA sKeyN sKeyC, .slice sForeignKeysA sForeignKeysN sForeignKeysC, .slice
  sConstraintsA sConstraintsN sConstraintsC]⟩] H ⟨false, [(false, [.bool])]⟩ post0 ∧ ∀ (H1 : Heap), Heap.le H H1 → ∀ (b3 : Bool), post0 b3 H1 → ((!b3) = true → ∃ (post6 : Bool → Heap → Prop),
  ConT P 9 [] H1 ⟨false, [(false, [.bool])]⟩ post6 ∧ ∀ (H7 : Heap), Heap.le H1 H7 → ∀ (b9 : Bool), post6 b9 H7 → post b9 H7) ∧ ((!b3) = false → ∃ (post12 : Int → Int → Option Addr → Nat → Nat
  → Bool → Heap → Prop), ConT P 13 [.agg ⟨[.string sName, .slice sVersionsA sVersionsN sVersionsC, .slice sKeyA sKeyN sKeyC, .slice sForeignKeysA sForeignKeysN sForeignKeysC, .slice
  sConstraintsA sConstraintsN sConstraintsC]⟩, .int .i64 p1] H1 ⟨true, [(true, [.int .i64, .int .i64, .sl]), (false, [.bool])]⟩ post12 ∧ ∀ (H13 : Heap), Heap.le H1 H13 → ∀ (n15 n16 : Int)
  (A17 : Option Addr) (n18 c19 : Nat) (b20 : Bool), post12 n15 n16 A17 n18 c19 b20 H13 → ∃ (post22 : Int → Int → Option Addr → Nat → Nat → Bool → Heap → Prop), ConT P 14 [.agg ⟨[.string
  sName, .slice sVersionsA sVersionsN sVersionsC, .slice sKeyA sKeyN sKeyC, .slice sForeignKeysA sForeignKeysN sForeignKeysC, .slice sConstraintsA sConstraintsN sConstraintsC]⟩, .int .i64 p1]
  H13 ⟨true, [(true, [.int .i64, .int .i64, .sl]), (false, [.bool])]⟩ post22 ∧ ∀ (H23 : Heap), Heap.le H13 H23 → ∀ (n25 n26 : Int) (A27 : Option Addr) (n28 c29 : Nat) (b30 : Bool), post22 n25
  n26 A27 n28 c29 b30 H23 → (decide ((0 : Int) ≤ p3) = true → (decide (p3 < (↑sVersionsN : Int)) = true → someA sVersionsA ∧ (0 : Int) ≤ p3 ∧ p3 < (↑sVersionsN : Int) ∧ ∃ (n34 : Int), ∃ (n35
  : Int), ∃ (A36 : Option Addr), ∃ (n37 : Nat), ∃ (c38 : Nat), Cells H23 sVersionsA (Int.toNat p3 * 3) [.int .i64 n34, .int .i64 n35, .slice A36 n37 c38] ∧ someA sVersionsA ∧ (0 : Int) ≤ p3 ∧
  p3 < (↑sVersionsN : Int) ∧ ∃ (n39 : Int), ∃ (n40 : Int), ∃ (A41 : Option Addr), ∃ (n42 : Nat), ∃ (c43 : Nat), Cells H23 sVersionsA (Int.toNat p3 * 3) [.int .i64 n39, .int .i64 n40, .slice
  A41 n42 c43] ∧ ∃ (post44 : Int → Heap → Prop), ConT P 15 [.agg ⟨[.int .i64 n34, .int .i64 n35, .slice A36 n37 c38]⟩, .string p2] H23 ⟨false, [(false, [.int .i64])]⟩ post44 ∧ ∀ (H45 : Heap),
  Heap.le H23 H45 → ∀ (n47 : Int), post44 n47 H45 → ∃ (post49 : Int → Heap → Prop), ConT P 16 [.agg ⟨[.int .i64 n39, .int .i64 n40, .slice A41 n42 c43]⟩, .string p2] H45 ⟨false, [(false,
  [.int .i64])]⟩ post49 ∧ ∀ (H50 : Heap), Heap.le H45 H50 → ∀ (n52 : Int), post49 n52 H50 → ((!decide (n47 = n52)) = true → post false H50) ∧ ((!decide (n47 = n52)) = false → ∃ (post56 : Bool
  → Heap → Prop), ConT P 9 [] H50 ⟨false, [(false, [.bool])]⟩ post56 ∧ ∀ (H57 : Heap), Heap.le H50 H57 → ∀ (b59 : Bool), post56 b59 H57 → (b59 = true → ∃ (post62 : Bool → Heap → Prop), ConT P
  17 [.agg ⟨[.string sName, .slice sVersionsA sVersionsN sVersionsC, .slice sKeyA sKeyN sKeyC, .slice sForeignKeysA sForeignKeysN sForeignKeysC, .slice sConstraintsA sConstraintsN
  sConstraintsC]⟩] H57 ⟨false, [(false, [.bool])]⟩ post62 ∧ ∀ (H63 : Heap), Heap.le H57 H63 → ∀ (b65 : Bool), post62 b65 H63 → ∃ (post67 : Bool → Heap → Prop), ConT P 18 [.agg ⟨[.string
  sName, .slice sVersionsA sVersionsN sVersionsC, .slice sKeyA sKeyN sKeyC, .slice sForeignKeysA sForeignKeysN sForeignKeysC, .slice sConstraintsA sConstraintsN sConstraintsC]⟩] H63 ⟨false,
  [(false, [.bool])]⟩ post67 ∧ ∀ (H68 : Heap), Heap.le H63 H68 → ∀ (b70 : Bool), post67 b70 H68 → ((b65 == b70) = true → ((b20 == b30) = true → ∃ (post74 : Bool → Heap → Prop), ConT P 19
  [.agg ⟨[.int .i64 n15, .int .i64 n16, .slice A17 n18 c19]⟩, .agg ⟨[.int .i64 n25, .int .i64 n26, .slice A27 n28 c29]⟩] H68 ⟨false, [(false, [.bool])]⟩ post74 ∧ ∀ (H75 : Heap), Heap.le H68
  H75 → ∀ (b77 : Bool), post74 b77 H75 → (b77 = true → ∃ (post80 : Int → Heap → Prop), ConT P 20 [.agg ⟨[.string sName, .slice sVersionsA sVersionsN sVersionsC, .slice sKeyA sKeyN sKeyC,
  .slice sForeignKeysA sForeignKeysN sForeignKeysC, .slice sConstraintsA sConstraintsN sConstraintsC]⟩] H75 ⟨false, [(false, [.int .i64])]⟩ post80 ∧ ∀ (H81 : Heap), Heap.le H75 H81 → ∀ (n83 :
  Int), post80 n83 H81 → ∃ (post85 : Int → Heap → Prop), ConT P 21 [.agg ⟨[.string sName, .slice sVersionsA sVersionsN sVersionsC, .slice sKeyA sKeyN sKeyC, .slice sForeignKeysA sForeignKeysN
  sForeignKeysC, .slice sConstraintsA sConstraintsN sConstraintsC]⟩] H81 ⟨false, [(false, [.int .i64])]⟩ post85 ∧ ∀ (H86 : Heap), Heap.le H81 H86 → ∀ (n88 : Int), post85 n88 H86 → post
  (decide (n83 = n88)) H86) ∧ (b77 = false → post false H75)) ∧ ((b20 == b30) = false → post false H68)) ∧ ((b65 == b70) = false → post false H68)) ∧ (b59 = false → post false H57))) ∧
  (decide (p3 < (↑sVersionsN : Int)) = false → ∃ (post95 : Bool → Heap → Prop), ConT P 9 [] H23 ⟨false, [(false, [.bool])]⟩ post95 ∧ ∀ (H96 : Heap), Heap.le H23 H96 → ∀ (b98 : Bool), post95
  b98 H96 → (b98 = true → ∃ (post101 : Bool → Heap → Prop), ConT P 17 [.agg ⟨[.string sName, .slice sVersionsA sVersionsN sVersionsC, .slice sKeyA sKeyN sKeyC, .slice sForeignKeysA
  sForeignKeysN sForeignKeysC, .slice sConstraintsA sConstraintsN sConstraintsC]⟩] H96 ⟨false, [(false, [.bool])]⟩ post101 ∧ ∀ (H102 : Heap), Heap.le H96 H102 → ∀ (b104 : Bool), post101 b104
  H102 → ∃ (post106 : Bool → Heap → Prop), ConT P 18 [.agg ⟨[.string sName, .slice sVersionsA sVersionsN sVersionsC, .slice sKeyA sKeyN sKeyC, .slice sForeignKeysA sForeignKeysN
  sForeignKeysC, .slice sConstraintsA sConstraintsN sConstraintsC]⟩] H102 ⟨false, [(false, [.bool])]⟩ post106 ∧ ∀ (H107 : Heap), Heap.le H102 H107 → ∀ (b109 : Bool), post106 b109 H107 →
  ((b104 == b109) = true → ((b20 == b30) = true → ∃ (post113 : Bool → Heap → Prop), ConT P 19 [.agg ⟨[.int .i64 n15, .int .i64 n16, .slice A17 n18 c19]⟩, .agg ⟨[.int .i64 n25, .int .i64 n26,
  .slice A27 n28 c29]⟩] H107 ⟨false, [(false, [.bool])]⟩ post113 ∧ ∀ (H114 : Heap), Heap.le H107 H114 → ∀ (b116 : Bool), post113 b116 H114 → (b116 = true → ∃ (post119 : Int → Heap → Prop),
  ConT P 20 [.agg ⟨[.string sName, .slice sVersionsA sVersionsN sVersionsC, .slice sKeyA sKeyN sKeyC, .slice sForeignKeysA sForeignKeysN sForeignKeysC, .slice sConstraintsA sConstraintsN
  sConstraintsC]⟩] H114 ⟨false, [(false, [.int .i64])]⟩ post119 ∧ ∀ (H120 : Heap), Heap.le H114 H120 → ∀ (n122 : Int), post119 n122 H120 → ∃ (post124 : Int → Heap → Prop), ConT P 21 [.agg
  ⟨[.string sName, .slice sVersionsA sVersionsN sVersionsC, .slice sKeyA sKeyN sKeyC, .slice sForeignKeysA sForeignKeysN sForeignKeysC, .slice sConstraintsA sConstraintsN sConstraintsC]⟩]
  H120 ⟨false, [(false, [.int .i64])]⟩ post124 ∧ ∀ (H125 : Heap), Heap.le H120 H125 → ∀ (n127 : Int), post124 n127 H125 → post (decide (n122 = n127)) H125) ∧ (b116 = false → post false H114))
  ∧ ((b20 == b30) = false → post false H107)) ∧ ((b104 == b109) = false → post false H107)) ∧ (b98 = false → post false H96))) ∧ (decide ((0 : Int) ≤ p3) = false → ∃ (post134 : Bool → Heap →
  Prop), ConT P 9 [] H23 ⟨false, [(false, [.bool])]⟩ post134 ∧ ∀ (H135 : Heap), Heap.le H23 H135 → ∀ (b137 : Bool), post134 b137 H135 → (b137 = true → ∃ (post140 : Bool → Heap → Prop), ConT P
  17 [.agg ⟨[.string sName, .slice sVersionsA sVersionsN sVersionsC, .slice sKeyA sKeyN sKeyC, .slice sForeignKeysA sForeignKeysN sForeignKeysC, .slice sConstraintsA sConstraintsN
  sConstraintsC]⟩] H135 ⟨false, [(false, [.bool])]⟩ post140 ∧ ∀ (H141 : Heap), Heap.le H135 H141 → ∀ (b143 : Bool), post140 b143 H141 → ∃ (post145 : Bool → Heap → Prop), ConT P 18 [.agg
  ⟨[.string sName, .slice sVersionsA sVersionsN sVersionsC, .slice sKeyA sKeyN sKeyC, .slice sForeignKeysA sForeignKeysN sForeignKeysC, .slice sConstraintsA sConstraintsN sConstraintsC]⟩]
  H141 ⟨false, [(false, [.bool])]⟩ post145 ∧ ∀ (H146 : Heap), Heap.le H141 H146 → ∀ (b148 : Bool), post145 b148 H146 → ((b143 == b148) = true → ((b20 == b30) = true → ∃ (post152 : Bool → Heap
  → Prop), ConT P 19 [.agg ⟨[.int .i64 n15, .int .i64 n16, .slice A17 n18 c19]⟩, .agg ⟨[.int .i64 n25, .int .i64 n26, .slice A27 n28 c29]⟩] H146 ⟨false, [(false, [.bool])]⟩ post152 ∧ ∀ (H153
  : Heap), Heap.le H146 H153 → ∀ (b155 : Bool), post152 b155 H153 → (b155 = true → ∃ (post158 : Int → Heap → Prop), ConT P 20 [.agg ⟨[.string sName, .slice sVersionsA sVersionsN sVersionsC,
  .slice sKeyA sKeyN sKeyC, .slice sForeignKeysA sForeignKeysN sForeignKeysC, .slice sConstraintsA sConstraintsN sConstraintsC]⟩] H153 ⟨false, [(false, [.int .i64])]⟩ post158 ∧ ∀ (H159 :
  Heap), Heap.le H153 H159 → ∀ (n161 : Int), post158 n161 H159 → ∃ (post163 : Int → Heap → Prop), ConT P 21 [.agg ⟨[.string sName, .slice sVersionsA sVersionsN sVersionsC, .slice sKeyA sKeyN
  sKeyC, .slice sForeignKeysA sForeignKeysN sForeignKeysC, .slice sConstraintsA sConstraintsN sConstraintsC]⟩] H159 ⟨false, [(false, [.int .i64])]⟩ post163 ∧ ∀ (H164 : Heap), Heap.le H159
  H164 → ∀ (n166 : Int), post163 n166 H164 → post (decide (n161 = n166)) H164) ∧ (b155 = false → post false H153)) ∧ ((b20 == b30) = false → post false H146)) ∧ ((b143 == b148) = false → post
  false H146)) ∧ (b137 = false → post false H135)))) := by kernel_rfl
set_option maxHeartbeats 1000000 in
theorem law21_SchemaValidates {x i : Int} {u : ByteArray} (hs : IsTSch H nm A n c B m d E k e F l f s) :
    ConT Try.prog 4 [.agg ⟨[.string nm, .slice A n c, .slice B m d, .slice E k e, .slice F l f]⟩, .int .i64 x, .string u, .int .i64 i] H shB (fun b _ => b = true) := by
  refine con_of_vc (an := an4) (fn := Try.f4) mix tabOK Try.func4 (by kernel_rfl) (extra := 0) ?_
  rw [vc4]
  refine ⟨_, law0_FewSchema hs, ?_⟩
  rintro H1 L1 _ rfl
  refine ⟨fun _ => ⟨_, law21_awake, ?_⟩, fun _ => ⟨_, schema_At (hs.mono L1), ?_⟩⟩
  · rintro H2 l2 _ rfl; rfl
  rintro H2 l2 a b A1 n1 c1 ok1 ⟨rfl, ha, hb, y, hy, ey⟩
  have L2 := hle_trans L1 l2
  refine ⟨_, ref21_SchemaAt (hs.mono L2), ?_⟩
  rintro H3 l3 a' b' A2 n2 c2 ok2 ⟨rfl, ha', hb', y', hy', ey'⟩
  have L3 := hle_trans L2 l3
  have he := ey.trans ey'.symm
  simp only [Ver.mk.injEq, Per.mk.injEq] at he
  obtain ⟨⟨rfl, rfl⟩, rfl⟩ := he
  refine ⟨fun i0 => ⟨fun i1 => ?_, fun i1 => ?_⟩, fun i0 => ?_⟩
  · have i0 := of_decide_eq_true i0
    have i1 := of_decide_eq_true i1
    obtain ⟨hi, hA, _, hcc, ⟨A3, n3, c3, rfl, r1, r2, r3⟩⟩ := hs.vers.at L3 i0 i1
    refine ⟨hA, i0, i1, _, _, _, _, _, hcc, hA, i0, i1, _, _, _, _, _, hcc, _, schema_Index r3, ?_⟩
    rintro H4 l4 _ rfl
    refine ⟨_, ref21_Index (r3.mono l4), ?_⟩
    rintro H5 l5 _ rfl
    refine ⟨fun h => by simp at h, fun _ => ⟨_, law21_awake, ?_⟩⟩
    rintro H6 l6 _ rfl
    have L6 := hle_trans L3 (hle_trans l4 (hle_trans l5 l6))
    refine ⟨fun _ => ⟨_, schema_Validate (hs.mono L6), ?_⟩, fun h => absurd h (by decide)⟩
    rintro H7 l7 _ rfl
    refine ⟨_, ref21_Validate (hs.mono (hle_trans L6 l7)), ?_⟩
    rintro H8 l8 _ rfl
    have L8 := hle_trans L6 (hle_trans l7 l8)
    refine ⟨fun _ => ⟨fun _ => ⟨_, ref21_SameSchemaVersion ((hy.mono l3).mono (hle_trans (hle_trans l4 (hle_trans l5 l6)) (hle_trans l7 l8))) (hy'.mono (hle_trans (hle_trans l4 (hle_trans l5 l6)) (hle_trans l7 l8))), ?_⟩, fun h => by simp at h⟩, fun h => by rw [valid_eq] at h; simp at h⟩
    rintro H9 l9 _ rfl
    refine ⟨fun _ => ⟨_, schema_Width (hs.mono (hle_trans L8 l9)), ?_⟩, fun h => by simp at h⟩
    rintro H10 l10 _ ⟨rfl, _⟩
    refine ⟨_, ref21_Width (hs.mono (hle_trans (hle_trans L8 l9) l10)), ?_⟩
    rintro H11 l11 _ ⟨rfl, _⟩
    simp
  all_goals
    refine ⟨_, law21_awake, ?_⟩
    rintro H6 l6 _ rfl
    have L6 := hle_trans L3 l6
    refine ⟨fun _ => ⟨_, schema_Validate (hs.mono L6), ?_⟩, fun h => absurd h (by decide)⟩
    rintro H7 l7 _ rfl
    refine ⟨_, ref21_Validate (hs.mono (hle_trans L6 l7)), ?_⟩
    rintro H8 l8 _ rfl
    have L8 := hle_trans L6 (hle_trans l7 l8)
    refine ⟨fun _ => ⟨fun _ => ⟨_, ref21_SameSchemaVersion ((hy.mono l3).mono (hle_trans l6 (hle_trans l7 l8))) (hy'.mono (hle_trans l6 (hle_trans l7 l8))), ?_⟩, fun h => by simp at h⟩, fun h => by rw [valid_eq] at h; simp at h⟩
    rintro H9 l9 _ rfl
    refine ⟨fun _ => ⟨_, schema_Width (hs.mono (hle_trans L8 l9)), ?_⟩, fun h => by simp at h⟩
    rintro H10 l10 _ ⟨rfl, _⟩
    refine ⟨_, ref21_Width (hs.mono (hle_trans (hle_trans L8 l9) l10)), ?_⟩
    rintro H11 l11 _ ⟨rfl, _⟩
    simp
end
end Go.Vc
namespace Go.Proofs.Ythbapbapcnafhaa.schemaValidates
open Go Go.Vc Go.RowKit Go.WideShapes Go.ChangeShapes
theorem sps : ∀ t ∈ Try.f4.params.toList, SpOK Try.prog t := by
  rw [Try.params4]
  exact List.forall_mem_cons.2 ⟨oTSch.sp, List.forall_mem_cons.2 ⟨oInt.sp, List.forall_mem_cons.2 ⟨oStr.sp, List.forall_mem_cons.2 ⟨oInt.sp, fun _ h => by cases h⟩⟩⟩⟩
theorem own : ownKnob Try.prog.godebug = none := by kernel_rfl
set_option maxRecDepth 100000 in
theorem lifted (os : Os) (started : os.Started) (H : Type) (enc : TypeId × Value → H) :
    ReturnsInHanded {} Try.checked os 4 .any (Rows.schemaValidatesSpec.pre6 enc Try.prog Try.f4 Rows.schemaValidatesRow.domain false) (Rows.schemaValidatesSpec.post enc Try.prog Try.f4 false true false false) := by
  refine returnsInHanded_of_change_sized (C := Try.checked) own started (by kernel_rfl) Try.func4
    (ChangeSpec.witness6 (enc := enc) (C := Try.checked) false ⟨#[], #[.agg #[.string ⟨#[]⟩, .slice none 0 0, .slice none 0 0, .slice none 0 0, .slice none 0 0], .int .i64 0, .string ⟨#[]⟩, .int .i64 0], []⟩ 8 (by kernel_rfl) (by kernel_rfl) (by kernel_rfl) (by kernel_rfl)) ?_
  intro W base args ds gs before hval0 hW hcnd hsz0 _
  have hval : ∀ (j : Nat) t v, Try.f4.params[j]? = some t → args[j]? = some v → Value.okWide Try.prog W .any base t v := hval0
  have hW' := hW
  obtain ⟨p, q, hA0, hV, rfl, hfz, hnd⟩ := hW
  have hA : DataW.TrodAll enc Try.prog W 0 (fun _ => true) true Try.f4.params.toList args.toList ds p := hA0
  have hsz : (DataW.weightsEach Try.prog (Try.f4.params.toList ++ Rows.schemaValidatesSpec.plain.varTypes Try.prog) (ds ++ gs)).all (· ≤ reachBytes) = true := hsz0
  have hA1 := hA
  obtain ⟨rfl, rfl⟩ := trodVars_none hV
  rw [Try.params4] at hA hval hsz
  obtain ⟨v0, vs0, d0, ds0, p0, q0, hargs, rfl, rfl, h0, r0⟩ := trodAll_cons hA
  obtain ⟨v1, vs1, d1, ds1, p1, q1, rfl, rfl, rfl, h1, r1⟩ := trodAll_cons r0
  obtain ⟨v2, vs2, d2, ds2, p2, q2, rfl, rfl, rfl, h2, r2⟩ := trodAll_cons r1
  obtain ⟨v3, vs3, d3, ds3, p3, q3, rfl, rfl, rfl, h3, r3⟩ := trodAll_cons r2
  obtain ⟨rfl, rfl, rfl⟩ := trodAll_nil r3
  obtain rfl : args = #[v0, v1, v2, v3] := by cases args; simp_all
  have ok0 := hval 0 29 v0 rfl rfl
  have w0 := weightsEach_get (i := 0) hsz rfl rfl
  obtain ⟨cs0, rfl, -⟩ := okWide_struct Try.underlying29 ok0
  obtain ⟨y0, A01, n01, c01, A02, n02, c02, A03, n03, c03, A04, n04, c04, hy0, hr01, hr02, hr03, hr04, hr05⟩ := arg_get oTSch h0 w0
  obtain rfl : cs0 = ⟨_⟩ := congrArg Array.mk hy0
  have ok1 := hval 1 3 v1 rfl rfl
  have w1 := weightsEach_get (i := 1) hsz rfl rfl
  obtain ⟨x1, rfl⟩ := okWide_int Try.underlying3 ok1
  obtain ⟨y1, hy1, hr1⟩ := arg_get oInt h1 w1
  obtain rfl : x1 = y1 := by simpa [Value.cells] using hy1
  have ok2 := hval 2 9 v2 rfl rfl
  have w2 := weightsEach_get (i := 2) hsz rfl rfl
  obtain ⟨x2, rfl⟩ := okWide_string Try.underlying9 ok2
  obtain ⟨y2, hy2, hr2⟩ := arg_get oStr h2 w2
  obtain rfl : x2 = y2 := by simpa [Value.cells] using hy2
  have ok3 := hval 3 3 v3 rfl rfl
  have w3 := weightsEach_get (i := 3) hsz rfl rfl
  obtain ⟨x3, rfl⟩ := okWide_int Try.underlying3 ok3
  obtain ⟨y3, hy3, hr3⟩ := arg_get oInt h3 w3
  obtain rfl : x3 = y3 := by simpa [Value.cells] using hy3
  refine (con_true (law21_SchemaValidates (s := y0) ⟨rfl, hr01, hr02, hr03, hr04, hr05⟩) (heapOf_snap W)).mono fun e W' ⟨he, hb⟩ => ?_
  subst he
  exact ⟨_, rfl, post_of_below (pa := _) (pv := []) hW' (fun _ _ _ => trodAll_mk1 (shut_bool Try.underlying4 _))
    (fun sp hsp => trodAll_sp sps hA1 (fun z hz => hb.same (hW'.lt z (by simpa using hz))) (fun z hz => hsp z (by simpa using hz))) (fun _ _ => rfl) rfl hb (ok_one (by kernel_rfl) rfl (okWide_bool_mk Try.underlying4 _))⟩
theorem proved : Rows.SchemaValidatesSaid :=
  OpenClaim.holds_of_wide 4 Try.f4 rfl rfl rfl rfl rfl rfl rfl ⟨rfl, rfl, rfl, rfl, rfl⟩ rfl rfl rfl rfl rfl (by kernel_rfl) Try.func4 (by kernel_rfl)
    (of_decide_eq_true (by kernel_rfl)) (by unfold Func.isWrapper; first | (rw [if_pos (by decide +kernel)]; kernel_rfl) | (rw [if_neg (by decide +kernel)]; exact ⟨rfl, rfl⟩))
    (fun os started H enc _ => lifted os started H enc)
#print axioms proved
end Go.Proofs.Ythbapbapcnafhaa.schemaValidates
