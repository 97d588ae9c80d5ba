/- The reference's DropColumn. -/
import Derived.Test.YthbapbapcnafhaaR5
set_option linter.unusedSectionVars false
set_option linter.unusedSimpArgs false
set_option linter.unusedVariables false
namespace Go.Vc
open Go Go.Proofs
section
variable {H : Heap} {nm : ByteArray} {A : Option Addr} {n c : Nat} {B : Option Addr} {m d : Nat} {E : Option Addr} {k e : Nat} {F : Option Addr} {l f : Nat} {s : TSch}
def an70 : Ann where
  res := fun _ => none
  lend := fun | 11 => true | 27 => true | 38 => true | 55 => true | _ => false
  sch := fun _ => .done
  lt := fun | 4 => [.slot 5 false [.int .i64]] | 10 => [.slot 7 false [.int .i64]] | _ => []
  tup := tups

theorem vc70 (P : Program) (H : Heap) (sName : ByteArray) (sVersionsA : Option Addr) (sVersionsN sVersionsC : Nat) (sKeyA : Option Addr) (sKeyN sKeyC : Nat) (sForeignKeysA : Option Addr) (sForeignKeysN sForeignKeysC : Nat) (sConstraintsA : Option Addr) (sConstraintsN sConstraintsC : Nat) (id : Int) (post : Bool → Heap → Prop) :
  vcFn P tab an70 Try.f70 [.agg #[.string sName, .slice sVersionsA sVersionsN sVersionsC, .slice sKeyA sKeyN sKeyC, .slice sForeignKeysA sForeignKeysN sForeignKeysC, .slice sConstraintsA sConstraintsN sConstraintsC], .int .i64 id] 0 H ⟨false, [(false, [.bool])]⟩ post =
  (  ∃ (post0 : Bool → Heap → Prop), ConT P 79 [.slice sKeyA sKeyN sKeyC, .int .i64 id] H ⟨false, [(false, [.bool])]⟩ post0 ∧ ∀ (H1 : Heap), Heap.le H H1 → ∀ (b3 : Bool), post0 b3 H1 → (b3 =
  true → post true H1) ∧ (b3 = false → ∃ (inv7 : Int → Heap → Prop), ∃ (m8 : Int → Nat), inv7 (0 : Int) H1 ∧ ∀ (H9 : Heap), Heap.le H1 H9 → ∀ (n11 : Int), inv7 n11 H9 → (decide (n11 <
  (↑sForeignKeysN : Int)) = true → someA sForeignKeysA ∧ (0 : Int) ≤ n11 ∧ n11 < (↑sForeignKeysN : Int) ∧ ∃ (A14 : Option Addr), ∃ (n15 : Nat), ∃ (c16 : Nat), ∃ (s17 : ByteArray), ∃ (A18 :
  Option Addr), ∃ (n19 : Nat), ∃ (c20 : Nat), Cells H9 sForeignKeysA (Int.toNat n11 * 3) [.slice A14 n15 c16, .string s17, .slice A18 n19 c20] ∧ ∃ (post21 : Bool → Heap → Prop), ConT P 79
  [.slice A14 n15 c16, .int .i64 id] H9 ⟨false, [(false, [.bool])]⟩ post21 ∧ ∀ (H22 : Heap), Heap.le H9 H22 → ∀ (b24 : Bool), post21 b24 H22 → (b24 = true → post true H22) ∧ (b24 = false →
  (decide (s17 = sName) = true → ∃ (post29 : Bool → Heap → Prop), ConT P 79 [.slice A18 n19 c20, .int .i64 id] H22 ⟨false, [(false, [.bool])]⟩ post29 ∧ ∀ (H30 : Heap), Heap.le H22 H30 → ∀
  (b32 : Bool), post29 b32 H30 → (b32 = true → post true H30) ∧ (b32 = false → rng .i64 (n11 + (1 : Int)) ∧ inv7 (n11 + (1 : Int)) H30 ∧ m8 (n11 + (1 : Int)) < m8 n11)) ∧ (decide (s17 =
  sName) = false → rng .i64 (n11 + (1 : Int)) ∧ inv7 (n11 + (1 : Int)) H22 ∧ m8 (n11 + (1 : Int)) < m8 n11))) ∧ (decide (n11 < (↑sForeignKeysN : Int)) = false → ∃ (inv38 : Int → Heap → Prop),
  ∃ (m39 : Int → Nat), inv38 (0 : Int) H9 ∧ ∀ (H40 : Heap), Heap.le H9 H40 → ∀ (n42 : Int), inv38 n42 H40 → (decide (n42 < (↑sConstraintsN : Int)) = true → someA sConstraintsA ∧ (0 : Int) ≤
  n42 ∧ n42 < (↑sConstraintsN : Int) ∧ ∃ (A45 : Option Addr), ∃ (n46 : Nat), ∃ (c47 : Nat), Cells H40 sConstraintsA (Int.toNat n42 * 2 + 1) [.slice A45 n46 c47] ∧ ∃ (post48 : Bool → Heap →
  Prop), ConT P 79 [.slice A45 n46 c47, .int .i64 id] H40 ⟨false, [(false, [.bool])]⟩ post48 ∧ ∀ (H49 : Heap), Heap.le H40 H49 → ∀ (b51 : Bool), post48 b51 H49 → (b51 = true → post true H49)
  ∧ (b51 = false → rng .i64 (n42 + (1 : Int)) ∧ inv38 (n42 + (1 : Int)) H49 ∧ m39 (n42 + (1 : Int)) < m39 n42)) ∧ (decide (n42 < (↑sConstraintsN : Int)) = false → post false H40)))) := by kernel_rfl
theorem ref21_used {x : Int} (hs : IsTSch H nm A n c B m d E k e F l f s) :
    ConT Try.prog 70 [.agg ⟨[.string nm, .slice A n c, .slice B m d, .slice E k e, .slice F l f]⟩, .int .i64 x] H shB (fun r _ => r = used s x) := by
  refine con_of_vc (an := an70) (fn := Try.f70) mix tabOK Try.func70 (by kernel_rfl) (extra := 0) ?_
  rw [vc70]
  obtain ⟨rfl, hstr, hv, hk, hf, hc⟩ := hs
  have f1 := hf.bn; have f2 := hf.len; have c1 := hc.bn; have c2 := hc.len
  unfold used
  generalize hp : (fun f : FKey => f.cols.contains x || (decide (f.table = s.name) && f.refs.contains x)) = p
  generalize hq : (fun c : Cst => c.cols.contains x) = q
  refine ⟨_, ref21_Contains hk, ?_⟩
  rintro H0 l0 _ rfl
  refine ⟨fun h => by rw [h, Bool.or_true], fun hkf => ?_⟩
  rw [hkf, Bool.or_false]
  refine ⟨fun i _ => 0 ≤ i ∧ i ≤ k ∧ s.fks.any p = (s.fks.drop i.toNat).any p, fun i => k - i.toNat, ⟨by omega, by omega, rfl⟩, ?_⟩
  rintro H1 l1 i ⟨h0, h1, h2⟩
  have L1 := hle_trans l0 l1
  refine ⟨fun hlt => ?_, fun hge => ?_⟩
  · have hlt := of_decide_eq_true hlt
    obtain ⟨hi, hA, _, hcc, ⟨A3, n3, c3, B3, m3, d3, rfl, r1, r2, r3⟩⟩ := hf.at L1 h0 hlt
    rw [drop_at h0 hi, List.any_cons] at h2
    refine ⟨hA, h0, hlt, _, _, _, _, _, _, _, hcc, _, ref21_Contains r1, ?_⟩
    rintro H2 l2 _ rfl
    have hpi : p s.fks[i.toNat] = (s.fks[i.toNat].cols.contains x || (decide (s.fks[i.toNat].table = s.name) && s.fks[i.toNat].refs.contains x)) := by rw [← hp]
    refine ⟨fun a1 => ?_, fun a1 => ⟨fun a2 => ⟨_, ref21_Contains (r3.mono l2), ?_⟩, fun a2 => ⟨by simp only [rng]; omega, ⟨by omega, by omega, ?_⟩, by dsimp only; omega⟩⟩⟩
    · rw [h2, hpi, a1]; simp
    · rintro H3 l3 _ rfl
      refine ⟨fun a3 => ?_, fun a3 => ⟨by simp only [rng]; omega, ⟨by omega, by omega, ?_⟩, by dsimp only; omega⟩⟩
      · rw [h2, hpi, a2, a3]; simp
      · rw [h2, hpi, a1, a3]; simp
    · rw [h2, hpi, a1, a2]; simp
  rw [drop_end (of_decide_eq_false hge) f2, List.any_nil] at h2
  rw [h2, Bool.false_or]
  refine ⟨fun i _ => 0 ≤ i ∧ i ≤ l ∧ s.csts.any q = (s.csts.drop i.toNat).any q, fun i => l - i.toNat, ⟨by omega, by omega, rfl⟩, ?_⟩
  rintro H2 l2 j ⟨j0, j1, j2⟩
  have L2 := hle_trans L1 l2
  refine ⟨fun hlt => ?_, fun hge => ?_⟩
  · have hlt := of_decide_eq_true hlt
    obtain ⟨hi, hA, _, hcc, ⟨A3, n3, c3, rfl, r1, r2⟩⟩ := hc.at L2 j0 hlt
    rw [drop_at j0 hi, List.any_cons] at j2
    refine ⟨hA, j0, hlt, _, _, _, hcc.at1 (k := 1) rfl, _, ref21_Contains r2, ?_⟩
    rintro H3 l3 _ rfl
    have hqi : q s.csts[j.toNat] = s.csts[j.toNat].cols.contains x := by rw [← hq]
    refine ⟨fun a1 => ?_, fun a1 => ⟨by simp only [rng]; omega, ⟨by omega, by omega, ?_⟩, by dsimp only; omega⟩⟩
    · rw [j2, hqi, a1]; simp
    · rw [j2, hqi, a1, Bool.false_or]
  rw [drop_end (of_decide_eq_false hge) c2, List.any_nil] at j2
  exact j2.symm
def an32 : Ann where
  res := fun _ => none
  lend := fun | 24 => true | 47 => true | 58 => true | _ => false
  sch := fun | 11 => (tk [0, 1, 2, 3, 4, 6, 7, 8, 9, 10, 12] (.alt 5 (.alt 11 (.alt 13 (.alt 14 (tk [15] .done) .fin) .fin) .fin) .fin)) | _ => .done
  lt := fun _ => []
  tup := tups

theorem vc32 (P : Program) (H : Heap) (sName : ByteArray) (sVersionsA : Option Addr) (sVersionsN sVersionsC : Nat) (sKeyA : Option Addr) (sKeyN sKeyC : Nat) (sForeignKeysA : Option Addr) (sForeignKeysN sForeignKeysC : Nat) (sConstraintsA : Option Addr) (sConstraintsN sConstraintsC : Nat) (p1 : Int) (p2 : Int) (post : ByteArray → Option Addr → Nat → Nat → Option Addr → Nat → Nat → Option Addr → Nat → Nat → Option Addr → Nat → Nat → Int → Heap → Prop) :
  vcFn P tab an32 Try.f32 [.agg #[.string sName, .slice sVersionsA sVersionsN sVersionsC, .slice sKeyA sKeyN sKeyC, .slice sForeignKeysA sForeignKeysN sForeignKeysC, .slice sConstraintsA sConstraintsN sConstraintsC], .int .i64 p1, .int .i64 p2] 0 H ⟨true, [(true, [.str, .sl, .sl, .sl, .sl]), (false, [.int .i64])]⟩ post =
  (  ∃ (post0 : Int → Int → Option Addr → Nat → Nat → Bool → Heap → Prop), ConT P 62 [.agg ⟨[.string sName, .slice sVersionsA sVersionsN sVersionsC, .slice sKeyA sKeyN sKeyC, .slice
  sForeignKeysA sForeignKeysN sForeignKeysC, .slice sConstraintsA sConstraintsN sConstraintsC]⟩, .int .i64 p2] H ⟨true, [(true, [.int .i64, .int .i64, .sl]), (false, [.bool])]⟩ post0 ∧ ∀ (H1
  : Heap), Heap.le H H1 → ∀ (n3 n4 : Int) (A5 : Option Addr) (n6 c7 : Nat) (b8 : Bool), post0 n3 n4 A5 n6 c7 b8 H1 → ((!b8) = true → post ⟨⟨[]⟩⟩ none 0 0 none 0 0 none 0 0 none 0 0 (1 : Int)
  H1) ∧ ((!b8) = false → ∃ (post12 : Int → Heap → Prop), ConT P 69 [.agg ⟨[.int .i64 n3, .int .i64 n4, .slice A5 n6 c7]⟩, .int .i64 p1] H1 ⟨false, [(false, [.int .i64])]⟩ post12 ∧ ∀ (H13 :
  Heap), Heap.le H1 H13 → ∀ (n15 : Int), post12 n15 H13 → (decide (n15 < (0 : Int)) = true → post ⟨⟨[]⟩⟩ none 0 0 none 0 0 none 0 0 none 0 0 (11 : Int) H13) ∧ (decide (n15 < (0 : Int)) =
  false → (decide (p2 = n3) = true → (decide ((↑sVersionsN : Int) < (2 : Int)) = true → (decide ((↑n6 : Int) = (1 : Int)) = true → post ⟨⟨[]⟩⟩ none 0 0 none 0 0 none 0 0 none 0 0 (18 : Int)
  H13) ∧ (decide ((↑n6 : Int) = (1 : Int)) = false → ∃ (post23 : Bool → Heap → Prop), ConT P 70 [.agg ⟨[.string sName, .slice sVersionsA sVersionsN sVersionsC, .slice sKeyA sKeyN sKeyC,
  .slice sForeignKeysA sForeignKeysN sForeignKeysC, .slice sConstraintsA sConstraintsN sConstraintsC]⟩, .int .i64 p1] H13 ⟨false, [(false, [.bool])]⟩ post23 ∧ ∀ (H24 : Heap), Heap.le H13 H24
  → ∀ (b26 : Bool), post23 b26 H24 → (b26 = true → post ⟨⟨[]⟩⟩ none 0 0 none 0 0 none 0 0 none 0 0 (18 : Int) H24) ∧ (b26 = false → post ⟨⟨[]⟩⟩ none 0 0 none 0 0 none 0 0 none 0 0 (18 : Int)
  H24))) ∧ (decide ((↑sVersionsN : Int) < (2 : Int)) = false → rng .i64 ((↑sVersionsN : Int) - (2 : Int)) ∧ someA sVersionsA ∧ (0 : Int) ≤ (↑sVersionsN : Int) - (2 : Int) ∧ (↑sVersionsN :
  Int) - (2 : Int) < (↑sVersionsN : Int) ∧ ∃ (n31 : Int), ∃ (n32 : Int), ∃ (A33 : Option Addr), ∃ (n34 : Nat), ∃ (c35 : Nat), Cells H13 sVersionsA (Int.toNat ((↑sVersionsN : Int) - (2 : Int))
  * 3) [.int .i64 n31, .int .i64 n32, .slice A33 n34 c35] ∧ ∃ (post36 : Int → Heap → Prop), ConT P 69 [.agg ⟨[.int .i64 n31, .int .i64 n32, .slice A33 n34 c35]⟩, .int .i64 p1] H13 ⟨false,
  [(false, [.int .i64])]⟩ post36 ∧ ∀ (H37 : Heap), Heap.le H13 H37 → ∀ (n39 : Int), post36 n39 H37 → (decide ((↑n6 : Int) = (1 : Int)) = true → post ⟨⟨[]⟩⟩ none 0 0 none 0 0 none 0 0 none 0 0
  (18 : Int) H37) ∧ (decide ((↑n6 : Int) = (1 : Int)) = false → ∃ (post43 : Bool → Heap → Prop), ConT P 70 [.agg ⟨[.string sName, .slice sVersionsA sVersionsN sVersionsC, .slice sKeyA sKeyN
  sKeyC, .slice sForeignKeysA sForeignKeysN sForeignKeysC, .slice sConstraintsA sConstraintsN sConstraintsC]⟩, .int .i64 p1] H37 ⟨false, [(false, [.bool])]⟩ post43 ∧ ∀ (H44 : Heap), Heap.le
  H37 H44 → ∀ (b46 : Bool), post43 b46 H44 → (b46 = true → post ⟨⟨[]⟩⟩ none 0 0 none 0 0 none 0 0 none 0 0 (18 : Int) H44) ∧ (b46 = false → (decide (n39 < (0 : Int)) = true → post ⟨⟨[]⟩⟩ none
  0 0 none 0 0 none 0 0 none 0 0 (18 : Int) H44) ∧ (decide (n39 < (0 : Int)) = false → (0 : Int) ≤ (0 : Int) ∧ (0 : Int) ≤ n15 ∧ n15 ≤ (↑c7 : Int) ∧ ∀ (A52 : Option Addr), A52 = subA A5 c7
  (Int.toNat (0 : Int)) 3 → rng .i64 (n15 + (1 : Int)) ∧ (0 : Int) ≤ n15 + (1 : Int) ∧ n15 + (1 : Int) ≤ (↑n6 : Int) ∧ (↑n6 : Int) ≤ (↑c7 : Int) ∧ ∀ (A54 : Option Addr), A54 = subA A5 c7
  (Int.toNat (n15 + (1 : Int))) 3 → ∃ (ys56 : List Value), Cells H44 A52 0 ys56 ∧ List.length ys56 = (Int.toNat n15 - Int.toNat (0 : Int)) * 3 ∧ (Int.toNat n15 - Int.toNat (0 : Int)) * 32 ≤
  140737488355328 ∧ ∃ (ys57 : List Value), Cells H44 A54 0 ys57 ∧ List.length ys57 = (Int.toNat (↑n6 : Int) - Int.toNat (n15 + (1 : Int))) * 3 ∧ (Int.toNat n15 - Int.toNat (0 : Int) +
  (Int.toNat (↑n6 : Int) - Int.toNat (n15 + (1 : Int)))) * 32 ≤ 140737488355328 ∧ ∀ (A58 : Option Addr) (c59 : Nat) (H60 : Heap), Heap.le H44 H60 → Cells H60 A58 0 (ys56 ++ ys57) → Int.toNat
  n15 - Int.toNat (0 : Int) + (Int.toNat (↑n6 : Int) - Int.toNat (n15 + (1 : Int))) ≤ c59 → ∃ (post64 : ByteArray → Option Addr → Nat → Nat → Option Addr → Nat → Nat → Option Addr → Nat → Nat
  → Option Addr → Nat → Nat → Heap → Prop), ConT P 64 [.agg ⟨[.string sName, .slice sVersionsA sVersionsN sVersionsC, .slice sKeyA sKeyN sKeyC, .slice sForeignKeysA sForeignKeysN
  sForeignKeysC, .slice sConstraintsA sConstraintsN sConstraintsC]⟩, .slice A58 (Int.toNat n15 - Int.toNat (0 : Int) + (Int.toNat (↑n6 : Int) - Int.toNat (n15 + (1 : Int)))) c59, .int .i64
  p2] H60 ⟨false, [(true, [.str, .sl, .sl, .sl, .sl])]⟩ post64 ∧ ∀ (H65 : Heap), Heap.le H60 H65 → ∀ (s67 : ByteArray) (A68 : Option Addr) (n69 c70 : Nat) (A71 : Option Addr) (n72 c73 : Nat)
  (A74 : Option Addr) (n75 c76 : Nat) (A77 : Option Addr) (n78 c79 : Nat), post64 s67 A68 n69 c70 A71 n72 c73 A74 n75 c76 A77 n78 c79 H65 → post s67 A68 n69 c70 A71 n72 c73 A74 n75 c76 A77
  n78 c79 (0 : Int) H65))))) ∧ (decide (p2 = n3) = false → (decide ((↑n6 : Int) = (1 : Int)) = true → post ⟨⟨[]⟩⟩ none 0 0 none 0 0 none 0 0 none 0 0 (18 : Int) H13) ∧ (decide ((↑n6 : Int) =
  (1 : Int)) = false → ∃ (post84 : Bool → Heap → Prop), ConT P 70 [.agg ⟨[.string sName, .slice sVersionsA sVersionsN sVersionsC, .slice sKeyA sKeyN sKeyC, .slice sForeignKeysA sForeignKeysN
  sForeignKeysC, .slice sConstraintsA sConstraintsN sConstraintsC]⟩, .int .i64 p1] H13 ⟨false, [(false, [.bool])]⟩ post84 ∧ ∀ (H85 : Heap), Heap.le H13 H85 → ∀ (b87 : Bool), post84 b87 H85 →
  (b87 = true → post ⟨⟨[]⟩⟩ none 0 0 none 0 0 none 0 0 none 0 0 (18 : Int) H85) ∧ (b87 = false → (0 : Int) ≤ (0 : Int) ∧ (0 : Int) ≤ n15 ∧ n15 ≤ (↑c7 : Int) ∧ ∀ (A91 : Option Addr), A91 =
  subA A5 c7 (Int.toNat (0 : Int)) 3 → rng .i64 (n15 + (1 : Int)) ∧ (0 : Int) ≤ n15 + (1 : Int) ∧ n15 + (1 : Int) ≤ (↑n6 : Int) ∧ (↑n6 : Int) ≤ (↑c7 : Int) ∧ ∀ (A93 : Option Addr), A93 = subA
  A5 c7 (Int.toNat (n15 + (1 : Int))) 3 → ∃ (ys95 : List Value), Cells H85 A91 0 ys95 ∧ List.length ys95 = (Int.toNat n15 - Int.toNat (0 : Int)) * 3 ∧ (Int.toNat n15 - Int.toNat (0 : Int)) *
  32 ≤ 140737488355328 ∧ ∃ (ys96 : List Value), Cells H85 A93 0 ys96 ∧ List.length ys96 = (Int.toNat (↑n6 : Int) - Int.toNat (n15 + (1 : Int))) * 3 ∧ (Int.toNat n15 - Int.toNat (0 : Int) +
  (Int.toNat (↑n6 : Int) - Int.toNat (n15 + (1 : Int)))) * 32 ≤ 140737488355328 ∧ ∀ (A97 : Option Addr) (c98 : Nat) (H99 : Heap), Heap.le H85 H99 → Cells H99 A97 0 (ys95 ++ ys96) → Int.toNat
  n15 - Int.toNat (0 : Int) + (Int.toNat (↑n6 : Int) - Int.toNat (n15 + (1 : Int))) ≤ c98 → ∃ (post103 : ByteArray → Option Addr → Nat → Nat → Option Addr → Nat → Nat → Option Addr → Nat →
  Nat → Option Addr → Nat → Nat → Heap → Prop), ConT P 64 [.agg ⟨[.string sName, .slice sVersionsA sVersionsN sVersionsC, .slice sKeyA sKeyN sKeyC, .slice sForeignKeysA sForeignKeysN
  sForeignKeysC, .slice sConstraintsA sConstraintsN sConstraintsC]⟩, .slice A97 (Int.toNat n15 - Int.toNat (0 : Int) + (Int.toNat (↑n6 : Int) - Int.toNat (n15 + (1 : Int)))) c98, .int .i64
  p2] H99 ⟨false, [(true, [.str, .sl, .sl, .sl, .sl])]⟩ post103 ∧ ∀ (H104 : Heap), Heap.le H99 H104 → ∀ (s106 : ByteArray) (A107 : Option Addr) (n108 c109 : Nat) (A110 : Option Addr) (n111
  c112 : Nat) (A113 : Option Addr) (n114 c115 : Nat) (A116 : Option Addr) (n117 c118 : Nat), post103 s106 A107 n108 c109 A110 n111 c112 A113 n114 c115 A116 n117 c118 H104 → post s106 A107
  n108 c109 A110 n111 c112 A113 n114 c115 A116 n117 c118 (0 : Int) H104)))))) := by kernel_rfl
set_option maxHeartbeats 2000000 in
theorem ref21_DropColumn {i x : Int} (hs : IsTSch H nm A n c B m d E k e F l f s) (hx : rng .i64 x) (hlim : s.vers.length ≤ 3000000000000) :
    ConT Try.prog 32 [.agg ⟨[.string nm, .slice A n c, .slice B m d, .slice E k e, .slice F l f]⟩, .int .i64 i, .int .i64 x] H shTSI
      (fun nm' A' n' c' B' m' d' E' k' e' F' l' f' r H' => IsTSch H' nm' A' n' c' B' m' d' E' k' e' F' l' f' (dropCol s i x).1 ∧ r = (dropCol s i x).2) := by
  refine con_of_vc (an := an32) (fn := Try.f32) mix tabOK Try.func32 (by kernel_rfl) (extra := 0) ?_
  rw [vc32]
  have b1 := hs.vers.bn; have b2 := hs.vers.len
  unfold dropCol
  refine ⟨_, ref21_last hs, ?_⟩
  rintro H1 l1 p q A1 n1 c1 _ ⟨rfl, hv⟩
  refine ⟨fun hf => ?_, fun ht => ?_⟩
  · simp only [Bool.not_eq_true'] at hf
    rw [if_pos hf]; exact ⟨is_sch0, rfl⟩
  simp only [Bool.not_eq_false'] at ht
  obtain ⟨v, hlast, rfl, rfl, r1, r2, r3⟩ := hv ht
  rw [if_neg (by simp [ht]), hlast]
  have hval : schemaValid s = true := by simp only [changeable, Bool.and_eq_true] at ht; exact ht.1.1
  have hmem : v ∈ s.vers := List.mem_of_getLast? hlast
  have hcols := schemaValid_cols hval hmem
  have d1 := r3.len; have d2 := r3.bn; have d3 := r3.bnd; have d4 := r3.cap
  dsimp only
  refine ⟨_, ref21_position r3, ?_⟩
  rintro H2 l2 _ rfl
  have hbd := idxOf_in (fun c : Col => decide (c.id = i)) v.cols 0 (by omega)
  have hany := idxOf_ge (fun c : Col => decide (c.id = i)) v.cols 0 (by omega)
  generalize idxOf (fun c : Col => decide (c.id = i)) 0 v.cols = y at hbd hany
  refine ⟨fun a1 => ?_, fun a1 => ?_⟩
  · rw [if_pos (of_decide_eq_true a1)]; exact ⟨is_sch0, rfl⟩
  have a1 := of_decide_eq_false a1
  rw [if_neg a1]
  have hid : hasID v.cols i = true := hany.1 (by omega)
  have L2 := hle_trans l1 l2
  have key : ∀ {H4 : Heap}, Heap.le H2 H4 → (0 : Int) ≤ 0 ∧ 0 ≤ y ∧ y ≤ c1 ∧ ∀ (A52 : Option Addr), A52 = subA A1 c1 (Int.toNat 0) 3 → rng .i64 (y + 1) ∧ 0 ≤ y + 1 ∧ y + 1 ≤ n1 ∧ (n1 : Int) ≤ c1 ∧ ∀ (A54 : Option Addr), A54 = subA A1 c1 (Int.toNat (y + 1)) 3 →
      ∃ (ys56 : List Value), Cells H4 A52 0 ys56 ∧ List.length ys56 = (Int.toNat y - Int.toNat 0) * 3 ∧ (Int.toNat y - Int.toNat 0) * 32 ≤ 140737488355328 ∧ ∃ (ys57 : List Value), Cells H4 A54 0 ys57 ∧ List.length ys57 = (Int.toNat (n1 : Int) - Int.toNat (y + 1)) * 3 ∧
        (Int.toNat y - Int.toNat 0 + (Int.toNat (n1 : Int) - Int.toNat (y + 1))) * 32 ≤ 140737488355328 ∧ ∀ (A58 : Option Addr) (c59 : Nat) (H60 : Heap), Heap.le H4 H60 → Cells H60 A58 0 (ys56 ++ ys57) → Int.toNat y - Int.toNat 0 + (Int.toNat (n1 : Int) - Int.toNat (y + 1)) ≤ c59 →
          ∃ (post64 : ByteArray → Option Addr → Nat → Nat → Option Addr → Nat → Nat → Option Addr → Nat → Nat → Option Addr → Nat → Nat → Heap → Prop), ConT Try.prog 64 [.agg ⟨[.string nm, .slice A n c, .slice B m d, .slice E k e, .slice F l f]⟩, .slice A58 (Int.toNat y - Int.toNat 0 + (Int.toNat (n1 : Int) - Int.toNat (y + 1))) c59, .int .i64 x] H60 shTS post64 ∧
            ∀ (H53 : Heap), Heap.le H60 H53 → ∀ (s55 : ByteArray) (A56 : Option Addr) (n57 c58 : Nat) (A59 : Option Addr) (n60 c61 : Nat) (A62 : Option Addr) (n63 c64 : Nat) (A65 : Option Addr) (n66 c67 : Nat), post64 s55 A56 n57 c58 A59 n60 c61 A62 n63 c64 A65 n66 c67 H53 →
              IsTSch H53 s55 A56 n57 c58 A59 n60 c61 A62 n63 c64 A65 n66 c67 { s with vers := changeVers s.vers (v.cols.eraseIdx y.toNat) x } ∧ (0 : Int) = 0 := by
    intro H4 l4
    have r4 := r3.mono (hle_trans l2 l4)
    refine ⟨by omega, by omega, by omega, ?_⟩
    rintro _ rfl
    refine ⟨by simp only [rng]; omega, by omega, by omega, by omega, ?_⟩
    rintro _ rfl
    have s1 := r4.sub (j := (0 : Int).toNat) (k := y.toNat) (by omega) (by omega)
    have s2 := r4.sub (j := (y + 1).toNat) (k := (n1 : Int).toNat) (by omega) (by omega)
    obtain ⟨xs, hxs, hr⟩ := s1.row
    obtain ⟨zs, hzs, hr'⟩ := s2.row
    have e1 : (v.cols.take y.toNat).drop (0 : Int).toNat = v.cols.take y.toNat := rfl
    have e2 : (v.cols.take (n1 : Int).toNat).drop (y + 1).toNat = v.cols.drop (y.toNat + 1) := by
      rw [List.take_of_length_le (by omega), show (y + 1).toNat = y.toNat + 1 by omega]
    have g1 : xs.length = _ := hr.length
    have g2 : zs.length = _ := hr'.length
    rw [s1.len] at g1
    rw [s2.len] at g2
    rw [e1] at hr
    rw [e2] at hr'
    refine ⟨xs, hxs, g1, by omega, zs, hzs, g2, by omega, ?_⟩
    intro A7 c7 H7 l7 g7 hc7
    have L7 := hle_trans L2 (hle_trans l4 l7)
    have hrow : Row H4 (xs ++ zs) (v.cols.eraseIdx y.toNat) := by
      rw [List.eraseIdx_eq_take_drop_succ]
      exact hr.append hr'
    have hel : (v.cols.eraseIdx y.toNat).length = y.toNat - (0 : Int).toNat + ((n1 : Int).toNat - (y + 1).toNat) := by
      rw [List.length_eraseIdx, if_pos (by omega)]; omega
    have hsl : Sl H7 A7 (y.toNat - (0 : Int).toNat + ((n1 : Int).toNat - (y + 1).toNat)) c7 (v.cols.eraseIdx y.toNat) := hrow.sl l7 g7 hel hc7 (by show _ * 32 ≤ _; omega) (by omega)
    refine ⟨_, ref21_change (hs.mono L7) hsl hx (schemaValid_ne hval) hlim, ?_⟩
    intro H8 l8 _ _ _ _ _ _ _ _ _ _ _ _ _ h
    exact ⟨h, rfl⟩
  have hlen : 0 < s.vers.length := List.length_pos_iff.2 (schemaValid_ne hval)
  have hfr := fresh_eq hval hlast hid
  refine ⟨fun a0 => ⟨fun a2 => ⟨fun a3 => ?_, fun a3 => ⟨_, ref21_used (hs.mono L2), ?_⟩⟩, fun a2 => ?_⟩, fun a0 => ⟨fun a3 => ?_, fun a3 => ⟨_, ref21_used (hs.mono L2), ?_⟩⟩⟩
  · rw [if_pos (.inl (by have := of_decide_eq_true a3; omega))]; exact ⟨is_sch0, rfl⟩
  · have a0 := of_decide_eq_true a0
    have a2 := of_decide_eq_true a2
    rintro H3 l3 _ rfl
    have hft : fresh s i = true := by
      rw [hfr, List.getElem?_eq_getElem (by omega)]
      dsimp only
      rw [decide_eq_true (p := s.vers.length < 2) (by omega), Bool.true_or]
    refine ⟨fun a4 => ?_, fun a4 => ?_⟩
    all_goals rw [if_pos (.inr (.inr ⟨a0, hft⟩))]; exact ⟨is_sch0, rfl⟩
  · have a0 := of_decide_eq_true a0
    have a2 := of_decide_eq_false a2
    obtain ⟨hi, hA, _, hcc, ⟨A3, n3, c3, rfl, q1, q2, q3⟩⟩ := hs.vers.at L2 (i := (n : Int) - 2) (by omega) (by omega)
    refine ⟨by simp only [rng]; omega, hA, by omega, by omega, _, _, _, _, _, hcc, _, ref21_position q3, ?_⟩
    rintro H3 l3 _ rfl
    have hft : fresh s i = !(hasID (s.vers[((n : Int) - 2).toNat]'hi).cols i) := by
      rw [hfr, List.getElem?_eq_getElem (by omega)]
      dsimp only
      rw [decide_eq_false (p := s.vers.length < 2) (by omega), Bool.false_or]
      congr 4; omega
    refine ⟨fun a3 => ?_, fun a3 => ⟨_, ref21_used (hs.mono (hle_trans L2 l3)), ?_⟩⟩
    · rw [if_pos (.inl (by have := of_decide_eq_true a3; omega))]; exact ⟨is_sch0, rfl⟩
    have a3 := of_decide_eq_false a3
    rintro H4 l4 _ rfl
    refine ⟨fun a4 => ?_, fun a4 => ?_⟩
    · rw [if_pos (.inr (.inl a4))]; exact ⟨is_sch0, rfl⟩
    rw [decide_eq_true_eq, decide_eq_false_iff_not]
    refine ⟨fun a5 => ?_, fun a5 => ?_⟩
    · have : hasID (s.vers[((n : Int) - 2).toNat]'hi).cols i = false := (idxOf_lt _ _).1 a5
      rw [if_pos (.inr (.inr ⟨a0, by rw [hft, this]; rfl⟩))]; exact ⟨is_sch0, rfl⟩
    · have : hasID (s.vers[((n : Int) - 2).toNat]'hi).cols i = true := (idxOf_ge (fun c : Col => decide (c.id = i)) _ 0 (by omega)).1 (by omega)
      rw [if_neg (by
        rintro (h | h | ⟨h, h'⟩)
        · omega
        · rw [a4] at h; cases h
        · rw [hft, this] at h'; cases h')]
      exact key (hle_trans l3 l4)
  · rw [if_pos (.inl (by have := of_decide_eq_true a3; omega))]; exact ⟨is_sch0, rfl⟩
  · have a0 := of_decide_eq_false a0
    have a3 := of_decide_eq_false a3
    rintro H3 l3 _ rfl
    refine ⟨fun a4 => ?_, fun a4 => ?_⟩
    · rw [if_pos (.inr (.inl a4))]; exact ⟨is_sch0, rfl⟩
    · rw [if_neg (by
        rintro (h | h | ⟨h, h'⟩)
        · omega
        · rw [a4] at h; cases h
        · exact a0 h)]
      exact key l3
end
end Go.Vc
