/- The reference compares schemas. -/
import Derived.Test.YthbapbapcnafhaaR6
set_option linter.unusedSectionVars false
set_option linter.unusedSimpArgs false
set_option linter.unusedVariables false
namespace Go.Vc
open Go Go.Proofs
def an71 : Ann where
  res := fun _ => none
  lend := fun _ => false
  sch := fun | 6 => (tk [0, 1, 2, 3, 4, 5, 6, 7, 8] .done) | _ => .done
  lt := fun | 4 => [.slot 5 false [.int .i64]] | _ => []
  tup := tups

theorem vc71 (P : Program) (H : Heap) (aA : Option Addr) (aN aC : Nat) (bA : Option Addr) (bN bC : Nat) (post : Bool → Heap → Prop) :
  vcFn P tab an71 Try.f71 [.slice aA aN aC, .slice bA bN bC] 0 H ⟨false, [(false, [.bool])]⟩ post =
  (  ((!decide ((↑aN : Int) = (↑bN : Int))) = true → post false H) ∧ ((!decide ((↑aN : Int) = (↑bN : Int))) = false → ∃ (inv2 : Int → Heap → Prop), ∃ (m3 : Int → Nat), inv2 (0 : Int) H ∧ ∀ (H4 :
  Heap), Heap.le H H4 → ∀ (n6 : Int), inv2 n6 H4 → (decide (n6 < (↑aN : Int)) = true → someA aA ∧ (0 : Int) ≤ n6 ∧ n6 < (↑aN : Int) ∧ ∃ (n9 : Int), Cells H4 aA (Int.toNat n6 * 1) [.int .i64
  n9] ∧ someA bA ∧ (0 : Int) ≤ n6 ∧ n6 < (↑bN : Int) ∧ ∃ (n10 : Int), Cells H4 bA (Int.toNat n6 * 1) [.int .i64 n10] ∧ ((!decide (n9 = n10)) = true → post false H4) ∧ ((!decide (n9 = n10)) =
  false → rng .i64 (n6 + (1 : Int)) ∧ inv2 (n6 + (1 : Int)) H4 ∧ m3 (n6 + (1 : Int)) < m3 n6)) ∧ (decide (n6 < (↑aN : Int)) = false → post true H4))) := by kernel_rfl
theorem ref1_SameInts {H : Heap} {A B : Option Addr} {n c m d : Nat} {l : List Int} (hs : Sl H A n c l) (ht : Sl H B m d l) :
    ConT Try.prog 71 [.slice A n c, .slice B m d] H shB (fun r _ => r = true) := by
  refine con_of_vc (an := an71) (fn := Try.f71) mix tabOK Try.func71 (by kernel_rfl) (extra := 0) ?_
  rw [vc71]
  have b1 := hs.bn; have b2 := hs.len; have c2 := ht.len
  refine ⟨fun h => by simp at h; omega, fun _ => ⟨fun i _ => 0 ≤ i ∧ i ≤ n, fun i => n - i.toNat, ⟨by omega, by omega⟩, ?_⟩⟩
  rintro H1 l1 i ⟨i0, i1⟩
  refine ⟨fun hlt => ?_, fun _ => rfl⟩
  have hlt := of_decide_eq_true hlt
  obtain ⟨hi, hA, _, hc, rfl, -⟩ := hs.at l1 i0 hlt
  obtain ⟨ki, kA, _, kc, rfl, -⟩ := ht.at l1 i0 (by omega)
  exact ⟨hA, i0, hlt, _, hc, kA, i0, by omega, _, kc, fun h => by simp at h, fun _ => ⟨by simp only [rng]; omega, ⟨by omega, by omega⟩, by dsimp only; omega⟩⟩
section
variable {H : Heap} {nm : ByteArray} {A : Option Addr} {n c : Nat} {B : Option Addr} {m d : Nat} {E : Option Addr} {k e : Nat} {F : Option Addr} {l f : Nat} {s : TSch}
variable {nm' : ByteArray} {A' : Option Addr} {n' c' : Nat} {B' : Option Addr} {m' d' : Nat} {E' : Option Addr} {k' e' : Nat} {F' : Option Addr} {l' f' : Nat}
def an33 : Ann where
  res := fun _ => none
  lend := fun | 29 => true | 67 => true | 96 => true | 104 => true | 140 => true | _ => false
  sch := fun | 6 => (tk [0, 1, 2, 3, 4, 5, 6, 7, 8, 9] (.alt 10 (tk [11] .done) .fin)) | 11 => (tk [0, 1, 2, 3, 4, 5, 6, 7, 8, 9] (.alt 10 (.alt 11 (.alt 12 (.alt 13 .done .fin) .fin) .fin) (.alt 11 (.alt 10 (.alt 12 (.alt 13 .done .fin) .fin) .fin) .fin))) | 17 => (tk [0, 1, 2, 3, 4, 5, 6, 7, 8, 9, 10, 11, 12, 13, 14, 15, 16, 17, 18, 19, 20, 21, 22, 23, 24, 25] (.alt 26 (tk [27, 28] .done) .fin)) | _ => .done
  lt := fun | 4 => [.slot 5 false [.int .i64]] | 9 => [.slot 6 false [.int .i64]] | 15 => [.slot 9 false [.int .i64]] | _ => []
  tup := tups

theorem vc33 (P : Program) (H : Heap) (aName : ByteArray) (aVersionsA : Option Addr) (aVersionsN aVersionsC : Nat) (aKeyA : Option Addr) (aKeyN aKeyC : Nat) (aForeignKeysA : Option Addr) (aForeignKeysN aForeignKeysC : Nat) (aConstraintsA : Option Addr) (aConstraintsN aConstraintsC : Nat) (p1Name : ByteArray) (p1VersionsA : Option Addr) (p1VersionsN p1VersionsC : Nat) (p1KeyA : Option Addr) (p1KeyN p1KeyC : Nat) (p1ForeignKeysA : Option Addr) (p1ForeignKeysN p1ForeignKeysC : Nat) (p1ConstraintsA : Option Addr) (p1ConstraintsN p1ConstraintsC : Nat) (post : Bool → Heap → Prop) :
  vcFn P tab an33 Try.f33 [.agg #[.string aName, .slice aVersionsA aVersionsN aVersionsC, .slice aKeyA aKeyN aKeyC, .slice aForeignKeysA aForeignKeysN aForeignKeysC, .slice aConstraintsA aConstraintsN aConstraintsC], .agg #[.string p1Name, .slice p1VersionsA p1VersionsN p1VersionsC, .slice p1KeyA p1KeyN p1KeyC, .slice p1ForeignKeysA p1ForeignKeysN p1ForeignKeysC, .slice p1ConstraintsA p1ConstraintsN p1ConstraintsC]] 0 H ⟨false, [(false, [.bool])]⟩ post =
  (  ((!decide (aName = p1Name)) = true → post false H) ∧ ((!decide (aName = p1Name)) = false → ((!decide ((↑aVersionsN : Int) = (↑p1VersionsN : Int))) = true → post false H) ∧ ((!decide
  ((↑aVersionsN : Int) = (↑p1VersionsN : Int))) = false → ∃ (post4 : Bool → Heap → Prop), ConT P 71 [.slice aKeyA aKeyN aKeyC, .slice p1KeyA p1KeyN p1KeyC] H ⟨false, [(false, [.bool])]⟩ post4
  ∧ ∀ (H5 : Heap), Heap.le H H5 → ∀ (b7 : Bool), post4 b7 H5 → ((!b7) = true → post false H5) ∧ ((!b7) = false → ((!decide ((↑aForeignKeysN : Int) = (↑p1ForeignKeysN : Int))) = true → post
  false H5) ∧ ((!decide ((↑aForeignKeysN : Int) = (↑p1ForeignKeysN : Int))) = false → ((!decide ((↑aConstraintsN : Int) = (↑p1ConstraintsN : Int))) = true → post false H5) ∧ ((!decide
  ((↑aConstraintsN : Int) = (↑p1ConstraintsN : Int))) = false → ∃ (inv15 : Int → Heap → Prop), ∃ (m16 : Int → Nat), inv15 (0 : Int) H5 ∧ ∀ (H17 : Heap), Heap.le H5 H17 → ∀ (n19 : Int), inv15
  n19 H17 → (decide (n19 < (↑aVersionsN : Int)) = true → someA aVersionsA ∧ (0 : Int) ≤ n19 ∧ n19 < (↑aVersionsN : Int) ∧ ∃ (n22 : Int), ∃ (n23 : Int), ∃ (A24 : Option Addr), ∃ (n25 : Nat), ∃
  (c26 : Nat), Cells H17 aVersionsA (Int.toNat n19 * 3) [.int .i64 n22, .int .i64 n23, .slice A24 n25 c26] ∧ someA p1VersionsA ∧ (0 : Int) ≤ n19 ∧ n19 < (↑p1VersionsN : Int) ∧ ∃ (n27 : Int),
  ∃ (n28 : Int), ∃ (A29 : Option Addr), ∃ (n30 : Nat), ∃ (c31 : Nat), Cells H17 p1VersionsA (Int.toNat n19 * 3) [.int .i64 n27, .int .i64 n28, .slice A29 n30 c31] ∧ ∃ (post32 : Bool → Heap →
  Prop), ConT P 19 [.agg ⟨[.int .i64 n22, .int .i64 n23, .slice A24 n25 c26]⟩, .agg ⟨[.int .i64 n27, .int .i64 n28, .slice A29 n30 c31]⟩] H17 ⟨false, [(false, [.bool])]⟩ post32 ∧ ∀ (H33 :
  Heap), Heap.le H17 H33 → ∀ (b35 : Bool), post32 b35 H33 → ((!b35) = true → post false H33) ∧ ((!b35) = false → rng .i64 (n19 + (1 : Int)) ∧ inv15 (n19 + (1 : Int)) H33 ∧ m16 (n19 + (1 :
  Int)) < m16 n19)) ∧ (decide (n19 < (↑aVersionsN : Int)) = false → ∃ (inv40 : Int → Heap → Prop), ∃ (m41 : Int → Nat), inv40 (0 : Int) H17 ∧ ∀ (H42 : Heap), Heap.le H17 H42 → ∀ (n44 : Int),
  inv40 n44 H42 → (decide (n44 < (↑aForeignKeysN : Int)) = true → someA aForeignKeysA ∧ (0 : Int) ≤ n44 ∧ n44 < (↑aForeignKeysN : Int) ∧ ∃ (A47 : Option Addr), ∃ (n48 : Nat), ∃ (c49 : Nat), ∃
  (s50 : ByteArray), ∃ (A51 : Option Addr), ∃ (n52 : Nat), ∃ (c53 : Nat), Cells H42 aForeignKeysA (Int.toNat n44 * 3) [.slice A47 n48 c49, .string s50, .slice A51 n52 c53] ∧ someA
  p1ForeignKeysA ∧ (0 : Int) ≤ n44 ∧ n44 < (↑p1ForeignKeysN : Int) ∧ ∃ (A54 : Option Addr), ∃ (n55 : Nat), ∃ (c56 : Nat), ∃ (s57 : ByteArray), ∃ (A58 : Option Addr), ∃ (n59 : Nat), ∃ (c60 :
  Nat), Cells H42 p1ForeignKeysA (Int.toNat n44 * 3) [.slice A54 n55 c56, .string s57, .slice A58 n59 c60] ∧ (((!decide (s50 = s57)) = true → post false H42) ∧ ((!decide (s50 = s57)) = false
  → ∃ (post63 : Bool → Heap → Prop), ConT P 71 [.slice A47 n48 c49, .slice A54 n55 c56] H42 ⟨false, [(false, [.bool])]⟩ post63 ∧ ∀ (H64 : Heap), Heap.le H42 H64 → ∀ (b66 : Bool), post63 b66
  H64 → ((!b66) = true → post false H64) ∧ ((!b66) = false → ∃ (post70 : Bool → Heap → Prop), ConT P 71 [.slice A51 n52 c53, .slice A58 n59 c60] H64 ⟨false, [(false, [.bool])]⟩ post70 ∧ ∀
  (H71 : Heap), Heap.le H64 H71 → ∀ (b73 : Bool), post70 b73 H71 → ((!b73) = true → post false H71) ∧ ((!b73) = false → rng .i64 (n44 + (1 : Int)) ∧ inv40 (n44 + (1 : Int)) H71 ∧ m41 (n44 +
  (1 : Int)) < m41 n44)))) ∧ ((!decide (s50 = s57)) = true → post false H42) ∧ ((!decide (s50 = s57)) = false → ∃ (post79 : Bool → Heap → Prop), ConT P 71 [.slice A47 n48 c49, .slice A54 n55
  c56] H42 ⟨false, [(false, [.bool])]⟩ post79 ∧ ∀ (H80 : Heap), Heap.le H42 H80 → ∀ (b82 : Bool), post79 b82 H80 → ((!b82) = true → post false H80) ∧ ((!b82) = false → ∃ (post86 : Bool → Heap
  → Prop), ConT P 71 [.slice A51 n52 c53, .slice A58 n59 c60] H80 ⟨false, [(false, [.bool])]⟩ post86 ∧ ∀ (H87 : Heap), Heap.le H80 H87 → ∀ (b89 : Bool), post86 b89 H87 → ((!b89) = true → post
  false H87) ∧ ((!b89) = false → rng .i64 (n44 + (1 : Int)) ∧ inv40 (n44 + (1 : Int)) H87 ∧ m41 (n44 + (1 : Int)) < m41 n44)))) ∧ (decide (n44 < (↑aForeignKeysN : Int)) = false → ∃ (inv94 :
  Int → Heap → Prop), ∃ (m95 : Int → Nat), inv94 (0 : Int) H42 ∧ ∀ (H96 : Heap), Heap.le H42 H96 → ∀ (n98 : Int), inv94 n98 H96 → (decide (n98 < (↑aConstraintsN : Int)) = true → someA
  aConstraintsA ∧ (0 : Int) ≤ n98 ∧ n98 < (↑aConstraintsN : Int) ∧ ∃ (n101 : Int), Cells H96 aConstraintsA (Int.toNat n98 * 2 + 0) [.int .i64 n101] ∧ someA p1ConstraintsA ∧ (0 : Int) ≤ n98 ∧
  n98 < (↑p1ConstraintsN : Int) ∧ ∃ (n102 : Int), Cells H96 p1ConstraintsA (Int.toNat n98 * 2 + 0) [.int .i64 n102] ∧ ((!decide (n101 = n102)) = true → post false H96) ∧ ((!decide (n101 =
  n102)) = false → someA aConstraintsA ∧ (0 : Int) ≤ n98 ∧ n98 < (↑aConstraintsN : Int) ∧ ∃ (A105 : Option Addr), ∃ (n106 : Nat), ∃ (c107 : Nat), Cells H96 aConstraintsA (Int.toNat n98 * 2 +
  1) [.slice A105 n106 c107] ∧ someA p1ConstraintsA ∧ (0 : Int) ≤ n98 ∧ n98 < (↑p1ConstraintsN : Int) ∧ ∃ (A108 : Option Addr), ∃ (n109 : Nat), ∃ (c110 : Nat), Cells H96 p1ConstraintsA
  (Int.toNat n98 * 2 + 1) [.slice A108 n109 c110] ∧ ∃ (post111 : Bool → Heap → Prop), ConT P 71 [.slice A105 n106 c107, .slice A108 n109 c110] H96 ⟨false, [(false, [.bool])]⟩ post111 ∧ ∀
  (H112 : Heap), Heap.le H96 H112 → ∀ (b114 : Bool), post111 b114 H112 → ((!b114) = true → post false H112) ∧ ((!b114) = false → rng .i64 (n98 + (1 : Int)) ∧ inv94 (n98 + (1 : Int)) H112 ∧
  m95 (n98 + (1 : Int)) < m95 n98))) ∧ (decide (n98 < (↑aConstraintsN : Int)) = false → post true H96))))))))) := by kernel_rfl
set_option maxHeartbeats 1000000 in
theorem ref21_SameSchema (hs : IsTSch H nm A n c B m d E k e F l f s) (ht : IsTSch H nm' A' n' c' B' m' d' E' k' e' F' l' f' s) :
    ConT Try.prog 33 [.agg ⟨[.string nm, .slice A n c, .slice B m d, .slice E k e, .slice F l f]⟩, .agg ⟨[.string nm', .slice A' n' c', .slice B' m' d', .slice E' k' e', .slice F' l' f']⟩] H shB (fun r _ => r = true) := by
  refine con_of_vc (an := an33) (fn := Try.f33) mix tabOK Try.func33 (by kernel_rfl) (extra := 0) ?_
  rw [vc33]
  have v1 := hs.vers.bn; have v2 := hs.vers.len; have f1 := hs.fks.bn; have f2 := hs.fks.len; have c1 := hs.csts.bn; have c2 := hs.csts.len
  have w2 := ht.vers.len; have g2 := ht.fks.len; have d2 := ht.csts.len
  have en : nm = nm' := hs.name.trans ht.name.symm
  refine ⟨fun h => by simp [en] at h, fun _ => ⟨fun h => by simp at h; omega, fun _ => ⟨_, ref1_SameInts hs.key ht.key, ?_⟩⟩⟩
  rintro H1 l1 _ rfl
  refine ⟨fun h => by simp at h, fun _ => ⟨fun h => by simp at h; omega, fun _ => ⟨fun h => by simp at h; omega, fun _ => ?_⟩⟩⟩
  refine ⟨fun i _ => 0 ≤ i ∧ i ≤ n, fun i => n - i.toNat, ⟨by omega, by omega⟩, ?_⟩
  rintro H2 l2 i ⟨i0, i1⟩
  have L2 := hle_trans l1 l2
  refine ⟨fun hlt => ?_, fun _ => ?_⟩
  · have hlt := of_decide_eq_true hlt
    obtain ⟨hi, hA, _, hc, ⟨A3, n3, c3, rfl, r1, r2, r3⟩⟩ := hs.vers.at L2 i0 hlt
    obtain ⟨ki, kA, _, kc, ⟨A4, n4, c4, rfl, q1, q2, q3⟩⟩ := ht.vers.at L2 i0 (by omega)
    refine ⟨hA, i0, hlt, _, _, _, _, _, hc, kA, i0, by omega, _, _, _, _, _, kc, _, ref21_SameSchemaVersion r3 q3, ?_⟩
    rintro H3 l3 b hb
    have hb : b = true := by rw [hb]; simp
    subst hb
    exact ⟨fun h => by simp at h, fun _ => ⟨by simp only [rng]; omega, ⟨by omega, by omega⟩, by dsimp only; omega⟩⟩
  refine ⟨fun i _ => 0 ≤ i ∧ i ≤ k, fun i => k - i.toNat, ⟨by omega, by omega⟩, ?_⟩
  rintro H3 l3 i ⟨i0, i1⟩
  have L3 := hle_trans L2 l3
  refine ⟨fun hlt => ?_, fun _ => ?_⟩
  · have hlt := of_decide_eq_true hlt
    obtain ⟨hi, hA, _, hc, ⟨A3, n3, c3, B3, m3, d3, rfl, r1, r2, r3⟩⟩ := hs.fks.at L3 i0 hlt
    obtain ⟨ki, kA, _, kc, ⟨A4, n4, c4, B4, m4, d4, rfl, q1, q2, q3⟩⟩ := ht.fks.at L3 i0 (by omega)
    have key : ∀ {P : Int → Heap → Prop} {mm : Int → Nat}, (∀ H', P (i + 1) H') → mm (i + 1) < mm i → ((!decide (s.fks[i.toNat].table = s.fks[i.toNat].table)) = true → (false : Bool) = true) ∧ ((!decide (s.fks[i.toNat].table = s.fks[i.toNat].table)) = false → 
        ∃ (post63 : Bool → Heap → Prop), ConT Try.prog 71 [.slice A3 n3 c3, .slice A4 n4 c4] H3 shB post63 ∧ ∀ (H64 : Heap), Heap.le H3 H64 → ∀ (b66 : Bool), post63 b66 H64 → ((!b66) = true → (false : Bool) = true) ∧ ((!b66) = false → 
          ∃ (post70 : Bool → Heap → Prop), ConT Try.prog 71 [.slice B3 m3 d3, .slice B4 m4 d4] H64 shB post70 ∧ ∀ (H71 : Heap), Heap.le H64 H71 → ∀ (b73 : Bool), post70 b73 H71 → ((!b73) = true → (false : Bool) = true) ∧ ((!b73) = false → rng .i64 (i + 1) ∧ P (i + 1) H71 ∧ mm (i + 1) < mm i))) := by
      intro P mm hP hm
      refine ⟨fun h => by simp at h, fun _ => ⟨_, ref1_SameInts r1 q1, ?_⟩⟩
      rintro H4 l4 _ rfl
      refine ⟨fun h => by simp at h, fun _ => ⟨_, ref1_SameInts (r3.mono l4) (q3.mono l4), ?_⟩⟩
      rintro H5 l5 _ rfl
      exact ⟨fun h => by simp at h, fun _ => ⟨by simp only [rng]; omega, hP _, hm⟩⟩
    refine ⟨hA, i0, hlt, _, _, _, _, _, _, _, hc, kA, i0, by omega, _, _, _, _, _, _, _, kc, ?_, ?_⟩
    · exact key (P := fun i _ => 0 ≤ i ∧ i ≤ k) (mm := fun i => k - i.toNat) (fun _ => ⟨by omega, by omega⟩) (by omega)
    · exact key (P := fun i _ => 0 ≤ i ∧ i ≤ k) (mm := fun i => k - i.toNat) (fun _ => ⟨by omega, by omega⟩) (by omega)
  refine ⟨fun i _ => 0 ≤ i ∧ i ≤ l, fun i => l - i.toNat, ⟨by omega, by omega⟩, ?_⟩
  rintro H4 l4 i ⟨i0, i1⟩
  have L4 := hle_trans L3 l4
  refine ⟨fun hlt => ?_, fun _ => rfl⟩
  have hlt := of_decide_eq_true hlt
  obtain ⟨hi, hA, _, hc, ⟨A3, n3, c3, rfl, r1, r2⟩⟩ := hs.csts.at L4 i0 hlt
  obtain ⟨ki, kA, _, kc, ⟨A4, n4, c4, rfl, q1, q2⟩⟩ := ht.csts.at L4 i0 (by omega)
  refine ⟨hA, i0, hlt, _, hc.at1 (k := 0) rfl, kA, i0, by omega, _, kc.at1 (k := 0) rfl, fun h => by simp at h, fun _ => ⟨hA, i0, hlt, _, _, _, hc.at1 (k := 1) rfl, kA, i0, by omega, _, _, _, kc.at1 (k := 1) rfl, _, ref1_SameInts r2 q2, ?_⟩⟩
  rintro H5 l5 _ rfl
  exact ⟨fun h => by simp at h, fun _ => ⟨by simp only [rng]; omega, ⟨by omega, by omega⟩, by dsimp only; omega⟩⟩
end
end Go.Vc
