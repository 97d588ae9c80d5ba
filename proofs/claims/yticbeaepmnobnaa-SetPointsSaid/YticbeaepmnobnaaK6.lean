/- SetPoints: a point belongs to a union, intersection or difference according to whether some period of each argument includes it. No conditions. -/
import Derived.Test.YticbeaepmnobnaaF5
set_option linter.unusedSectionVars false
set_option linter.unusedSimpArgs false
set_option linter.unusedVariables false
namespace Go.Vc
open Go Go.Proofs Go.Shelf
def an8 : Ann where
  res := fun _ => none
  lend := fun | 15 => true | 17 => true | 28 => true | 41 => true | 44 => true | 48 => true | 56 => true | 65 => true | 77 => true | 89 => true | _ => false
  sch := fun _ => .done
  lt := fun | 5 => [.slot 7 false [.bool], .slot 20 false [.int .i64]] | 10 => [.slot 8 false [.bool], .slot 33 false [.int .i64]] | _ => []
  tup := tups

theorem vc8 (P : Program) (H : Heap) (aA : Option Addr) (aN aC : Nat) (p1A : Option Addr) (p1N p1C : Nat) (p2 : Int) (post : Bool → Heap → Prop) :
  vcFn P tab an8 Try.f8 [.slice aA aN aC, .slice p1A p1N p1C, .int .i64 p2] 0 H ⟨false, [(false, [.bool])]⟩ post =
  (  ∃ (post0 : Bool → Heap → Prop), ConT P 9 [.slice aA aN aC, .slice p1A p1N p1C] H ⟨false, [(false, [.bool])]⟩ post0 ∧ ∀ (H1 : Heap), Heap.le H H1 → ∀ (b3 : Bool), post0 b3 H1 → ((!b3) = true
  → ∃ (post6 : Bool → Heap → Prop), ConT P 10 [] H1 ⟨false, [(false, [.bool])]⟩ post6 ∧ ∀ (H7 : Heap), Heap.le H1 H7 → ∀ (b9 : Bool), post6 b9 H7 → post b9 H7) ∧ ((!b3) = false → ∃ (inv12 :
  Bool → Int → Heap → Prop), ∃ (m13 : Bool → Int → Nat), inv12 false (0 : Int) H1 ∧ ∀ (H14 : Heap), Heap.le H1 H14 → ∀ (b16 : Bool) (n17 : Int), inv12 b16 n17 H14 → (decide (n17 < (↑aN :
  Int)) = true → someA aA ∧ (0 : Int) ≤ n17 ∧ n17 < (↑aN : Int) ∧ ∃ (n20 : Int), ∃ (n21 : Int), Cells H14 aA (Int.toNat n17 * 2) [.int .i64 n20, .int .i64 n21] ∧ (b16 = true → rng .i64 (n17 +
  (1 : Int)) ∧ inv12 true (n17 + (1 : Int)) H14 ∧ m13 true (n17 + (1 : Int)) < m13 b16 n17) ∧ (b16 = false → ∃ (post24 : Bool → Heap → Prop), ConT P 24 [.agg ⟨[.int .i64 n20, .int .i64 n21]⟩,
  .int .i64 p2] H14 ⟨false, [(false, [.bool])]⟩ post24 ∧ ∀ (H25 : Heap), Heap.le H14 H25 → ∀ (b27 : Bool), post24 b27 H25 → rng .i64 (n17 + (1 : Int)) ∧ inv12 b27 (n17 + (1 : Int)) H25 ∧ m13
  b27 (n17 + (1 : Int)) < m13 b16 n17)) ∧ (decide (n17 < (↑aN : Int)) = false → ∃ (inv30 : Bool → Int → Heap → Prop), ∃ (m31 : Bool → Int → Nat), inv30 false (0 : Int) H14 ∧ ∀ (H32 : Heap),
  Heap.le H14 H32 → ∀ (b34 : Bool) (n35 : Int), inv30 b34 n35 H32 → (decide (n35 < (↑p1N : Int)) = true → someA p1A ∧ (0 : Int) ≤ n35 ∧ n35 < (↑p1N : Int) ∧ ∃ (n38 : Int), ∃ (n39 : Int),
  Cells H32 p1A (Int.toNat n35 * 2) [.int .i64 n38, .int .i64 n39] ∧ (b34 = true → rng .i64 (n35 + (1 : Int)) ∧ inv30 true (n35 + (1 : Int)) H32 ∧ m31 true (n35 + (1 : Int)) < m31 b34 n35) ∧
  (b34 = false → ∃ (post42 : Bool → Heap → Prop), ConT P 24 [.agg ⟨[.int .i64 n38, .int .i64 n39]⟩, .int .i64 p2] H32 ⟨false, [(false, [.bool])]⟩ post42 ∧ ∀ (H43 : Heap), Heap.le H32 H43 → ∀
  (b45 : Bool), post42 b45 H43 → rng .i64 (n35 + (1 : Int)) ∧ inv30 b45 (n35 + (1 : Int)) H43 ∧ m31 b45 (n35 + (1 : Int)) < m31 b34 n35)) ∧ (decide (n35 < (↑p1N : Int)) = false → ∃ (post48 :
  Bool → Heap → Prop), ConT P 10 [] H32 ⟨false, [(false, [.bool])]⟩ post48 ∧ ∀ (H49 : Heap), Heap.le H32 H49 → ∀ (b51 : Bool), post48 b51 H49 → (b51 = true → ∃ (post54 : Bool → Heap → Prop),
  ConT P 25 [.slice aA aN aC, .int .i64 p2] H49 ⟨false, [(false, [.bool])]⟩ post54 ∧ ∀ (H55 : Heap), Heap.le H49 H55 → ∀ (b57 : Bool), post54 b57 H55 → ((b57 == b16) = true → ∃ (post60 :
  Option Addr → Nat → Nat → Heap → Prop), ConT P 14 [.slice aA aN aC] H55 ⟨false, [(false, [.sl])]⟩ post60 ∧ ∀ (H61 : Heap), Heap.le H55 H61 → ∀ (A63 : Option Addr) (n64 c65 : Nat), post60
  A63 n64 c65 H61 → ∃ (post67 : Bool → Heap → Prop), ConT P 25 [.slice A63 n64 c65, .int .i64 p2] H61 ⟨false, [(false, [.bool])]⟩ post67 ∧ ∀ (H68 : Heap), Heap.le H61 H68 → ∀ (b70 : Bool),
  post67 b70 H68 → ((b70 == b16) = true → ∃ (post73 : Option Addr → Nat → Nat → Heap → Prop), ConT P 18 [.slice aA aN aC, .slice p1A p1N p1C] H68 ⟨false, [(false, [.sl])]⟩ post73 ∧ ∀ (H74 :
  Heap), Heap.le H68 H74 → ∀ (A76 : Option Addr) (n77 c78 : Nat), post73 A76 n77 c78 H74 → ∃ (post80 : Bool → Heap → Prop), ConT P 25 [.slice A76 n77 c78, .int .i64 p2] H74 ⟨false, [(false,
  [.bool])]⟩ post80 ∧ ∀ (H81 : Heap), Heap.le H74 H81 → ∀ (b83 : Bool), post80 b83 H81 → (b16 = true → ((b83 == true) = true → ∃ (post87 : Option Addr → Nat → Nat → Heap → Prop), ConT P 19
  [.slice aA aN aC, .slice p1A p1N p1C] H81 ⟨false, [(false, [.sl])]⟩ post87 ∧ ∀ (H88 : Heap), Heap.le H81 H88 → ∀ (A90 : Option Addr) (n91 c92 : Nat), post87 A90 n91 c92 H88 → ∃ (post94 :
  Bool → Heap → Prop), ConT P 25 [.slice A90 n91 c92, .int .i64 p2] H88 ⟨false, [(false, [.bool])]⟩ post94 ∧ ∀ (H95 : Heap), Heap.le H88 H95 → ∀ (b97 : Bool), post94 b97 H95 → (b16 = true →
  ((b97 == b34) = true → ∃ (post101 : Option Addr → Nat → Nat → Heap → Prop), ConT P 22 [.slice aA aN aC, .slice p1A p1N p1C] H95 ⟨false, [(false, [.sl])]⟩ post101 ∧ ∀ (H102 : Heap), Heap.le
  H95 H102 → ∀ (A104 : Option Addr) (n105 c106 : Nat), post101 A104 n105 c106 H102 → ∃ (post108 : Bool → Heap → Prop), ConT P 25 [.slice A104 n105 c106, .int .i64 p2] H102 ⟨false, [(false,
  [.bool])]⟩ post108 ∧ ∀ (H109 : Heap), Heap.le H102 H109 → ∀ (b111 : Bool), post108 b111 H109 → (b16 = true → post (b111 == !b34) H109) ∧ (b16 = false → post (b111 == false) H109)) ∧ ((b97
  == b34) = false → post false H95)) ∧ (b16 = false → ((b97 == false) = true → ∃ (post118 : Option Addr → Nat → Nat → Heap → Prop), ConT P 22 [.slice aA aN aC, .slice p1A p1N p1C] H95 ⟨false,
  [(false, [.sl])]⟩ post118 ∧ ∀ (H119 : Heap), Heap.le H95 H119 → ∀ (A121 : Option Addr) (n122 c123 : Nat), post118 A121 n122 c123 H119 → ∃ (post125 : Bool → Heap → Prop), ConT P 25 [.slice
  A121 n122 c123, .int .i64 p2] H119 ⟨false, [(false, [.bool])]⟩ post125 ∧ ∀ (H126 : Heap), Heap.le H119 H126 → ∀ (b128 : Bool), post125 b128 H126 → (b16 = true → post (b128 == !b34) H126) ∧
  (b16 = false → post (b128 == false) H126)) ∧ ((b97 == false) = false → post false H95))) ∧ ((b83 == true) = false → post false H81)) ∧ (b16 = false → ((b83 == b34) = true → ∃ (post136 :
  Option Addr → Nat → Nat → Heap → Prop), ConT P 19 [.slice aA aN aC, .slice p1A p1N p1C] H81 ⟨false, [(false, [.sl])]⟩ post136 ∧ ∀ (H137 : Heap), Heap.le H81 H137 → ∀ (A139 : Option Addr)
  (n140 c141 : Nat), post136 A139 n140 c141 H137 → ∃ (post143 : Bool → Heap → Prop), ConT P 25 [.slice A139 n140 c141, .int .i64 p2] H137 ⟨false, [(false, [.bool])]⟩ post143 ∧ ∀ (H144 :
  Heap), Heap.le H137 H144 → ∀ (b146 : Bool), post143 b146 H144 → (b16 = true → ((b146 == b34) = true → ∃ (post150 : Option Addr → Nat → Nat → Heap → Prop), ConT P 22 [.slice aA aN aC, .slice
  p1A p1N p1C] H144 ⟨false, [(false, [.sl])]⟩ post150 ∧ ∀ (H151 : Heap), Heap.le H144 H151 → ∀ (A153 : Option Addr) (n154 c155 : Nat), post150 A153 n154 c155 H151 → ∃ (post157 : Bool → Heap →
  Prop), ConT P 25 [.slice A153 n154 c155, .int .i64 p2] H151 ⟨false, [(false, [.bool])]⟩ post157 ∧ ∀ (H158 : Heap), Heap.le H151 H158 → ∀ (b160 : Bool), post157 b160 H158 → (b16 = true →
  post (b160 == !b34) H158) ∧ (b16 = false → post (b160 == false) H158)) ∧ ((b146 == b34) = false → post false H144)) ∧ (b16 = false → ((b146 == false) = true → ∃ (post167 : Option Addr → Nat
  → Nat → Heap → Prop), ConT P 22 [.slice aA aN aC, .slice p1A p1N p1C] H144 ⟨false, [(false, [.sl])]⟩ post167 ∧ ∀ (H168 : Heap), Heap.le H144 H168 → ∀ (A170 : Option Addr) (n171 c172 : Nat),
  post167 A170 n171 c172 H168 → ∃ (post174 : Bool → Heap → Prop), ConT P 25 [.slice A170 n171 c172, .int .i64 p2] H168 ⟨false, [(false, [.bool])]⟩ post174 ∧ ∀ (H175 : Heap), Heap.le H168 H175
  → ∀ (b177 : Bool), post174 b177 H175 → (b16 = true → post (b177 == !b34) H175) ∧ (b16 = false → post (b177 == false) H175)) ∧ ((b146 == false) = false → post false H144))) ∧ ((b83 == b34) =
  false → post false H81))) ∧ ((b70 == b16) = false → post false H68)) ∧ ((b57 == b16) = false → post false H55)) ∧ (b51 = false → post false H49))))) := by kernel_rfl
set_option maxHeartbeats 4000000 in
theorem law5_SetPoints {H : Heap} {A B : Option Addr} {n c m d : Nat} {l k : List Per} {t : Int} (hs : Sl H A n c l) (ht : Sl H B m d k) (_hx : rng .i64 t) :
    ConT Try.prog 8 [.slice A n c, .slice B m d, .int .i64 t] H shB (fun r _ => r = true) := by
  refine con_of_vc (an := an8) (fn := Try.f8) mix tabOK Try.func8 (by kernel_rfl) (extra := 0) ?_
  rw [vc8]
  refine ⟨_, law5_few, ?_⟩
  rintro H1 l1 _ rfl
  refine ⟨fun _ => ⟨_, law5_awake, fun _ _ _ h => h⟩, fun hf => ?_⟩
  simp only [Bool.not_eq_false'] at hf
  have hb := few_bound hf
  have hs := hs.mono l1; have ht := ht.mono l1
  have b2 := hs.len; have b3 := hs.bn; have b4 := ht.len; have b5 := ht.bn
  refine ⟨fun b i _ => 0 ≤ i ∧ i ≤ n ∧ inSet l t = (b || inSet (l.drop i.toNat) t), fun _ i => n - i.toNat, ⟨by omega, by omega, rfl⟩, ?_⟩
  rintro H2 l2 x i ⟨i0, i1, he⟩
  refine ⟨fun hlt => ?_, fun hge => ?_⟩
  · have hlt := of_decide_eq_true hlt
    obtain ⟨hi, hA, _, hc, ⟨rfl, r1, r2⟩⟩ := hs.at l2 i0 hlt
    rw [drop_at i0 hi, inSet_cons] at he
    refine ⟨hA, i0, hlt, _, _, hc, fun hx => ⟨by simp only [rng]; omega, ⟨by omega, by omega, ?_⟩, by dsimp only; omega⟩, fun hx => ⟨_, period_Includes, ?_⟩⟩
    · rw [he, hx]; simp
    · rintro H3 l3 _ rfl
      refine ⟨by simp only [rng]; omega, ⟨by omega, by omega, ?_⟩, by dsimp only; omega⟩
      rw [he, hx]; simp
  rw [drop_end (of_decide_eq_false hge) b2, inSet_nil, Bool.or_false] at he
  subst he
  have hs := hs.mono l2; have ht := ht.mono l2
  refine ⟨fun b i _ => 0 ≤ i ∧ i ≤ m ∧ inSet k t = (b || inSet (k.drop i.toNat) t), fun _ i => m - i.toNat, ⟨by omega, by omega, rfl⟩, ?_⟩
  rintro H3 l3 y j ⟨j0, j1, je⟩
  refine ⟨fun hlt => ?_, fun hge => ?_⟩
  · have hlt := of_decide_eq_true hlt
    obtain ⟨hi, hA, _, hc, ⟨rfl, r1, r2⟩⟩ := ht.at l3 j0 hlt
    rw [drop_at j0 hi, inSet_cons] at je
    refine ⟨hA, j0, hlt, _, _, hc, fun hx => ⟨by simp only [rng]; omega, ⟨by omega, by omega, ?_⟩, by dsimp only; omega⟩, fun hx => ⟨_, period_Includes, ?_⟩⟩
    · rw [je, hx]; simp
    · rintro H4 l4 _ rfl
      refine ⟨by simp only [rng]; omega, ⟨by omega, by omega, ?_⟩, by dsimp only; omega⟩
      rw [je, hx]; simp
  rw [drop_end (of_decide_eq_false hge) b4, inSet_nil, Bool.or_false] at je
  subst je
  have hs := hs.mono l3; have ht := ht.mono l3
  refine ⟨_, law5_awake, ?_⟩
  rintro H4 l4 _ rfl
  have hs := hs.mono l4; have ht := ht.mono l4
  refine ⟨fun _ => ⟨_, periodset_Includes hs, ?_⟩, fun h => by simp at h⟩
  rintro H5 l5 _ rfl
  have hs := hs.mono l5; have ht := ht.mono l5
  refine ⟨fun _ => ⟨_, periodset_Normalize hs, ?_⟩, fun h => by simp at h⟩
  intro H6 l6 A6 n6 c6 h6
  have hs := hs.mono l6; have ht := ht.mono l6
  refine ⟨_, periodset_Includes h6, ?_⟩
  rintro H7 l7 _ rfl
  have hs := hs.mono l7; have ht := ht.mono l7
  rw [norm_in]
  refine ⟨fun _ => ⟨_, periodset_Union hs ht hb, ?_⟩, fun h => by simp at h⟩
  intro H8 l8 A8 n8 c8 h8
  have hs := hs.mono l8; have ht := ht.mono l8
  refine ⟨_, periodset_Includes h8, ?_⟩
  rintro H9 l9 _ rfl
  have hs := hs.mono l9; have ht := ht.mono l9
  rw [union_in]
  have fin : ∀ {H10 : Heap}, Heap.le H9 H10 → ∃ post : Option Addr → Nat → Nat → Heap → Prop, ConT Try.prog 22 [.slice A n c, .slice B m d] H10 shS post ∧ ∀ H11 : Heap, Heap.le H10 H11 → ∀ (A11 : Option Addr) (n11 c11 : Nat), post A11 n11 c11 H11 →
      ∃ post2 : Bool → Heap → Prop, ConT Try.prog 25 [.slice A11 n11 c11, .int .i64 t] H11 shB post2 ∧ ∀ H12 : Heap, Heap.le H11 H12 → ∀ b : Bool, post2 b H12 → (inSet l t = true → (b == !inSet k t) = true) ∧ (inSet l t = false → (b == false) = true) := by
    intro H10 l10
    refine ⟨_, periodset_Subtract (hs.mono l10) (ht.mono l10), ?_⟩
    intro H11 l11 A11 n11 c11 h11
    refine ⟨_, periodset_Includes h11, ?_⟩
    rintro H12 l12 _ rfl
    rw [diff_in]
    cases inSet l t <;> cases inSet k t <;> simp
  have mid : ∃ post : Option Addr → Nat → Nat → Heap → Prop, ConT Try.prog 19 [.slice A n c, .slice B m d] H9 shS post ∧ ∀ H11 : Heap, Heap.le H9 H11 → ∀ (A11 : Option Addr) (n11 c11 : Nat), post A11 n11 c11 H11 →
      ∃ post2 : Bool → Heap → Prop, ConT Try.prog 25 [.slice A11 n11 c11, .int .i64 t] H11 shB post2 ∧ ∀ H12 : Heap, Heap.le H11 H12 → ∀ b : Bool, post2 b H12 → Heap.le H9 H12 ∧ b = (inSet l t && inSet k t) := by
    refine ⟨_, periodset_Intersect hs ht, ?_⟩
    intro H11 l11 A11 n11 c11 h11
    refine ⟨_, periodset_Includes h11, ?_⟩
    rintro H12 l12 _ rfl
    exact ⟨hle_trans l11 l12, isect_in l k t⟩
  have mid2 : ∀ {Q R : Heap → Prop}, (∀ H12 : Heap, Heap.le H9 H12 → Q H12 ∧ R H12) → ∃ post : Option Addr → Nat → Nat → Heap → Prop, ConT Try.prog 19 [.slice A n c, .slice B m d] H9 shS post ∧ ∀ H11 : Heap, Heap.le H9 H11 → ∀ (A11 : Option Addr) (n11 c11 : Nat), post A11 n11 c11 H11 →
      ∃ post2 : Bool → Heap → Prop, ConT Try.prog 25 [.slice A11 n11 c11, .int .i64 t] H11 shB post2 ∧ ∀ H12 : Heap, Heap.le H11 H12 → ∀ b : Bool, post2 b H12 → (inSet l t = true → ((b == inSet k t) = true → Q H12) ∧ ((b == inSet k t) = false → false = true)) ∧ (inSet l t = false → ((b == false) = true → R H12) ∧ ((b == false) = false → false = true)) := by
    intro Q R hq
    obtain ⟨p1, m1, m2⟩ := mid
    refine ⟨p1, m1, fun H11 l11 A11 n11 c11 h11 => ?_⟩
    obtain ⟨p2, m3, m4⟩ := m2 H11 l11 A11 n11 c11 h11
    refine ⟨p2, m3, fun H12 l12 b hb => ?_⟩
    obtain ⟨l, rfl⟩ := m4 H12 l12 b hb
    have := hq H12 l
    exact ⟨fun h => ⟨fun _ => this.1, fun h' => by rw [h] at h'; simp at h'⟩, fun h => ⟨fun _ => this.2, fun h' => by rw [h] at h'; simp at h'⟩⟩
  refine ⟨fun h => ⟨fun _ => mid2 fun _ l => ⟨fin l, fin l⟩, fun h' => by rw [h] at h'; simp at h'⟩, fun h => ⟨fun _ => mid2 fun _ l => ⟨fin l, fin l⟩, fun h' => by rw [h] at h'; simp at h'⟩⟩
end Go.Vc
namespace Go.Proofs.Yticbeaepmnobnaa.setPoints
open Go Go.Vc Go.RowKit Go.WideShapes Go.ChangeShapes
theorem sps : ∀ t ∈ Try.f8.params.toList, SpOK Try.prog t := by
  rw [Try.params8]
  exact List.forall_mem_cons.2 ⟨oPers.sp, List.forall_mem_cons.2 ⟨oPers.sp, List.forall_mem_cons.2 ⟨oInt.sp, fun _ h => by cases h⟩⟩⟩
theorem own : ownKnob Try.prog.godebug = none := by kernel_rfl
set_option maxRecDepth 100000 in
theorem lifted (os : Os) (started : os.Started) (H : Type) (enc : TypeId × Value → H) :
    ReturnsInHanded {} Try.checked os 8 .any (Rows.setPointsSpec.pre6 enc Try.prog Try.f8 Rows.setPointsRow.domain false) (Rows.setPointsSpec.post enc Try.prog Try.f8 false true false false) := by
  refine returnsInHanded_of_change_sized (C := Try.checked) own started (by kernel_rfl) Try.func8
    (ChangeSpec.witness6 (enc := enc) (C := Try.checked) false ⟨#[], #[.slice none 0 0, .slice none 0 0, .int .i64 0], []⟩ 8 (by kernel_rfl) (by kernel_rfl) (by kernel_rfl) (by kernel_rfl)) ?_
  intro W base args ds gs before hval0 hW hcnd hsz0 _
  have hval : ∀ (j : Nat) t v, Try.f8.params[j]? = some t → args[j]? = some v → Value.okWide Try.prog W .any base t v := hval0
  have hW' := hW
  obtain ⟨p, q, hA0, hV, rfl, hfz, hnd⟩ := hW
  have hA : DataW.TrodAll enc Try.prog W 0 (fun _ => true) true Try.f8.params.toList args.toList ds p := hA0
  have hsz : (DataW.weightsEach Try.prog (Try.f8.params.toList ++ Rows.setPointsSpec.plain.varTypes Try.prog) (ds ++ gs)).all (· ≤ reachBytes) = true := hsz0
  have hA1 := hA
  obtain ⟨rfl, rfl⟩ := trodVars_none hV
  rw [Try.params8] at hA hval hsz
  obtain ⟨v0, vs0, d0, ds0, p0, q0, hargs, rfl, rfl, h0, r0⟩ := trodAll_cons hA
  obtain ⟨v1, vs1, d1, ds1, p1, q1, rfl, rfl, rfl, h1, r1⟩ := trodAll_cons r0
  obtain ⟨v2, vs2, d2, ds2, p2, q2, rfl, rfl, rfl, h2, r2⟩ := trodAll_cons r1
  obtain ⟨rfl, rfl, rfl⟩ := trodAll_nil r2
  obtain rfl : args = #[v0, v1, v2] := by cases args; simp_all
  have ok0 := hval 0 22 v0 rfl rfl
  have w0 := weightsEach_get (i := 0) hsz rfl rfl
  obtain ⟨A01, n01, c01, rfl⟩ := okWide_slice Try.underlying22 ok0
  obtain ⟨y0, A02, n02, c02, hy0, hr0⟩ := arg_get oPers h0 w0
  obtain ⟨rfl, rfl, rfl⟩ : A01 = A02 ∧ n01 = n02 ∧ c01 = c02 := by simpa [Value.cells] using hy0
  have ok1 := hval 1 22 v1 rfl rfl
  have w1 := weightsEach_get (i := 1) hsz rfl rfl
  obtain ⟨A11, n11, c11, rfl⟩ := okWide_slice Try.underlying22 ok1
  obtain ⟨y1, A12, n12, c12, hy1, hr1⟩ := arg_get oPers h1 w1
  obtain ⟨rfl, rfl, rfl⟩ : A11 = A12 ∧ n11 = n12 ∧ c11 = c12 := by simpa [Value.cells] using hy1
  have ok2 := hval 2 3 v2 rfl rfl
  have w2 := weightsEach_get (i := 2) hsz rfl rfl
  obtain ⟨x2, rfl⟩ := okWide_int Try.underlying3 ok2
  obtain ⟨y2, hy2, hr2⟩ := arg_get oInt h2 w2
  obtain rfl : x2 = y2 := by simpa [Value.cells] using hy2
  refine (con_true (law5_SetPoints hr0 hr1 hr2) (heapOf_snap W)).mono fun e W' ⟨he, hb⟩ => ?_
  subst he
  exact ⟨_, rfl, post_of_below (pa := _) (pv := []) hW' (fun _ _ _ => trodAll_mk1 (shut_bool Try.underlying4 _))
    (fun sp hsp => trodAll_sp sps hA1 (fun z hz => hb.same (hW'.lt z (by simpa using hz))) (fun z hz => hsp z (by simpa using hz))) (fun _ _ => rfl) rfl hb (ok_one (by kernel_rfl) rfl (okWide_bool_mk Try.underlying4 _))⟩
theorem proved : Rows.SetPointsSaid :=
  OpenClaim.holds_of_wide 8 Try.f8 rfl rfl rfl rfl rfl rfl rfl ⟨rfl, rfl, rfl, rfl, rfl⟩ rfl rfl rfl rfl rfl (by kernel_rfl) Try.func8 (by kernel_rfl)
    (of_decide_eq_true (by kernel_rfl)) (by unfold Func.isWrapper; first | (rw [if_pos (by decide +kernel)]; kernel_rfl) | (rw [if_neg (by decide +kernel)]; exact ⟨rfl, rfl⟩))
    (fun os started H enc _ => lifted os started H enc)
#print axioms proved
end Go.Proofs.Yticbeaepmnobnaa.setPoints
