/- Unions, intersections, differences, lengths: what the program and the definition compute. -/
import Derived.Test.YticbeaepmnobnaaF2
set_option linter.unusedSectionVars false
set_option linter.unusedSimpArgs false
set_option linter.unusedVariables false
namespace Go.Vc
open Go Go.Proofs Go.Shelf
theorem sumL_append : ∀ (a b : List Per), sumL (a ++ b) = sumL a + sumL b
  | [], b => by simp [sumL]
  | p :: r, b => by simp only [List.cons_append, sumL, sumL_append r b]; omega
theorem nrmGo_drop {h : Int} : ∀ {l : List Per} (k : Nat), nrmGo h l = true → ∃ h', h ≤ h' ∧ nrmGo h' (l.drop k) = true
  | l, 0, h1 => ⟨h, Int.le_refl _, h1⟩
  | [], k + 1, _ => ⟨h, Int.le_refl _, rfl⟩
  | p :: r, k + 1, h1 => by
    rw [nrmGo_cons] at h1
    obtain ⟨h', a, b⟩ := nrmGo_drop k h1.2.2
    exact ⟨h', by omega, b⟩
theorem sumL_rng {l : List Per} (h : nrm l = true) : 0 ≤ sumL l ∧ sumL l ≤ maxT + 1 := by
  have := sumL_bd h
  refine ⟨this.1, ?_⟩
  by_cases h0 : l = []
  · subst h0; simp [sumL]; decide
  · have := this.2 h0; omega
def an16 : Ann where
  res := fun _ => none
  lend := fun _ => false
  sch := fun _ => .done
  lt := fun | 3 => [.slot 3 false [.int .i64], .slot 9 false [.int .i64]] | _ => []
  tup := tups

theorem vc16 (P : Program) (H : Heap) (sA : Option Addr) (sN sC : Nat) (post : Int → Heap → Prop) :
  vcFn P tab an16 Try.f16 [.slice sA sN sC] 0 H ⟨false, [(false, [.int .i64])]⟩ post =
  (  ∃ (post0 : Option Addr → Nat → Nat → Heap → Prop), ConT P 14 [.slice sA sN sC] H ⟨false, [(false, [.sl])]⟩ post0 ∧ ∀ (H1 : Heap), Heap.le H H1 → ∀ (A3 : Option Addr) (n4 c5 : Nat), post0 A3
  n4 c5 H1 → ∃ (inv7 : Int → Int → Heap → Prop), ∃ (m8 : Int → Int → Nat), inv7 (0 : Int) (0 : Int) H1 ∧ ∀ (H9 : Heap), Heap.le H1 H9 → ∀ (n11 n12 : Int), inv7 n11 n12 H9 → (decide (n12 <
  (↑n4 : Int)) = true → someA A3 ∧ (0 : Int) ≤ n12 ∧ n12 < (↑n4 : Int) ∧ ∃ (n15 : Int), ∃ (n16 : Int), Cells H9 A3 (Int.toNat n12 * 2) [.int .i64 n15, .int .i64 n16] ∧ rng .i64 (n16 - n15) ∧
  rng .i64 (n11 + (n16 - n15)) ∧ rng .i64 (n12 + (1 : Int)) ∧ inv7 (n11 + (n16 - n15)) (n12 + (1 : Int)) H9 ∧ m8 (n11 + (n16 - n15)) (n12 + (1 : Int)) < m8 n11 n12) ∧ (decide (n12 < (↑n4 :
  Int)) = false → post n11 H9)) := by kernel_rfl
theorem periodset_Len {H : Heap} {A : Option Addr} {n c : Nat} {l : List Per} (hs : Sl H A n c l) : ConT Try.prog 16 [.slice A n c] H shI (fun r _ => r = lenS l) := by
  refine con_of_vc (an := an16) (fn := Try.f16) mix tabOK Try.func16 (by kernel_rfl) (extra := 0) ?_
  rw [vc16]
  refine ⟨_, periodset_Normalize hs, ?_⟩
  intro H1 l1 A1 n1 c1 h1
  have b1 := h1.bn; have b2 := h1.len
  have hn := norm_nrm l
  have hmx : maxT = 1099511627776 := rfl
  refine ⟨fun s i _ => 0 ≤ i ∧ i ≤ n1 ∧ 0 ≤ s ∧ lenS l = s + sumL ((norm l).drop i.toNat), fun _ i => n1 - i.toNat, ⟨by omega, by omega, by omega, by simp [lenS]⟩, ?_⟩
  rintro H2 l2 s i ⟨h0, hi1, s0, he⟩
  refine ⟨fun hlt => ?_, fun hge => ?_⟩
  · have hlt := of_decide_eq_true hlt
    obtain ⟨hi, hA, _, hc, ⟨rfl, r1, r2⟩⟩ := h1.at l2 h0 hlt
    obtain ⟨h', -, hd⟩ := nrmGo_drop i.toNat hn
    rw [drop_at h0 hi] at he hd
    have hs1 := sumL_rng hn
    have hd1 := nrmGo_cons.1 hd
    have hd2 := (sumL_bd hd1.2.2).1
    simp only [sumL] at he
    have hle : lenS l ≤ maxT + 1 := hs1.2
    refine ⟨hA, h0, hlt, _, _, hc, by simp only [rng]; omega, by simp only [rng]; omega, by simp only [rng]; omega, ⟨by omega, by omega, by omega, ?_⟩, by dsimp only; omega⟩
    rw [he, show (i + 1).toNat = i.toNat + 1 by omega]
    omega
  · rw [drop_end (of_decide_eq_false hge) b2] at he
    simp only [sumL] at he
    omega
def an17 : Ann where
  res := fun _ => none
  lend := fun _ => false
  sch := fun _ => .done
  lt := fun | 3 => [.slot 3 false [.int .i64], .slot 9 false [.int .i64]] | _ => []
  tup := tups

theorem vc17 (P : Program) (H : Heap) (sA : Option Addr) (sN sC : Nat) (post : Int → Heap → Prop) :
  vcFn P tab an17 Try.f17 [.slice sA sN sC] 0 H ⟨false, [(false, [.int .i64])]⟩ post =
  (  ∃ (post0 : Option Addr → Nat → Nat → Heap → Prop), ConT P 15 [.slice sA sN sC] H ⟨false, [(false, [.sl])]⟩ post0 ∧ ∀ (H1 : Heap), Heap.le H H1 → ∀ (A3 : Option Addr) (n4 c5 : Nat), post0 A3
  n4 c5 H1 → ∃ (inv7 : Int → Int → Heap → Prop), ∃ (m8 : Int → Int → Nat), inv7 (0 : Int) (0 : Int) H1 ∧ ∀ (H9 : Heap), Heap.le H1 H9 → ∀ (n11 n12 : Int), inv7 n11 n12 H9 → (decide (n12 <
  (↑n4 : Int)) = true → someA A3 ∧ (0 : Int) ≤ n12 ∧ n12 < (↑n4 : Int) ∧ ∃ (n15 : Int), ∃ (n16 : Int), Cells H9 A3 (Int.toNat n12 * 2) [.int .i64 n15, .int .i64 n16] ∧ rng .i64 (n11 + n16) ∧
  rng .i64 (n11 + n16 - n15) ∧ rng .i64 (n12 + (1 : Int)) ∧ inv7 (n11 + n16 - n15) (n12 + (1 : Int)) H9 ∧ m8 (n11 + n16 - n15) (n12 + (1 : Int)) < m8 n11 n12) ∧ (decide (n12 < (↑n4 : Int)) =
  false → post n11 H9)) := by kernel_rfl
theorem ref1_Len {H : Heap} {A : Option Addr} {n c : Nat} {l : List Per} (hs : Sl H A n c l) : ConT Try.prog 17 [.slice A n c] H shI (fun r _ => r = lenS l) := by
  refine con_of_vc (an := an17) (fn := Try.f17) mix tabOK Try.func17 (by kernel_rfl) (extra := 0) ?_
  rw [vc17]
  refine ⟨_, ref1_Normalize hs, ?_⟩
  intro H1 l1 A1 n1 c1 h1
  have b1 := h1.bn; have b2 := h1.len
  have hn := norm_nrm l
  have hmx : maxT = 1099511627776 := rfl
  refine ⟨fun s i _ => 0 ≤ i ∧ i ≤ n1 ∧ 0 ≤ s ∧ lenS l = s + sumL ((norm l).drop i.toNat), fun _ i => n1 - i.toNat, ⟨by omega, by omega, by omega, by simp [lenS]⟩, ?_⟩
  rintro H2 l2 s i ⟨h0, hi1, s0, he⟩
  refine ⟨fun hlt => ?_, fun hge => ?_⟩
  · have hlt := of_decide_eq_true hlt
    obtain ⟨hi, hA, _, hc, ⟨rfl, r1, r2⟩⟩ := h1.at l2 h0 hlt
    obtain ⟨h', -, hd⟩ := nrmGo_drop i.toNat hn
    rw [drop_at h0 hi] at he hd
    have hs1 := sumL_rng hn
    have hd1 := nrmGo_cons.1 hd
    have hd2 := (sumL_bd hd1.2.2).1
    simp only [sumL] at he
    have hle : lenS l ≤ maxT + 1 := hs1.2
    refine ⟨hA, h0, hlt, _, _, hc, by simp only [rng]; omega, by simp only [rng]; omega, by simp only [rng]; omega, ⟨by omega, by omega, by omega, ?_⟩, by dsimp only; omega⟩
    rw [he, show (i + 1).toNat = i.toNat + 1 by omega]
    omega
  · rw [drop_end (of_decide_eq_false hge) b2] at he
    simp only [sumL] at he
    omega
section
variable {H : Heap} {A B : Option Addr} {n c m d : Nat} {l k : List Per}
theorem sl_two {H : Heap} {D : Option Addr} {q : Nat} (hs : Sl H A n c l) (ht : Sl H B m d k) (hc : Cells H D 0 [.slice A n c, .slice B m d]) (hq : 2 ≤ q) : Sl H D 2 q [l, k] := by
  have hr : Row H [.slice A n c, .slice B m d] [l, k] := ⟨[_], [_], rfl, ⟨A, n, c, rfl, hs⟩, [_], [], rfl, ⟨B, m, d, rfl, ht⟩, rfl⟩
  exact hr.sl (hle_refl H) hc rfl hq (by show 2 * 24 ≤ _; omega) (by omega)
def an18 : Ann where
  res := fun _ => none
  lend := fun _ => false
  sch := fun _ => .done
  lt := fun _ => []
  tup := tups

theorem vc18 (P : Program) (H : Heap) (aA : Option Addr) (aN aC : Nat) (bA : Option Addr) (bN bC : Nat) (post : Option Addr → Nat → Nat → Heap → Prop) :
  vcFn P tab an18 Try.f18 [.slice aA aN aC, .slice bA bN bC] 0 H ⟨false, [(false, [.sl])]⟩ post =
  (  ∀ (A0 : Option Addr) (c1 : Nat) (H2 : Heap), Heap.le H H2 → Cells H2 A0 0 [.slice aA aN aC, .slice bA bN bC] → 2 ≤ c1 → ∃ (post6 : Option Addr → Nat → Nat → Heap → Prop), ConT P 32 [.slice
  A0 2 c1] H2 ⟨false, [(false, [.sl])]⟩ post6 ∧ ∀ (H7 : Heap), Heap.le H2 H7 → ∀ (A9 : Option Addr) (n10 c11 : Nat), post6 A9 n10 c11 H7 → ∃ (post13 : Option Addr → Nat → Nat → Heap → Prop),
  ConT P 14 [.slice A9 n10 c11] H7 ⟨false, [(false, [.sl])]⟩ post13 ∧ ∀ (H14 : Heap), Heap.le H7 H14 → ∀ (A16 : Option Addr) (n17 c18 : Nat), post13 A16 n17 c18 H14 → post A16 n17 c18 H14) := by kernel_rfl
theorem periodset_Union (hs : Sl H A n c l) (ht : Sl H B m d k) (hb : (n + m) * 16 ≤ 140737488355328) : ConT Try.prog 18 [.slice A n c, .slice B m d] H shS (fun A' n' c' H' => Sl H' A' n' c' (union l k)) := by
  refine con_of_vc (an := an18) (fn := Try.f18) mix tabOK Try.func18 (by kernel_rfl) (extra := 0) ?_
  rw [vc18]
  intro A0 q H2 l2 hc hq
  have b2 := hs.len; have b4 := ht.len
  refine ⟨_, Concat_Per (sl_two (hs.mono l2) (ht.mono l2) hc hq) (by simp only [List.flatten_cons, List.flatten_nil, List.append_nil, List.length_append]; omega), ?_⟩
  intro H3 l3 A3 n3 c3 h3
  refine ⟨_, periodset_Normalize h3, ?_⟩
  intro H4 l4 A4 n4 c4 h4
  simpa [union] using h4
def an20 : Ann where
  res := fun _ => none
  lend := fun _ => false
  sch := fun _ => .done
  lt := fun _ => []
  tup := tups

theorem vc20 (P : Program) (H : Heap) (aA : Option Addr) (aN aC : Nat) (bA : Option Addr) (bN bC : Nat) (post : Option Addr → Nat → Nat → Heap → Prop) :
  vcFn P tab an20 Try.f20 [.slice aA aN aC, .slice bA bN bC] 0 H ⟨false, [(false, [.sl])]⟩ post =
  (  ∃ (ys0 : List Value), Cells H aA 0 ys0 ∧ List.length ys0 = aN * 2 ∧ aN * 16 ≤ 140737488355328 ∧ ∃ (ys1 : List Value), Cells H bA 0 ys1 ∧ List.length ys1 = bN * 2 ∧ (aN + bN) * 16 ≤
  140737488355328 ∧ ∀ (A2 : Option Addr) (c3 : Nat) (H4 : Heap), Heap.le H H4 → Cells H4 A2 0 (ys0 ++ ys1) → aN + bN ≤ c3 → ∃ (post8 : Option Addr → Nat → Nat → Heap → Prop), ConT P 15
  [.slice A2 (aN + bN) c3] H4 ⟨false, [(false, [.sl])]⟩ post8 ∧ ∀ (H9 : Heap), Heap.le H4 H9 → ∀ (A11 : Option Addr) (n12 c13 : Nat), post8 A11 n12 c13 H9 → post A11 n12 c13 H9) := by kernel_rfl
theorem ref1_UnionSet (hs : Sl H A n c l) (ht : Sl H B m d k) (hb : (n + m) * 16 ≤ 140737488355328) : ConT Try.prog 20 [.slice A n c, .slice B m d] H shS (fun A' n' c' H' => Sl H' A' n' c' (union l k)) := by
  refine con_of_vc (an := an20) (fn := Try.f20) mix tabOK Try.func20 (by kernel_rfl) (extra := 0) ?_
  rw [vc20]
  have b2 := hs.len; have b4 := ht.len
  obtain ⟨ys, y1, y2⟩ := hs.row
  obtain ⟨zs, z1, z2⟩ := ht.row
  refine ⟨ys, y1, by rw [y2.length, b2]; rfl, by omega, zs, z1, by rw [z2.length, b4]; rfl, hb, ?_⟩
  intro A2 c2 H2 l2 hc hq
  have h2 : Sl H2 A2 (n + m) c2 (l ++ k) := (y2.append z2).sl l2 hc (by rw [List.length_append, b2, b4]) hq hb (by omega)
  refine ⟨_, ref1_Normalize h2, ?_⟩
  intro H4 l4 A4 n4 c4 h4
  exact h4
def sh2 : RSh := ⟨true, [(true, [.int .i64, .int .i64]), (false, [.bool])]⟩
def an21 : Ann where
  res := fun _ => none
  lend := fun _ => false
  sch := fun | 9 => (tk [0, 1, 2, 3, 4, 5, 6, 7] (.alt 8 (tk [9, 10, 11] (.alt 12 (.alt 13 (tk [14] .done) .fin) .fin)) (.alt 12 (.alt 8 (tk [9, 10, 11] (.alt 13 (tk [14] .done) .fin)) .fin) .fin))) | _ => .done
  lt := fun | 4 => [.slot 5 false [.row 44 30], .slot 6 false [.int .i64]] | 7 => [.slot 5 false [.row 45 30], .slot 7 false [.int .i64]] | _ => []
  tup := tups

theorem vc21 (P : Program) (H : Heap) (aA : Option Addr) (aN aC : Nat) (bA : Option Addr) (bN bC : Nat) (post : Option Addr → Nat → Nat → Heap → Prop) :
  vcFn P tab an21 Try.f21 [.slice aA aN aC, .slice bA bN bC] 2 H ⟨false, [(false, [.sl])]⟩ post =
  (  ∃ (post0 : Option Addr → Nat → Nat → Heap → Prop), ConT P 15 [.slice aA aN aC] H ⟨false, [(false, [.sl])]⟩ post0 ∧ ∀ (H1 : Heap), Heap.le H H1 → ∀ (A3 : Option Addr) (n4 c5 : Nat), post0 A3
  n4 c5 H1 → ∃ (post7 : Option Addr → Nat → Nat → Heap → Prop), ConT P 15 [.slice bA bN bC] H1 ⟨false, [(false, [.sl])]⟩ post7 ∧ ∀ (H8 : Heap), Heap.le H1 H8 → ∀ (A10 : Option Addr) (n11 c12
  : Nat), post7 A10 n11 c12 H8 → ∃ (inv14 : Nat → List Value → Int → Heap → Prop), ∃ (m15 : Nat → List Value → Int → Nat), inv14 0 [] (0 : Int) H8 ∧ ∀ (H16 : Heap), Heap.le H8 H16 → ∀ (n18 :
  Nat) (xs19 : List Value) (n20 : Int), inv14 n18 xs19 n20 H16 → (decide (n20 < (↑n4 : Int)) = true → ∃ (inv23 : Nat → List Value → Int → Heap → Prop), ∃ (m24 : Nat → List Value → Int → Nat),
  inv23 n18 xs19 (0 : Int) H16 ∧ ∀ (H25 : Heap), Heap.le H16 H25 → ∀ (n27 : Nat) (xs28 : List Value) (n29 : Int), inv23 n27 xs28 n29 H25 → (decide (n29 < (↑n11 : Int)) = true → someA A3 ∧ (0
  : Int) ≤ n20 ∧ n20 < (↑n4 : Int) ∧ ∃ (n32 : Int), ∃ (n33 : Int), Cells H25 A3 (Int.toNat n20 * 2) [.int .i64 n32, .int .i64 n33] ∧ someA A10 ∧ (0 : Int) ≤ n29 ∧ n29 < (↑n11 : Int) ∧ ∃ (n34
  : Int), ∃ (n35 : Int), Cells H25 A10 (Int.toNat n29 * 2) [.int .i64 n34, .int .i64 n35] ∧ (∃ (post36 : Int → Int → Bool → Heap → Prop), ConT P 34 [.agg ⟨[.int .i64 n32, .int .i64 n33]⟩,
  .agg ⟨[.int .i64 n34, .int .i64 n35]⟩] H25 ⟨true, [(true, [.int .i64, .int .i64]), (false, [.bool])]⟩ post36 ∧ ∀ (H37 : Heap), Heap.le H25 H37 → ∀ (n39 n40 : Int) (b41 : Bool), post36 n39
  n40 b41 H37 → (b41 = true → (n27 + 1) * 16 ≤ 140737488355328 ∧ rng .i64 (n29 + (1 : Int)) ∧ inv23 (n27 + 1) (xs28 ++ [.int .i64 n39, .int .i64 n40]) (n29 + (1 : Int)) H37 ∧ m24 (n27 + 1)
  (xs28 ++ [.int .i64 n39, .int .i64 n40]) (n29 + (1 : Int)) < m24 n27 xs28 n29) ∧ (b41 = false → rng .i64 (n29 + (1 : Int)) ∧ inv23 n27 xs28 (n29 + (1 : Int)) H37 ∧ m24 n27 xs28 (n29 + (1 :
  Int)) < m24 n27 xs28 n29)) ∧ ∃ (post45 : Int → Int → Bool → Heap → Prop), ConT P 34 [.agg ⟨[.int .i64 n32, .int .i64 n33]⟩, .agg ⟨[.int .i64 n34, .int .i64 n35]⟩] H25 ⟨true, [(true, [.int
  .i64, .int .i64]), (false, [.bool])]⟩ post45 ∧ ∀ (H46 : Heap), Heap.le H25 H46 → ∀ (n48 n49 : Int) (b50 : Bool), post45 n48 n49 b50 H46 → (b50 = true → (n27 + 1) * 16 ≤ 140737488355328 ∧
  rng .i64 (n29 + (1 : Int)) ∧ inv23 (n27 + 1) (xs28 ++ [.int .i64 n48, .int .i64 n49]) (n29 + (1 : Int)) H46 ∧ m24 (n27 + 1) (xs28 ++ [.int .i64 n48, .int .i64 n49]) (n29 + (1 : Int)) < m24
  n27 xs28 n29) ∧ (b50 = false → rng .i64 (n29 + (1 : Int)) ∧ inv23 n27 xs28 (n29 + (1 : Int)) H46 ∧ m24 n27 xs28 (n29 + (1 : Int)) < m24 n27 xs28 n29)) ∧ (decide (n29 < (↑n11 : Int)) = false
  → rng .i64 (n20 + (1 : Int)) ∧ inv14 n27 xs28 (n20 + (1 : Int)) H25 ∧ m15 n27 xs28 (n20 + (1 : Int)) < m15 n18 xs19 n20)) ∧ (decide (n20 < (↑n4 : Int)) = false → ∀ (A56 : Option Addr) (c57
  : Nat) (H58 : Heap), Heap.le H16 H58 → Cells H58 A56 0 xs19 → n18 ≤ c57 → post A56 n18 c57 H58)) := by kernel_rfl
set_option maxHeartbeats 1000000 in
theorem ref1_IntersectSet (hs : Sl H A n c l) (ht : Sl H B m d k) : ConT Try.prog 21 [.slice A n c, .slice B m d] H shS (fun A' n' c' H' => Sl H' A' n' c' (isect l k)) := by
  refine con_of_vc (an := an21) (fn := Try.f21) mix tabOK Try.func21 (by kernel_rfl) (extra := 2) ?_
  rw [vc21]
  refine ⟨_, ref1_Normalize hs, ?_⟩
  intro H1 l1 A1 n1 c1 h1
  refine ⟨_, ref1_Normalize (ht.mono l1), ?_⟩
  intro H2 l2 A2 n2 c2 h2
  have h1 := h1.mono l2
  have b1 := h1.bn; have b2 := h1.len; have b3 := h2.bn; have b4 := h2.len
  have hbd := nrm_bnd (isect_nrm l k)
  generalize hR : isect l k = R at hbd
  have hmx : maxT = 1099511627776 := rfl
  have hok1 := nrmGo_ok (norm_nrm l); have hok2 := nrmGo_ok (norm_nrm k)
  refine ⟨fun u xs i H' => 0 ≤ i ∧ i ≤ n1 ∧ ∃ out : List Per, Row H' xs out ∧ out.length = u ∧ R = out ++ isectGo ((norm l).drop i.toNat) (norm k), fun _ _ i => n1 - i.toNat, ⟨by omega, by omega, [], rfl, rfl, by rw [← hR]; rfl⟩, ?_⟩
  rintro H3 l3 u xs i ⟨i0, i1, out, hr, hu, he⟩
  refine ⟨fun hlt => ?_, fun hge => ?_⟩
  · have hlt := of_decide_eq_true hlt
    obtain ⟨hi, hA, _, hc, ⟨rfl, r1, r2⟩⟩ := h1.at l3 i0 hlt
    rw [drop_at i0 hi] at he
    refine ⟨fun u xs j H' => 0 ≤ j ∧ j ≤ n2 ∧ ∃ out : List Per, Row H' xs out ∧ out.length = u ∧ R = out ++ hits (norm l)[i.toNat] ((norm k).drop j.toNat) ++ isectGo ((norm l).drop (i + 1).toNat) (norm k), fun _ _ j => n2 - j.toNat,
      ⟨by omega, by omega, out, hr, hu, by rw [he, isectGo, List.flatMap_cons]; simp [isectGo]⟩, ?_⟩
    rintro H4 l4 u4 xs4 j ⟨j0, j1, out4, hr4, hu4, he4⟩
    refine ⟨fun jlt => ?_, fun jge => ?_⟩
    · have jlt := of_decide_eq_true jlt
      obtain ⟨hi, hA, _, hc, ⟨rfl, r1, r2⟩⟩ := h1.at (hle_trans l3 l4) i0 hlt
      obtain ⟨ji, jA, _, jc, ⟨rfl, q1, q2⟩⟩ := h2.at (hle_trans l3 l4) j0 jlt
      rw [drop_at j0 ji, hits_cons] at he4
      have o1 := hok1 _ (List.getElem_mem hi); have o2 := hok2 _ (List.getElem_mem ji)
      have step : ∀ {H5 : Heap}, Heap.le H4 H5 → ∀ (x y : Int) (b : Bool), (b = perHit ⟨(norm l)[i.toNat].lo, (norm l)[i.toNat].hi⟩ ⟨(norm k)[j.toNat].lo, (norm k)[j.toNat].hi⟩ ∧ (b = true → x = (perInt ⟨(norm l)[i.toNat].lo, (norm l)[i.toNat].hi⟩ ⟨(norm k)[j.toNat].lo, (norm k)[j.toNat].hi⟩).lo ∧ y = (perInt ⟨(norm l)[i.toNat].lo, (norm l)[i.toNat].hi⟩ ⟨(norm k)[j.toNat].lo, (norm k)[j.toNat].hi⟩).hi) ∧ (b = false → x = 0 ∧ y = 0)) →
          (b = true → (u4 + 1) * 16 ≤ 140737488355328 ∧ rng .i64 (j + 1) ∧ (0 ≤ j + 1 ∧ j + 1 ≤ n2 ∧ ∃ out : List Per, Row H5 (xs4 ++ [.int .i64 x, .int .i64 y]) out ∧ out.length = u4 + 1 ∧ R = out ++ hits (norm l)[i.toNat] ((norm k).drop (j + 1).toNat) ++ isectGo ((norm l).drop (i + 1).toNat) (norm k)) ∧ n2 - (j + 1).toNat < n2 - j.toNat) ∧
          (b = false → rng .i64 (j + 1) ∧ (0 ≤ j + 1 ∧ j + 1 ≤ n2 ∧ ∃ out : List Per, Row H5 xs4 out ∧ out.length = u4 ∧ R = out ++ hits (norm l)[i.toNat] ((norm k).drop (j + 1).toNat) ++ isectGo ((norm l).drop (i + 1).toNat) (norm k)) ∧ n2 - (j + 1).toNat < n2 - j.toNat) := by
        rintro H5 l5 x y b ⟨hb, ht, hf⟩
        refine ⟨fun h => ?_, fun h => ?_⟩
        · obtain ⟨rfl, rfl⟩ := ht h
          rw [h] at hb
          rw [if_pos hb.symm] at he4
          have hl := congrArg List.length he4
          simp only [List.length_append, List.length_cons] at hl
          refine ⟨by omega, by simp only [rng]; omega, ⟨by omega, by omega, out4 ++ [perInt (norm l)[i.toNat] (norm k)[j.toNat]], (hr4.mono l5).append (Row.one ⟨rfl, by simp only [rng, perInt]; omega, by simp only [rng, perInt]; omega⟩), by simp [hu4], ?_⟩, by omega⟩
          rw [he4]; simp
        · rw [h] at hb
          rw [if_neg (by rw [← hb]; simp)] at he4
          exact ⟨by simp only [rng]; omega, ⟨by omega, by omega, out4, hr4.mono l5, hu4, he4⟩, by omega⟩
      refine ⟨hA, i0, hlt, _, _, hc, jA, j0, jlt, _, _, jc, ⟨_, ref1_Intersect, ?_⟩, _, ref1_Intersect, ?_⟩
      · intro H5 l5 x y b h5
        exact step l5 x y b h5
      · intro H5 l5 x y b h5
        exact step l5 x y b h5
    · rw [drop_end (of_decide_eq_false jge) b4] at he4
      exact ⟨by simp only [rng]; omega, ⟨by omega, by omega, out4, hr4, hu4, by rw [he4]; simp [hits]⟩, by dsimp only; omega⟩
  · rw [drop_end (of_decide_eq_false hge) b2] at he
    intro A5 c5 H5 l5 hc5 hn5
    have : R = out := by rw [he]; simp [isectGo]
    rw [this] at hbd ⊢
    exact hr.sl l5 hc5 hu hn5 (by show u * 16 ≤ _; omega) (by omega)
theorem row1 {H : Heap} (p : Per) (h1 : rng .i64 p.lo) (h2 : rng .i64 p.hi) : Row H [.int .i64 p.lo, .int .i64 p.hi] [p] := Row.one ⟨rfl, h1, h2⟩
def an35 : Ann where
  res := fun _ => none
  lend := fun | 9 => true | _ => false
  sch := fun _ => .done
  lt := fun _ => []
  tup := tups

theorem vc35 (P : Program) (H : Heap) (aFrom : Int) (aTo : Int) (bFrom : Int) (bTo : Int) (post : Option Addr → Nat → Nat → Heap → Prop) :
  vcFn P tab an35 Try.f35 [.agg #[.int .i64 aFrom, .int .i64 aTo], .agg #[.int .i64 bFrom, .int .i64 bTo]] 0 H ⟨false, [(false, [.sl])]⟩ post =
  (  ∃ (post0 : Bool → Heap → Prop), ConT P 27 [.agg ⟨[.int .i64 aFrom, .int .i64 aTo]⟩] H ⟨false, [(false, [.bool])]⟩ post0 ∧ ∀ (H1 : Heap), Heap.le H H1 → ∀ (b3 : Bool), post0 b3 H1 → ((!b3) =
  true → post none 0 0 H1) ∧ ((!b3) = false → ∃ (post7 : Int → Int → Bool → Heap → Prop), ConT P 34 [.agg ⟨[.int .i64 aFrom, .int .i64 aTo]⟩, .agg ⟨[.int .i64 bFrom, .int .i64 bTo]⟩] H1
  ⟨true, [(true, [.int .i64, .int .i64]), (false, [.bool])]⟩ post7 ∧ ∀ (H8 : Heap), Heap.le H1 H8 → ∀ (n10 n11 : Int) (b12 : Bool), post7 n10 n11 b12 H8 → ((!b12) = true → ∀ (A15 : Option
  Addr) (c16 : Nat) (H17 : Heap), Heap.le H8 H17 → Cells H17 A15 0 [.int .i64 aFrom, .int .i64 aTo] → 1 ≤ c16 → post A15 1 c16 H17) ∧ ((!b12) = false → (decide (aFrom < n10) = true → 1 * 16 ≤
  140737488355328 ∧ (decide (n11 < aTo) = true → (1 + 1) * 16 ≤ 140737488355328 ∧ ∀ (A24 : Option Addr) (c25 : Nat) (H26 : Heap), Heap.le H8 H26 → Cells H26 A24 0 ([.int .i64 aFrom, .int .i64
  n10] ++ [.int .i64 n11, .int .i64 aTo]) → 1 + 1 ≤ c25 → post A24 (1 + 1) c25 H26) ∧ (decide (n11 < aTo) = false → ∀ (A31 : Option Addr) (c32 : Nat) (H33 : Heap), Heap.le H8 H33 → Cells H33
  A31 0 [.int .i64 aFrom, .int .i64 n10] → 1 ≤ c32 → post A31 1 c32 H33)) ∧ (decide (aFrom < n10) = false → (decide (n11 < aTo) = true → 1 * 16 ≤ 140737488355328 ∧ ∀ (A39 : Option Addr) (c40
  : Nat) (H41 : Heap), Heap.le H8 H41 → Cells H41 A39 0 [.int .i64 n11, .int .i64 aTo] → 1 ≤ c40 → post A39 1 c40 H41) ∧ (decide (n11 < aTo) = false → post none 0 0 H8))))) := by kernel_rfl
theorem ref1_Subtract {p q : Per} (hp : rng .i64 p.lo ∧ rng .i64 p.hi) (hq : rng .i64 q.lo ∧ rng .i64 q.hi) : ConT Try.prog 35 [.agg ⟨[.int .i64 p.lo, .int .i64 p.hi]⟩, .agg ⟨[.int .i64 q.lo, .int .i64 q.hi]⟩] H shS (fun A' n' c' H' => Sl H' A' n' c' (perSub p q)) := by
  refine con_of_vc (an := an35) (fn := Try.f35) mix tabOK Try.func35 (by kernel_rfl) (extra := 0) ?_
  rw [vc35]
  refine ⟨_, ref1_Valid, ?_⟩
  rintro H1 l1 _ rfl
  have hmx : maxT = 1099511627776 := rfl
  refine ⟨fun h => ?_, fun h => ⟨_, ref1_Intersect, ?_⟩⟩
  · simp only [Bool.not_eq_true'] at h
    rw [perSub, if_neg (by rw [h]; simp)]; exact Sl.nil
  simp only [Bool.not_eq_false'] at h
  rintro H2 l2 x y b ⟨hb, ht, hf⟩
  have e0 : perSub p q = if perHit p q then (if p.lo < (perInt p q).lo then [⟨p.lo, (perInt p q).lo⟩] else []) ++ (if (perInt p q).hi < p.hi then [⟨(perInt p q).hi, p.hi⟩] else []) else [p] := by rw [perSub, if_pos h]
  rw [e0]
  refine ⟨fun h2 => ?_, fun h2 => ?_⟩
  · simp only [Bool.not_eq_true'] at h2
    rw [h2] at hb
    rw [if_neg (by rw [← hb]; simp)]
    intro A3 c3 H3 l3 hc hn
    exact (row1 p hp.1 hp.2).sl l3 hc rfl hn (by decide) (by decide)
  · simp only [Bool.not_eq_false'] at h2
    rw [h2] at hb
    rw [if_pos hb.symm]
    obtain ⟨rfl, rfl⟩ := ht h2
    have r1 : rng .i64 (perInt p q).lo := by simp only [rng, perInt] at *; omega
    have r2 : rng .i64 (perInt p q).hi := by simp only [rng, perInt] at *; omega
    refine ⟨fun a => ⟨by decide, fun b => ⟨by decide, ?_⟩, fun b => ?_⟩, fun a => ⟨fun b => ⟨by decide, ?_⟩, fun b => ?_⟩⟩
    · intro A3 c3 H3 l3 hc hn
      rw [if_pos (of_decide_eq_true a), if_pos (of_decide_eq_true b)]
      exact ((row1 ⟨p.lo, (perInt p q).lo⟩ hp.1 r1).append (row1 ⟨(perInt p q).hi, p.hi⟩ r2 hp.2)).sl l3 hc rfl hn (by decide) (by decide)
    · intro A3 c3 H3 l3 hc hn
      rw [if_pos (of_decide_eq_true a), if_neg (of_decide_eq_false b)]
      exact (row1 ⟨p.lo, (perInt p q).lo⟩ hp.1 r1).sl l3 hc rfl hn (by decide) (by decide)
    · intro A3 c3 H3 l3 hc hn
      rw [if_neg (of_decide_eq_false a), if_pos (of_decide_eq_true b)]
      exact (row1 ⟨(perInt p q).hi, p.hi⟩ r2 hp.2).sl l3 hc rfl hn (by decide) (by decide)
    · rw [if_neg (of_decide_eq_false a), if_neg (of_decide_eq_false b)]
      exact Sl.nil
def an23 : Ann where
  res := fun _ => none
  lend := fun _ => false
  sch := fun | 9 => (tk [0, 1, 2, 5, 6, 7, 8] (.alt 3 (.alt 4 (.alt 9 (.alt 10 (tk [11] .done) .fin) .fin) .fin) .fin)) | _ => .done
  lt := fun | 3 => [.slot 5 false [.sl], .slot 6 false [.int .i64]] | 7 => [.slot 7 false [.row 36 30], .slot 8 false [.int .i64]] | _ => []
  tup := tups

theorem vc23 (P : Program) (H : Heap) (aA : Option Addr) (aN aC : Nat) (bA : Option Addr) (bN bC : Nat) (post : Option Addr → Nat → Nat → Heap → Prop) :
  vcFn P tab an23 Try.f23 [.slice aA aN aC, .slice bA bN bC] 1 H ⟨false, [(false, [.sl])]⟩ post =
  (  ∃ (post0 : Option Addr → Nat → Nat → Heap → Prop), ConT P 15 [.slice aA aN aC] H ⟨false, [(false, [.sl])]⟩ post0 ∧ ∀ (H1 : Heap), Heap.le H H1 → ∀ (A3 : Option Addr) (n4 c5 : Nat), post0 A3
  n4 c5 H1 → ∃ (inv7 : Option Addr → Nat → Nat → Int → Heap → Prop), ∃ (m8 : Option Addr → Nat → Nat → Int → Nat), inv7 A3 n4 c5 (0 : Int) H1 ∧ ∀ (H9 : Heap), Heap.le H1 H9 → ∀ (A11 : Option
  Addr) (n12 c13 : Nat) (n14 : Int), inv7 A11 n12 c13 n14 H9 → (decide (n14 < (↑bN : Int)) = true → ∃ (inv17 : Nat → List Value → Int → Heap → Prop), ∃ (m18 : Nat → List Value → Int → Nat),
  inv17 0 [] (0 : Int) H9 ∧ ∀ (H19 : Heap), Heap.le H9 H19 → ∀ (n21 : Nat) (xs22 : List Value) (n23 : Int), inv17 n21 xs22 n23 H19 → (decide (n23 < (↑n12 : Int)) = true → someA bA ∧ (0 : Int)
  ≤ n14 ∧ n14 < (↑bN : Int) ∧ ∃ (n26 : Int), ∃ (n27 : Int), Cells H19 bA (Int.toNat n14 * 2) [.int .i64 n26, .int .i64 n27] ∧ someA A11 ∧ (0 : Int) ≤ n23 ∧ n23 < (↑n12 : Int) ∧ ∃ (n28 : Int),
  ∃ (n29 : Int), Cells H19 A11 (Int.toNat n23 * 2) [.int .i64 n28, .int .i64 n29] ∧ ∃ (post30 : Option Addr → Nat → Nat → Heap → Prop), ConT P 35 [.agg ⟨[.int .i64 n28, .int .i64 n29]⟩, .agg
  ⟨[.int .i64 n26, .int .i64 n27]⟩] H19 ⟨false, [(false, [.sl])]⟩ post30 ∧ ∀ (H31 : Heap), Heap.le H19 H31 → ∀ (A33 : Option Addr) (n34 c35 : Nat), post30 A33 n34 c35 H31 → ∃ (ys37 : List
  Value), Cells H31 A33 0 ys37 ∧ List.length ys37 = n34 * 2 ∧ (n21 + n34) * 16 ≤ 140737488355328 ∧ rng .i64 (n23 + (1 : Int)) ∧ inv17 (n21 + n34) (xs22 ++ ys37) (n23 + (1 : Int)) H31 ∧ m18
  (n21 + n34) (xs22 ++ ys37) (n23 + (1 : Int)) < m18 n21 xs22 n23) ∧ (decide (n23 < (↑n12 : Int)) = false → rng .i64 (n14 + (1 : Int)) ∧ ∀ (A39 : Option Addr) (c40 : Nat) (H41 : Heap),
  Heap.le H19 H41 → Cells H41 A39 0 xs22 → n21 ≤ c40 → inv7 A39 n21 c40 (n14 + (1 : Int)) H41 ∧ m8 A39 n21 c40 (n14 + (1 : Int)) < m8 A11 n12 c13 n14)) ∧ (decide (n14 < (↑bN : Int)) = false →
  post A11 n12 c13 H9)) := by kernel_rfl
set_option maxHeartbeats 1000000 in
theorem ref1_SubtractSet (hs : Sl H A n c l) (ht : Sl H B m d k) : ConT Try.prog 23 [.slice A n c, .slice B m d] H shS (fun A' n' c' H' => Sl H' A' n' c' (diff l k)) := by
  refine con_of_vc (an := an23) (fn := Try.f23) mix tabOK Try.func23 (by kernel_rfl) (extra := 1) ?_
  rw [vc23]
  refine ⟨_, ref1_Normalize hs, ?_⟩
  intro H1 l1 A1 n1 c1 h1
  have ht := ht.mono l1
  have b3 := ht.bn; have b4 := ht.len
  refine ⟨fun A' n' c' i H' => 0 ≤ i ∧ i ≤ m ∧ ∃ o : List Per, Sl H' A' n' c' o ∧ nrm o = true ∧ diff l k = subFrom o (k.drop i.toNat), fun _ _ _ i => m - i.toNat, ⟨by omega, by omega, norm l, h1, norm_nrm l, (subFrom_diff l k).symm⟩, ?_⟩
  rintro H2 l2 A2 n2 c2 i ⟨i0, i1, o, ho, hn, he⟩
  have o1 := ho.bn; have o2 := ho.len
  refine ⟨fun hlt => ?_, fun hge => ?_⟩
  · have hlt := of_decide_eq_true hlt
    have ki : i.toNat < k.length := by omega
    rw [drop_at i0 ki, subFrom] at he
    obtain ⟨kn, -⟩ := subOne_law (b := k[i.toNat]) hn
    have kb := nrm_bnd kn
    generalize hR : (o.flatMap fun p => perSub p k[i.toNat]) = R at kb kn he
    refine ⟨fun u xs j H' => 0 ≤ j ∧ j ≤ n2 ∧ ∃ out : List Per, Row H' xs out ∧ out.length = u ∧ R = out ++ (o.drop j.toNat).flatMap fun p => perSub p k[i.toNat], fun _ _ j => n2 - j.toNat, ⟨by omega, by omega, [], rfl, rfl, by rw [← hR]; rfl⟩, ?_⟩
    rintro H3 l3 u xs j ⟨j0, j1, out, hr, hu, hj⟩
    refine ⟨fun jlt => ?_, fun jge => ?_⟩
    · have jlt := of_decide_eq_true jlt
      obtain ⟨hi, hA, _, hc, ⟨rfl, r1, r2⟩⟩ := ho.at l3 j0 jlt
      obtain ⟨ji, jA, _, jc, ⟨rfl, q1, q2⟩⟩ := ht.at (hle_trans l2 l3) i0 hlt
      rw [drop_at j0 hi, List.flatMap_cons] at hj
      refine ⟨jA, i0, hlt, _, _, jc, hA, j0, jlt, _, _, hc, _, ref1_Subtract ⟨r1, r2⟩ ⟨q1, q2⟩, ?_⟩
      intro H4 l4 A4 n4 c4 h4
      obtain ⟨ys, y1, y2⟩ := h4.row
      have y3 := h4.len
      have hl := congrArg List.length hj
      simp only [List.length_append] at hl
      refine ⟨ys, y1, by rw [y2.length, y3]; rfl, by omega, by simp only [rng]; omega, ⟨by omega, by omega, _, (hr.mono l4).append y2, by rw [List.length_append]; omega, ?_⟩, by dsimp only; omega⟩
      rw [hj, List.append_assoc]
    · rw [drop_end (of_decide_eq_false jge) o2] at hj
      have hj : R = out := by rw [hj]; simp
      refine ⟨by simp only [rng]; omega, ?_⟩
      intro A5 c5 H5 l5 hc5 hn5
      rw [hj] at kb kn he
      exact ⟨⟨by omega, by omega, out, hr.sl l5 hc5 hu hn5 (by show u * 16 ≤ _; omega) (by omega), kn, he⟩, by dsimp only; omega⟩
  · rw [drop_end (of_decide_eq_false hge) b4, subFrom] at he
    rw [he]; exact ho
def an22 : Ann where
  res := fun _ => none
  lend := fun _ => false
  sch := fun _ => .done
  lt := fun | 4 => [.slot 5 false [.row 66 30], .slot 16 false [.int .i64]] | 8 => [.slot 5 false [.row 67 30], .slot 8 false [.int .i64], .slot 24 false [.int .i64]] | _ => []
  tup := tups

theorem vc22 (P : Program) (H : Heap) (aA : Option Addr) (aN aC : Nat) (p1A : Option Addr) (p1N p1C : Nat) (post : Option Addr → Nat → Nat → Heap → Prop) :
  vcFn P tab an22 Try.f22 [.slice aA aN aC, .slice p1A p1N p1C] 2 H ⟨false, [(false, [.sl])]⟩ post =
  (  ∃ (post0 : Option Addr → Nat → Nat → Heap → Prop), ConT P 14 [.slice p1A p1N p1C] H ⟨false, [(false, [.sl])]⟩ post0 ∧ ∀ (H1 : Heap), Heap.le H H1 → ∀ (A3 : Option Addr) (n4 c5 : Nat), post0
  A3 n4 c5 H1 → ∃ (post7 : Option Addr → Nat → Nat → Heap → Prop), ConT P 14 [.slice aA aN aC] H1 ⟨false, [(false, [.sl])]⟩ post7 ∧ ∀ (H8 : Heap), Heap.le H1 H8 → ∀ (A10 : Option Addr) (n11
  c12 : Nat), post7 A10 n11 c12 H8 → ∃ (inv14 : Nat → List Value → Int → Heap → Prop), ∃ (m15 : Nat → List Value → Int → Nat), inv14 0 [] (0 : Int) H8 ∧ ∀ (H16 : Heap), Heap.le H8 H16 → ∀
  (n18 : Nat) (xs19 : List Value) (n20 : Int), inv14 n18 xs19 n20 H16 → (decide (n20 < (↑n11 : Int)) = true → someA A10 ∧ (0 : Int) ≤ n20 ∧ n20 < (↑n11 : Int) ∧ ∃ (n23 : Int), ∃ (n24 : Int),
  Cells H16 A10 (Int.toNat n20 * 2) [.int .i64 n23, .int .i64 n24] ∧ ∃ (inv25 : Nat → List Value → Int → Int → Heap → Prop), ∃ (m26 : Nat → List Value → Int → Int → Nat), inv25 n18 xs19 n23
  (0 : Int) H16 ∧ ∀ (H27 : Heap), Heap.le H16 H27 → ∀ (n29 : Nat) (xs30 : List Value) (n31 n32 : Int), inv25 n29 xs30 n31 n32 H27 → (decide (n32 < (↑n4 : Int)) = true → someA A3 ∧ (0 : Int) ≤
  n32 ∧ n32 < (↑n4 : Int) ∧ ∃ (n35 : Int), ∃ (n36 : Int), Cells H27 A3 (Int.toNat n32 * 2) [.int .i64 n35, .int .i64 n36] ∧ (decide (n36 ≤ n31) = true → rng .i64 (n32 + (1 : Int)) ∧ inv25 n29
  xs30 n31 (n32 + (1 : Int)) H27 ∧ m26 n29 xs30 n31 (n32 + (1 : Int)) < m26 n29 xs30 n31 n32) ∧ (decide (n36 ≤ n31) = false → (decide (n24 ≤ n35) = true → rng .i64 (n32 + (1 : Int)) ∧ inv25
  n29 xs30 n31 (n32 + (1 : Int)) H27 ∧ m26 n29 xs30 n31 (n32 + (1 : Int)) < m26 n29 xs30 n31 n32) ∧ (decide (n24 ≤ n35) = false → (decide (n31 < n35) = true → (n29 + 1) * 16 ≤ 140737488355328
  ∧ rng .i64 (n32 + (1 : Int)) ∧ inv25 (n29 + 1) (xs30 ++ [.int .i64 n31, .int .i64 n35]) n36 (n32 + (1 : Int)) H27 ∧ m26 (n29 + 1) (xs30 ++ [.int .i64 n31, .int .i64 n35]) n36 (n32 + (1 :
  Int)) < m26 n29 xs30 n31 n32) ∧ (decide (n31 < n35) = false → rng .i64 (n32 + (1 : Int)) ∧ inv25 n29 xs30 n36 (n32 + (1 : Int)) H27 ∧ m26 n29 xs30 n36 (n32 + (1 : Int)) < m26 n29 xs30 n31
  n32)))) ∧ (decide (n32 < (↑n4 : Int)) = false → (decide (n31 < n24) = true → (n29 + 1) * 16 ≤ 140737488355328 ∧ rng .i64 (n20 + (1 : Int)) ∧ inv14 (n29 + 1) (xs30 ++ [.int .i64 n31, .int
  .i64 n24]) (n20 + (1 : Int)) H27 ∧ m15 (n29 + 1) (xs30 ++ [.int .i64 n31, .int .i64 n24]) (n20 + (1 : Int)) < m15 n18 xs19 n20) ∧ (decide (n31 < n24) = false → rng .i64 (n20 + (1 : Int)) ∧
  inv14 n29 xs30 (n20 + (1 : Int)) H27 ∧ m15 n29 xs30 (n20 + (1 : Int)) < m15 n18 xs19 n20))) ∧ (decide (n20 < (↑n11 : Int)) = false → ∀ (A47 : Option Addr) (c48 : Nat) (H49 : Heap), Heap.le
  H16 H49 → Cells H49 A47 0 xs19 → n18 ≤ c48 → post A47 n18 c48 H49)) := by kernel_rfl
set_option maxHeartbeats 1000000 in
theorem periodset_Subtract (hs : Sl H A n c l) (ht : Sl H B m d k) : ConT Try.prog 22 [.slice A n c, .slice B m d] H shS (fun A' n' c' H' => Sl H' A' n' c' (diff l k)) := by
  refine con_of_vc (an := an22) (fn := Try.f22) mix tabOK Try.func22 (by kernel_rfl) (extra := 2) ?_
  rw [vc22]
  refine ⟨_, periodset_Normalize ht, ?_⟩
  intro H1 l1 A1 n1 c1 h1
  refine ⟨_, periodset_Normalize (hs.mono l1), ?_⟩
  intro H2 l2 A2 n2 c2 h2
  have h1 := h1.mono l2
  have b1 := h1.bn; have b2 := h1.len; have b3 := h2.bn; have b4 := h2.len
  have hbd := nrm_bnd (diff_nrm l k)
  have hok1 := nrmGo_ok (norm_nrm l); have hok2 := nrmGo_ok (norm_nrm k)
  have hmx : maxT = 1099511627776 := rfl
  generalize hR : diff l k = R at hbd
  refine ⟨fun u xs i H' => 0 ≤ i ∧ i ≤ n2 ∧ ∃ out : List Per, Row H' xs out ∧ out.length = u ∧ R = out ++ cutAll ((norm l).drop i.toNat) (norm k), fun _ _ i => n2 - i.toNat, ⟨by omega, by omega, [], rfl, rfl, by rw [← hR]; rfl⟩, ?_⟩
  rintro H3 l3 u xs i ⟨i0, i1, out, hr, hu, he⟩
  refine ⟨fun hlt => ?_, fun hge => ?_⟩
  · have hlt := of_decide_eq_true hlt
    obtain ⟨hi, hA, _, hc, ⟨rfl, r1, r2⟩⟩ := h2.at l3 i0 hlt
    have o1 := hok1 _ (List.getElem_mem hi)
    rw [drop_at i0 hi] at he
    generalize (norm l)[i.toNat] = p at hc r1 r2 o1 he
    refine ⟨hA, i0, hlt, _, _, hc, fun u xs t j H' => 0 ≤ j ∧ j ≤ n1 ∧ 0 ≤ t ∧ t ≤ maxT ∧ ∃ out : List Per, Row H' xs out ∧ out.length = u ∧ R = out ++ cut t p.hi ((norm k).drop j.toNat) ++ cutAll ((norm l).drop (i + 1).toNat) (norm k), fun _ _ _ j => n1 - j.toNat,
      ⟨by omega, by omega, by omega, by omega, out, hr, hu, by rw [he, cutAll, List.flatMap_cons]; simp [cutAll]⟩, ?_⟩
    rintro H4 l4 u4 xs4 t j ⟨j0, j1, t0, t1, out4, hr4, hu4, he4⟩
    refine ⟨fun jlt => ?_, fun jge => ?_⟩
    · have jlt := of_decide_eq_true jlt
      obtain ⟨ji, jA, _, jc, ⟨rfl, q1, q2⟩⟩ := h1.at (hle_trans l3 l4) j0 jlt
      have o2 := hok2 _ (List.getElem_mem ji)
      rw [drop_at j0 ji, cut] at he4
      generalize (norm k)[j.toNat] = q at jc q1 q2 o2 he4
      have skip : (q.hi ≤ t ∨ p.hi ≤ q.lo) → rng .i64 (j + 1) ∧ (0 ≤ j + 1 ∧ j + 1 ≤ n1 ∧ 0 ≤ t ∧ t ≤ maxT ∧ ∃ out : List Per, Row H4 xs4 out ∧ out.length = u4 ∧ R = out ++ cut t p.hi ((norm k).drop (j + 1).toNat) ++ cutAll ((norm l).drop (i + 1).toNat) (norm k)) ∧ n1 - (j + 1).toNat < n1 - j.toNat := by
        intro h
        rw [if_pos h] at he4
        exact ⟨by simp only [rng]; omega, ⟨by omega, by omega, t0, t1, out4, hr4, hu4, he4⟩, by omega⟩
      refine ⟨jA, j0, jlt, _, _, jc, fun a => skip (.inl (of_decide_eq_true a)), fun a => ⟨fun b => skip (.inr (of_decide_eq_true b)), fun b => ?_⟩⟩
      have a := of_decide_eq_false a; have b := of_decide_eq_false b
      rw [if_neg (by omega)] at he4
      refine ⟨fun e => ?_, fun e => ?_⟩
      · have e := of_decide_eq_true e
        rw [if_pos e] at he4
        have hl := congrArg List.length he4
        simp only [List.length_append, List.length_cons] at hl
        refine ⟨by omega, by simp only [rng]; omega, ⟨by omega, by omega, by omega, by omega, out4 ++ [⟨t, q.lo⟩], hr4.append (Row.one (T := Per) (t := (⟨t, q.lo⟩ : Per)) ⟨rfl, by simp only [rng]; omega, q1⟩), by simp [hu4], ?_⟩, by dsimp only; omega⟩
        rw [he4]; simp
      · have e := of_decide_eq_false e
        rw [if_neg e, List.nil_append] at he4
        exact ⟨by simp only [rng]; omega, ⟨by omega, by omega, by omega, by omega, out4, hr4, hu4, he4⟩, by dsimp only; omega⟩
    · rw [drop_end (of_decide_eq_false jge) b2, cut] at he4
      refine ⟨fun e => ?_, fun e => ?_⟩
      · have e := of_decide_eq_true e
        rw [if_pos e] at he4
        have hl := congrArg List.length he4
        simp only [List.length_append, List.length_cons] at hl
        refine ⟨by omega, by simp only [rng]; omega, ⟨by omega, by omega, out4 ++ [⟨t, p.hi⟩], hr4.append (Row.one (T := Per) (t := (⟨t, p.hi⟩ : Per)) ⟨rfl, by simp only [rng]; omega, r2⟩), by simp [hu4], he4⟩, by dsimp only; omega⟩
      · have e := of_decide_eq_false e
        rw [if_neg e, List.append_nil] at he4
        exact ⟨by simp only [rng]; omega, ⟨by omega, by omega, out4, hr4, hu4, he4⟩, by dsimp only; omega⟩
  · rw [drop_end (of_decide_eq_false hge) b4] at he
    intro A5 c5 H5 l5 hc5 hn5
    have : R = out := by rw [he]; simp [cutAll]
    rw [this] at hbd ⊢
    exact hr.sl l5 hc5 hu hn5 (by show u * 16 ≤ _; omega) (by omega)
end
end Go.Vc
