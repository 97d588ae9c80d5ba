/- The laws' drawn tuples, all of them. -/
import Derived.Test.YtkfbbnagniolcaaB10
set_option linter.unusedSectionVars false
set_option linter.unusedSimpArgs false
set_option linter.unusedVariables false
namespace Go.Vc
open Go Go.Proofs Go.Shelf
abbrev shT : RSh := ⟨false, [(true, [.sl, .int .i64, .int .i64, .sl])]⟩
def an34 : Ann where
  res := fun _ => none
  lend := fun _ => false
  sch := fun | 1 => (tk [0, 1, 2, 3, 5, 6, 7, 8, 10, 11, 12, 13, 14] (.alt 4 (.alt 9 (.alt 15 (tk [16] (.alt 17 .done .fin)) .fin) (.alt 15 (.alt 9 (tk [16] (.alt 17 .done .fin)) .fin) .fin)) (.alt 15 (.alt 4 (.alt 9 (tk [16] (.alt 17 .done .fin)) .fin) .fin) .fin))) | _ => .done
  lt := fun _ => []
  tup := tups

theorem vc34 (P : Program) (H : Heap) (x0 : Int) (x1 : Int) (x2 : Int) (x3 : Int) (x4 : Int) (post : Option Addr → Nat → Nat → Int → Int → Option Addr → Nat → Nat → Heap → Prop) :
  vcFn P tab an34 Try.f34 [.agg #[.int .u16 x0, .int .u16 x1, .int .u16 x2, .int .u16 x3, .int .u16 x4]] 0 H ⟨false, [(true, [.sl, .int .i64, .int .i64, .sl])]⟩ post =
  (  (0 : Int) ≤ (2 : Int) ∧ (2 : Int) < (↑5 : Int) ∧ ∃ (n0 : Int), win [.int .u16 x0, .int .u16 x1, .int .u16 x2, .int .u16 x3, .int .u16 x4] (Int.toNat (2 : Int) * 1) 1 = [.int .u16 n0] ∧ (0 :
  Int) ≤ (3 : Int) ∧ (3 : Int) < (↑5 : Int) ∧ ∃ (n1 : Int), win [.int .u16 x0, .int .u16 x1, .int .u16 x2, .int .u16 x3, .int .u16 x4] (Int.toNat (3 : Int) * 1) 1 = [.int .u16 n1] ∧ (0 : Int)
  ≤ (0 : Int) ∧ (0 : Int) < (↑5 : Int) ∧ ∃ (n2 : Int), win [.int .u16 x0, .int .u16 x1, .int .u16 x2, .int .u16 x3, .int .u16 x4] (Int.toNat (0 : Int) * 1) 1 = [.int .u16 n2] ∧ (0 : Int) ≤ (1
  : Int) ∧ (1 : Int) < (↑5 : Int) ∧ ∃ (n3 : Int), win [.int .u16 x0, .int .u16 x1, .int .u16 x2, .int .u16 x3, .int .u16 x4] (Int.toNat (1 : Int) * 1) 1 = [.int .u16 n3] ∧ (0 : Int) ≤ (4 :
  Int) ∧ (4 : Int) < (↑5 : Int) ∧ ∃ (n4 : Int), win [.int .u16 x0, .int .u16 x1, .int .u16 x2, .int .u16 x3, .int .u16 x4] (Int.toNat (4 : Int) * 1) 1 = [.int .u16 n4] ∧ (5 : Int) ≠ (0 : Int)
  ∧ ∃ (e5 : Int), IntKind.wrap IntKind.i64 (Int.tmod n4 (5 : Int)) = e5 ∧ rng .i64 ((1 : Int) + e5) ∧ (∃ (post6 : Option Addr → Nat → Nat → Heap → Prop), ConT P 23 [.int .u16 n0, .int .u16
  n1] H ⟨false, [(false, [.sl])]⟩ post6 ∧ ∀ (H7 : Heap), Heap.le H H7 → ∀ (A9 : Option Addr) (n10 c11 : Nat), post6 A9 n10 c11 H7 → (∃ (post13 : Int → Int → Heap → Prop), ConT P 59 [.int .u16
  n2, .int .u16 n3] H7 ⟨false, [(true, [.int .i64, .int .i64])]⟩ post13 ∧ ∀ (H14 : Heap), Heap.le H7 H14 → ∀ (n16 n17 : Int), post13 n16 n17 H14 → ∀ (A19 : Option Addr) (c20 : Nat) (H21 :
  Heap), Heap.le H14 H21 → Cells H21 A19 0 [.int .i64 ((1 : Int) + e5)] → 1 ≤ c20 → post A9 n10 c11 n16 n17 A19 1 c20 H21) ∧ ∃ (post25 : Int → Int → Heap → Prop), ConT P 59 [.int .u16 n2,
  .int .u16 n3] H7 ⟨false, [(true, [.int .i64, .int .i64])]⟩ post25 ∧ ∀ (H26 : Heap), Heap.le H7 H26 → ∀ (n28 n29 : Int), post25 n28 n29 H26 → ∀ (A31 : Option Addr) (c32 : Nat) (H33 : Heap),
  Heap.le H26 H33 → Cells H33 A31 0 [.int .i64 ((1 : Int) + e5)] → 1 ≤ c32 → post A9 n10 c11 n28 n29 A31 1 c32 H33) ∧ ∃ (post37 : Option Addr → Nat → Nat → Heap → Prop), ConT P 23 [.int .u16
  n0, .int .u16 n1] H ⟨false, [(false, [.sl])]⟩ post37 ∧ ∀ (H38 : Heap), Heap.le H H38 → ∀ (A40 : Option Addr) (n41 c42 : Nat), post37 A40 n41 c42 H38 → ∃ (post44 : Int → Int → Heap → Prop),
  ConT P 59 [.int .u16 n2, .int .u16 n3] H38 ⟨false, [(true, [.int .i64, .int .i64])]⟩ post44 ∧ ∀ (H45 : Heap), Heap.le H38 H45 → ∀ (n47 n48 : Int), post44 n47 n48 H45 → ∀ (A50 : Option Addr)
  (c51 : Nat) (H52 : Heap), Heap.le H45 H52 → Cells H52 A50 0 [.int .i64 ((1 : Int) + e5)] → 1 ≤ c51 → post A40 n41 c42 n47 n48 A50 1 c51 H52) := by kernel_rfl
theorem law0_Tuple {x : U5} {H : Heap} (ha : 0 ≤ x.a) (hb : 0 ≤ x.b) (hc : 0 ≤ x.c) (hd : 0 ≤ x.d) (he : 0 ≤ x.e) :
    ConT Try.prog 34 [.agg ⟨[.int .u16 x.a, .int .u16 x.b, .int .u16 x.c, .int .u16 x.d, .int .u16 x.e]⟩] H shT (fun A n c lo hi B m d H' => Rep.rel H' [.slice A n c, .int .i64 lo, .int .i64 hi, .slice B m d] (lTup x)) := by
  refine con_of_vc (an := an34) (fn := Try.f34) mix tabOK Try.func34 (by kernel_rfl) (extra := 0) ?_
  rw [vc34]
  have h5 := tmod_bd he (m := 5) (by decide)
  have hp := lPer_ok ha hb
  refine ⟨by decide, by decide, x.c, rfl, by decide, by decide, x.d, rfl, by decide, by decide, x.a, rfl, by decide, by decide, x.b, rfl, by decide, by decide, x.e, rfl, by decide, _, wrap_i64 h5.1 (by omega), by simp only [rng]; omega, ?_⟩
  have fin : ∀ {H1 H2 H3 : Heap} {A B : Option Addr} {n c d : Nat} {lo hi : Int}, Sl H1 A n c [lv0 x.c, lv1 x.d] → Heap.le H1 H2 → (⟨lo, hi⟩ : Per) = lPer x.a x.b → Heap.le H2 H3 → Cells H3 B 0 [.int .i64 (1 + x.e.tmod 5)] → 1 ≤ d →
      Rep.rel H3 [Value.slice A n c, .int .i64 lo, .int .i64 hi, .slice B 1 d] (lTup x) := by
    intro H1 H2 H3 A B n c d lo hi h1 l2 hq l3 hcc hn
    have e1 : lo = (lPer x.a x.b).lo := congrArg Per.lo hq
    have e2 : hi = (lPer x.a x.b).hi := congrArg Per.hi hq
    subst e1 e2
    refine ⟨_, _, _, _, _, _, rfl, h1.mono (hle_trans l2 l3), by simp only [rng, lTup]; omega, by simp only [rng, lTup]; omega, ?_⟩
    exact Row.sl (H := H3) (T := Int) (l := [1 + x.e.tmod 5]) ⟨[_], [], rfl, ⟨rfl, by simp only [rng]; omega⟩, rfl⟩ (hle_refl _) hcc rfl hn (by decide) (by decide)
  have per : ∀ {H1 : Heap} {A : Option Addr} {n c : Nat}, Sl H1 A n c [lv0 x.c, lv1 x.d] → ∃ (post13 : Int → Int → Heap → Prop), ConT Try.prog 59 [.int .u16 x.a, .int .u16 x.b] H1 ⟨false, [(true, [.int .i64, .int .i64])]⟩ post13 ∧ ∀ (H14 : Heap), Heap.le H1 H14 → ∀ (n16 n17 : Int), post13 n16 n17 H14 → ∀ (A19 : Option Addr) (c20 : Nat) (H21 : Heap), Heap.le H14 H21 → Cells H21 A19 0 [.int .i64 (1 + x.e.tmod 5)] → 1 ≤ c20 →
      Rep.rel H21 [Value.slice A n c, .int .i64 n16, .int .i64 n17, .slice A19 1 c20] (lTup x) := by
    intro H1 A n c h1
    exact ⟨_, law0_Period ha hb, fun H14 l14 n16 n17 hq A19 c20 H21 l21 hcc hn => fin h1 l14 hq l21 hcc hn⟩
  exact ⟨⟨_, law0_Vals hc hd, fun H7 l7 A9 n10 c11 h9 => ⟨per h9, per h9⟩⟩, _, law0_Vals hc hd, fun H7 l7 A9 n10 c11 h9 => per h9⟩
def lTups (l : List U5) (most : Nat) : List Tup := (l.take most).map lTup
def an18_row : Ann where
  res := fun _ => none
  lend := fun _ => false
  sch := fun _ => .done
  lt := fun | 3 => [.slot 5 false [.row 27 42], .slot 6 false [.int .i64]] | _ => []
  tup := tups

theorem vc18_row (P : Program) (H : Heap) (lA : Option Addr) (lN lC : Nat) (most : Int) (ri0 : Nat) (post : Nat → List Value → Heap → Prop) :
  vcFn P tab an18_row Try.f18 [.slice lA lN lC, .int .i64 most] 1 H ⟨false, [(false, [.row ri0 42])]⟩ post =
  (  ∃ (inv0 : Nat → List Value → Int → Heap → Prop), ∃ (m1 : Nat → List Value → Int → Nat), inv0 0 [] (0 : Int) H ∧ ∀ (H2 : Heap), Heap.le H H2 → ∀ (n4 : Nat) (xs5 : List Value) (n6 : Int),
  inv0 n4 xs5 n6 H2 → (decide (n6 < (↑lN : Int)) = true → (decide (n6 < most) = true → someA lA ∧ (0 : Int) ≤ n6 ∧ n6 < (↑lN : Int) ∧ ∃ (n10 : Int), ∃ (n11 : Int), ∃ (n12 : Int), ∃ (n13 :
  Int), ∃ (n14 : Int), Cells H2 lA (Int.toNat n6 * 5) [.int .u16 n10, .int .u16 n11, .int .u16 n12, .int .u16 n13, .int .u16 n14] ∧ ∃ (post15 : Option Addr → Nat → Nat → Int → Int → Option
  Addr → Nat → Nat → Heap → Prop), ConT P 34 [.agg ⟨[.int .u16 n10, .int .u16 n11, .int .u16 n12, .int .u16 n13, .int .u16 n14]⟩] H2 ⟨false, [(true, [.sl, .int .i64, .int .i64, .sl])]⟩ post15
  ∧ ∀ (H16 : Heap), Heap.le H2 H16 → ∀ (A18 : Option Addr) (n19 c20 : Nat) (n21 n22 : Int) (A23 : Option Addr) (n24 c25 : Nat), post15 A18 n19 c20 n21 n22 A23 n24 c25 H16 → (n4 + 1) * 64 ≤
  140737488355328 ∧ rng .i64 (n6 + (1 : Int)) ∧ inv0 (n4 + 1) (xs5 ++ [.slice A18 n19 c20, .int .i64 n21, .int .i64 n22, .slice A23 n24 c25]) (n6 + (1 : Int)) H16 ∧ m1 (n4 + 1) (xs5 ++
  [.slice A18 n19 c20, .int .i64 n21, .int .i64 n22, .slice A23 n24 c25]) (n6 + (1 : Int)) < m1 n4 xs5 n6) ∧ (decide (n6 < most) = false → post n4 xs5 H2)) ∧ (decide (n6 < (↑lN : Int)) =
  false → post n4 xs5 H2)) := by kernel_rfl
theorem law0_Tuples_row {H : Heap} {A : Option Addr} {n c r most : Nat} {l : List U5} (hs : Sl H A n c l) (hm : most < 1000) :
    ConT Try.prog 18 [.slice A n c, .int .i64 most] H ⟨false, [(false, [.row r 42])]⟩ (fun k xs H' => k = (lTups l most).length ∧ Row H' xs (lTups l most)) := by
  refine con_of_vc (an := an18_row) (fn := Try.f18) mix tabOK Try.func18 (by kernel_rfl) (extra := 1) ?_
  rw [vc18_row]
  have hl := hs.len
  refine ⟨fun k xs i H' => 0 ≤ i ∧ i ≤ n ∧ i ≤ most ∧ k = i.toNat ∧ Row H' xs ((l.take i.toNat).map lTup), fun _ _ i => n - i.toNat, ⟨by omega, by omega, by omega, rfl, rfl⟩, ?_⟩
  rintro H2 hle k xs i ⟨h0, h1, h1', rfl, hr⟩
  have fin : (n ≤ i.toNat ∨ most ≤ i.toNat) → i.toNat = (lTups l most).length ∧ Row H2 xs (lTups l most) := by
    intro h
    have e : (l.take i.toNat) = l.take most := by
      rcases h with h | h
      · rw [List.take_of_length_le (by omega), List.take_of_length_le (by omega)]
      · congr 1; omega
    rw [e] at hr
    refine ⟨?_, hr⟩
    simp only [lTups, List.length_map, List.length_take]; omega
  refine ⟨fun hlt => ⟨fun hlm => ?_, fun hlm => ?_⟩, fun hge => ?_⟩
  · have hlt := of_decide_eq_true hlt; have hlm := of_decide_eq_true hlm
    obtain ⟨hi, hA, _, hc, ⟨rfl, q1, q2, q3, q4, q5⟩⟩ := hs.at hle h0 hlt
    refine ⟨hA, h0, hlt, _, _, _, _, _, hc, _, law0_Tuple q1.1 q2.1 q3.1 q4.1 q5.1, ?_⟩
    intro H3 l3 A18 n19 c20 n21 n22 A23 n24 c25 hrel
    have e1 : (i + 1).toNat = i.toNat + 1 := by omega
    refine ⟨by omega, by simp only [rng]; omega, ⟨by omega, by omega, by omega, by omega, ?_⟩, by dsimp only; omega⟩
    rw [e1, List.take_succ_eq_append_getElem hi, List.map_append]
    exact (hr.mono l3).append ⟨_, [], rfl, hrel, rfl⟩
  · have hlm := of_decide_eq_false hlm
    exact fin (.inr (by omega))
  · have hge := of_decide_eq_false hge
    exact fin (.inl (by omega))
end Go.Vc
