/- Normal forms: what the program and the definition compute. -/
import Derived.Test.YticbeaepmnobnaaF1
set_option linter.unusedSectionVars false
set_option linter.unusedSimpArgs false
set_option linter.unusedVariables false
namespace Go.Vc
open Go Go.Proofs Go.Shelf
def an31 : Ann where
  res := fun _ => none
  lend := fun _ => false
  sch := fun | 3 => (tk [0, 1, 2, 3, 4, 5, 6, 7, 8, 9, 10, 11, 12, 13] .done) | 6 => (tk [0, 1, 2, 3, 4, 5, 6, 7, 8, 9, 10, 11, 12, 13] .done) | 7 => (tk [0, 1, 2, 3, 4, 5, 6, 7, 8] (.alt 9 .done .fin)) | 8 => (tk [0, 1, 2, 3, 4, 5, 6, 7, 8] (.alt 9 .done .fin)) | 10 => (tk [0, 1, 4, 5, 6] (.alt 2 (.alt 3 (.alt 7 (tk [8] .done) .fin) .fin) .fin)) | _ => .done
  lt := fun | 3 => [.slot 5 false [.row 72 30], .slot 6 false [.int .i64]] | 6 => [.slot 6 false [.int .i64], .box 3 30 [.int .i64, .int .i64]] | _ => []
  tup := tups

theorem vc31 (P : Program) (H : Heap) (sA : Option Addr) (sN sC : Nat) (p1From : Int) (p1To : Int) (post : Option Addr → Nat → Nat → Heap → Prop) :
  vcFn P tab an31 Try.f31 [.slice sA sN sC, .agg #[.int .i64 p1From, .int .i64 p1To]] 1 H ⟨false, [(false, [.sl])]⟩ post =
  (  ∃ (inv0 : Nat → List Value → Int → Heap → Prop), ∃ (m1 : Nat → List Value → Int → Nat), inv0 0 [] (0 : Int) H ∧ ∀ (H2 : Heap), Heap.le H H2 → ∀ (n4 : Nat) (xs5 : List Value) (n6 : Int),
  inv0 n4 xs5 n6 H2 → (decide (n6 < (↑sN : Int)) = true → someA sA ∧ (0 : Int) ≤ n6 ∧ n6 < (↑sN : Int) ∧ ∃ (n9 : Int), Cells H2 sA (Int.toNat n6 * 2 + 1) [.int .i64 n9] ∧ (decide (n9 <
  p1From) = true → someA sA ∧ (0 : Int) ≤ n6 ∧ n6 < (↑sN : Int) ∧ ∃ (n11 : Int), ∃ (n12 : Int), Cells H2 sA (Int.toNat n6 * 2) [.int .i64 n11, .int .i64 n12] ∧ (n4 + 1) * 16 ≤ 140737488355328
  ∧ rng .i64 (n6 + (1 : Int)) ∧ inv0 (n4 + 1) (xs5 ++ [.int .i64 n11, .int .i64 n12]) (n6 + (1 : Int)) H2 ∧ m1 (n4 + 1) (xs5 ++ [.int .i64 n11, .int .i64 n12]) (n6 + (1 : Int)) < m1 n4 xs5
  n6) ∧ (decide (n9 < p1From) = false → ∃ (inv14 : Int → Int → Int → Heap → Prop), ∃ (m15 : Int → Int → Int → Nat), inv14 n6 p1From p1To H2 ∧ ∀ (H16 : Heap), Heap.le H2 H16 → ∀ (n18 n19 n20 :
  Int), inv14 n18 n19 n20 H16 → (decide (n18 < (↑sN : Int)) = true → someA sA ∧ (0 : Int) ≤ n18 ∧ n18 < (↑sN : Int) ∧ ∃ (n23 : Int), Cells H16 sA (Int.toNat n18 * 2 + 0) [.int .i64 n23] ∧
  (decide (n23 ≤ n20) = true → someA sA ∧ (0 : Int) ≤ n18 ∧ n18 < (↑sN : Int) ∧ ∃ (n25 : Int), Cells H16 sA (Int.toNat n18 * 2 + 0) [.int .i64 n25] ∧ someA sA ∧ (0 : Int) ≤ n18 ∧ n18 < (↑sN :
  Int) ∧ ∃ (n26 : Int), Cells H16 sA (Int.toNat n18 * 2 + 1) [.int .i64 n26] ∧ rng .i64 (n18 + (1 : Int)) ∧ inv14 (n18 + (1 : Int)) (min n19 n25) (max n20 n26) H16 ∧ m15 (n18 + (1 : Int))
  (min n19 n25) (max n20 n26) < m15 n18 n19 n20) ∧ (decide (n23 ≤ n20) = false → (0 : Int) ≤ n18 ∧ n18 ≤ (↑sN : Int) ∧ (↑sN : Int) ≤ (↑sC : Int) ∧ ∀ (A28 : Option Addr), A28 = subA sA sC
  (Int.toNat n18) 2 → (n4 + 1) * 16 ≤ 140737488355328 ∧ ∃ (ys30 : List Value), Cells H16 A28 0 ys30 ∧ List.length ys30 = (Int.toNat (↑sN : Int) - Int.toNat n18) * 2 ∧ (n4 + 1 + (Int.toNat
  (↑sN : Int) - Int.toNat n18)) * 16 ≤ 140737488355328 ∧ ∀ (A31 : Option Addr) (c32 : Nat) (H33 : Heap), Heap.le H16 H33 → Cells H33 A31 0 (xs5 ++ [.int .i64 n19, .int .i64 n20] ++ ys30) → n4
  + 1 + (Int.toNat (↑sN : Int) - Int.toNat n18) ≤ c32 → post A31 (n4 + 1 + (Int.toNat (↑sN : Int) - Int.toNat n18)) c32 H33)) ∧ (decide (n18 < (↑sN : Int)) = false → (0 : Int) ≤ n18 ∧ n18 ≤
  (↑sN : Int) ∧ (↑sN : Int) ≤ (↑sC : Int) ∧ ∀ (A38 : Option Addr), A38 = subA sA sC (Int.toNat n18) 2 → (n4 + 1) * 16 ≤ 140737488355328 ∧ ∃ (ys40 : List Value), Cells H16 A38 0 ys40 ∧
  List.length ys40 = (Int.toNat (↑sN : Int) - Int.toNat n18) * 2 ∧ (n4 + 1 + (Int.toNat (↑sN : Int) - Int.toNat n18)) * 16 ≤ 140737488355328 ∧ ∀ (A41 : Option Addr) (c42 : Nat) (H43 : Heap),
  Heap.le H16 H43 → Cells H43 A41 0 (xs5 ++ [.int .i64 n19, .int .i64 n20] ++ ys40) → n4 + 1 + (Int.toNat (↑sN : Int) - Int.toNat n18) ≤ c42 → post A41 (n4 + 1 + (Int.toNat (↑sN : Int) -
  Int.toNat n18)) c42 H43))) ∧ (decide (n6 < (↑sN : Int)) = false → ∃ (inv48 : Int → Int → Int → Heap → Prop), ∃ (m49 : Int → Int → Int → Nat), inv48 n6 p1From p1To H2 ∧ ∀ (H50 : Heap),
  Heap.le H2 H50 → ∀ (n52 n53 n54 : Int), inv48 n52 n53 n54 H50 → (decide (n52 < (↑sN : Int)) = true → someA sA ∧ (0 : Int) ≤ n52 ∧ n52 < (↑sN : Int) ∧ ∃ (n57 : Int), Cells H50 sA (Int.toNat
  n52 * 2 + 0) [.int .i64 n57] ∧ (decide (n57 ≤ n54) = true → someA sA ∧ (0 : Int) ≤ n52 ∧ n52 < (↑sN : Int) ∧ ∃ (n59 : Int), Cells H50 sA (Int.toNat n52 * 2 + 0) [.int .i64 n59] ∧ someA sA ∧
  (0 : Int) ≤ n52 ∧ n52 < (↑sN : Int) ∧ ∃ (n60 : Int), Cells H50 sA (Int.toNat n52 * 2 + 1) [.int .i64 n60] ∧ rng .i64 (n52 + (1 : Int)) ∧ inv48 (n52 + (1 : Int)) (min n53 n59) (max n54 n60)
  H50 ∧ m49 (n52 + (1 : Int)) (min n53 n59) (max n54 n60) < m49 n52 n53 n54) ∧ (decide (n57 ≤ n54) = false → (0 : Int) ≤ n52 ∧ n52 ≤ (↑sN : Int) ∧ (↑sN : Int) ≤ (↑sC : Int) ∧ ∀ (A62 : Option
  Addr), A62 = subA sA sC (Int.toNat n52) 2 → (n4 + 1) * 16 ≤ 140737488355328 ∧ ∃ (ys64 : List Value), Cells H50 A62 0 ys64 ∧ List.length ys64 = (Int.toNat (↑sN : Int) - Int.toNat n52) * 2 ∧
  (n4 + 1 + (Int.toNat (↑sN : Int) - Int.toNat n52)) * 16 ≤ 140737488355328 ∧ ∀ (A65 : Option Addr) (c66 : Nat) (H67 : Heap), Heap.le H50 H67 → Cells H67 A65 0 (xs5 ++ [.int .i64 n53, .int
  .i64 n54] ++ ys64) → n4 + 1 + (Int.toNat (↑sN : Int) - Int.toNat n52) ≤ c66 → post A65 (n4 + 1 + (Int.toNat (↑sN : Int) - Int.toNat n52)) c66 H67)) ∧ (decide (n52 < (↑sN : Int)) = false →
  (0 : Int) ≤ n52 ∧ n52 ≤ (↑sN : Int) ∧ (↑sN : Int) ≤ (↑sC : Int) ∧ ∀ (A72 : Option Addr), A72 = subA sA sC (Int.toNat n52) 2 → (n4 + 1) * 16 ≤ 140737488355328 ∧ ∃ (ys74 : List Value), Cells
  H50 A72 0 ys74 ∧ List.length ys74 = (Int.toNat (↑sN : Int) - Int.toNat n52) * 2 ∧ (n4 + 1 + (Int.toNat (↑sN : Int) - Int.toNat n52)) * 16 ≤ 140737488355328 ∧ ∀ (A75 : Option Addr) (c76 :
  Nat) (H77 : Heap), Heap.le H50 H77 → Cells H77 A75 0 (xs5 ++ [.int .i64 n53, .int .i64 n54] ++ ys74) → n4 + 1 + (Int.toNat (↑sN : Int) - Int.toNat n52) ≤ c76 → post A75 (n4 + 1 + (Int.toNat
  (↑sN : Int) - Int.toNat n52)) c76 H77))) := by kernel_rfl
theorem ref1_insert {H : Heap} {A : Option Addr} {n c : Nat} {l : List Per} {lo hi : Int} (hs : Sl H A n c l) (hlo : rng .i64 lo) (hhi : rng .i64 hi) (hb : (l.length + 1) * 16 ≤ 140737488355328) :
    ConT Try.prog 31 [.slice A n c, .agg ⟨[.int .i64 lo, .int .i64 hi]⟩] H shS (fun A' n' c' H' => Sl H' A' n' c' (ins ⟨lo, hi⟩ l)) := by
  refine con_of_vc (an := an31) (fn := Try.f31) mix tabOK Try.func31 (by kernel_rfl) (extra := 1) ?_
  rw [vc31]
  have b1 := hs.bn; have b2 := hs.len; have b3 := hs.cap
  have htot := ins_length ⟨lo, hi⟩ l
  refine ⟨fun m xs i H' => 0 ≤ i ∧ i ≤ n ∧ ∃ out : List Per, Row H' xs out ∧ out.length = m ∧ m = i.toNat ∧ ins ⟨lo, hi⟩ l = out ++ ins ⟨lo, hi⟩ (l.drop i.toNat), fun _ _ i => n - i.toNat, ⟨by omega, by omega, [], rfl, rfl, rfl, rfl⟩, ?_⟩
  rintro H2 l2 m xs i ⟨h0, h1, out, hr, hm, hmi, he⟩
  have tail : ∀ {H2 : Heap}, Heap.le H H2 → Row H2 xs out → ins ⟨lo, hi⟩ l = out ++ ins2 lo hi (l.drop i.toNat) →
      ∃ (inv14 : Int → Int → Int → Heap → Prop), ∃ (m15 : Int → Int → Int → Nat), inv14 i lo hi H2 ∧ ∀ (H16 : Heap), Heap.le H2 H16 → ∀ (n18 n19 n20 : Int), inv14 n18 n19 n20 H16 →
        (decide (n18 < (n : Int)) = true → someA A ∧ 0 ≤ n18 ∧ n18 < (n : Int) ∧ ∃ n23 : Int, Cells H16 A (n18.toNat * 2 + 0) [.int .i64 n23] ∧
          (decide (n23 ≤ n20) = true → someA A ∧ 0 ≤ n18 ∧ n18 < (n : Int) ∧ ∃ n25 : Int, Cells H16 A (n18.toNat * 2 + 0) [.int .i64 n25] ∧ someA A ∧ 0 ≤ n18 ∧ n18 < (n : Int) ∧ ∃ n26 : Int, Cells H16 A (n18.toNat * 2 + 1) [.int .i64 n26] ∧
            rng .i64 (n18 + 1) ∧ inv14 (n18 + 1) (min n19 n25) (max n20 n26) H16 ∧ m15 (n18 + 1) (min n19 n25) (max n20 n26) < m15 n18 n19 n20) ∧
          (decide (n23 ≤ n20) = false → 0 ≤ n18 ∧ n18 ≤ (n : Int) ∧ (n : Int) ≤ (c : Int) ∧ ∀ A28 : Option Addr, A28 = subA A c n18.toNat 2 → (m + 1) * 16 ≤ 140737488355328 ∧ ∃ ys30 : List Value, Cells H16 A28 0 ys30 ∧ ys30.length = ((n : Int).toNat - n18.toNat) * 2 ∧
            (m + 1 + ((n : Int).toNat - n18.toNat)) * 16 ≤ 140737488355328 ∧ ∀ (A31 : Option Addr) (c32 : Nat) (H33 : Heap), Heap.le H16 H33 → Cells H33 A31 0 (xs ++ [.int .i64 n19, .int .i64 n20] ++ ys30) → m + 1 + ((n : Int).toNat - n18.toNat) ≤ c32 →
              Sl H33 A31 (m + 1 + ((n : Int).toNat - n18.toNat)) c32 (ins ⟨lo, hi⟩ l))) ∧
        (decide (n18 < (n : Int)) = false → 0 ≤ n18 ∧ n18 ≤ (n : Int) ∧ (n : Int) ≤ (c : Int) ∧ ∀ A28 : Option Addr, A28 = subA A c n18.toNat 2 → (m + 1) * 16 ≤ 140737488355328 ∧ ∃ ys30 : List Value, Cells H16 A28 0 ys30 ∧ ys30.length = ((n : Int).toNat - n18.toNat) * 2 ∧
            (m + 1 + ((n : Int).toNat - n18.toNat)) * 16 ≤ 140737488355328 ∧ ∀ (A31 : Option Addr) (c32 : Nat) (H33 : Heap), Heap.le H16 H33 → Cells H33 A31 0 (xs ++ [.int .i64 n19, .int .i64 n20] ++ ys30) → m + 1 + ((n : Int).toNat - n18.toNat) ≤ c32 →
              Sl H33 A31 (m + 1 + ((n : Int).toNat - n18.toNat)) c32 (ins ⟨lo, hi⟩ l)) := by
    intro H2 l2 hr he
    refine ⟨fun j u v _ => i ≤ j ∧ j ≤ n ∧ rng .i64 u ∧ rng .i64 v ∧ ins2 lo hi (l.drop i.toNat) = ins2 u v (l.drop j.toNat), fun j _ _ => n - j.toNat, ⟨by omega, by omega, hlo, hhi, rfl⟩, ?_⟩
    rintro H3 l3 j u v ⟨j0, j1, ru, rv, hj⟩
    have L3 := hle_trans l2 l3
    have fin : ins2 u v (l.drop j.toNat) = ⟨u, v⟩ :: l.drop j.toNat → 0 ≤ j ∧ j ≤ (n : Int) ∧ (n : Int) ≤ (c : Int) ∧ ∀ A28 : Option Addr, A28 = subA A c j.toNat 2 → (m + 1) * 16 ≤ 140737488355328 ∧ ∃ ys30 : List Value, Cells H3 A28 0 ys30 ∧ ys30.length = ((n : Int).toNat - j.toNat) * 2 ∧
            (m + 1 + ((n : Int).toNat - j.toNat)) * 16 ≤ 140737488355328 ∧ ∀ (A31 : Option Addr) (c32 : Nat) (H33 : Heap), Heap.le H3 H33 → Cells H33 A31 0 (xs ++ [.int .i64 u, .int .i64 v] ++ ys30) → m + 1 + ((n : Int).toNat - j.toNat) ≤ c32 →
              Sl H33 A31 (m + 1 + ((n : Int).toNat - j.toNat)) c32 (ins ⟨lo, hi⟩ l) := by
      intro hfin
      have hR : ins ⟨lo, hi⟩ l = out ++ [⟨u, v⟩] ++ l.drop j.toNat := by rw [he, hj, hfin]; simp
      have hRl := congrArg List.length hR
      simp only [List.length_append, List.length_cons, List.length_nil, List.length_drop] at hRl
      refine ⟨by omega, j1, by omega, ?_⟩
      rintro A28 rfl
      have hsub := (hs.mono L3).sub (j := j.toNat) (k := n) (by omega) (by omega)
      rw [List.take_of_length_le (by omega)] at hsub
      obtain ⟨ys, y1, y2⟩ := hsub.row
      have y3 := y2.length
      rw [List.length_drop] at y3
      refine ⟨by omega, ys, y1, by rw [y3, b2, Int.toNat_natCast]; rfl, by omega, ?_⟩
      intro A31 c32 H33 l33 hc33 hn33
      rw [hR]
      have hrow : Row H3 (xs ++ [.int .i64 u, .int .i64 v] ++ ys) (out ++ [⟨u, v⟩] ++ l.drop j.toNat) := ((hr.mono l3).append (Row.one (t := (⟨u, v⟩ : Per)) ⟨rfl, ru, rv⟩)).append y2
      refine hrow.sl l33 hc33 ?_ hn33 (by show _ * 16 ≤ _; omega) (by omega)
      simp only [List.length_append, List.length_cons, List.length_nil, List.length_drop]; omega
    refine ⟨fun hlt => ?_, fun hge => fin (by rw [drop_end (of_decide_eq_false hge) b2]; rfl)⟩
    have hlt := of_decide_eq_true hlt
    obtain ⟨hi', hA, _, hc, ⟨rfl, r1, r2⟩⟩ := hs.at L3 (i := j) (by omega) hlt
    refine ⟨hA, by omega, hlt, _, hc.at1 (k := 0) rfl, fun hle => ?_, fun hgt => ?_⟩
    · have hle := of_decide_eq_true hle
      refine ⟨hA, by omega, hlt, _, hc.at1 (k := 0) rfl, hA, by omega, hlt, _, hc.at1 (k := 1) rfl, by simp only [rng]; omega, ⟨by omega, by omega, by simp only [rng] at ru r1 ⊢; omega, by simp only [rng] at rv r2 ⊢; omega, ?_⟩, by dsimp only; omega⟩
      rw [hj, drop_at (by omega) hi', ins2, if_pos hle]
    · have hgt := of_decide_eq_false hgt
      exact fin (by rw [drop_at (by omega) hi', ins2, if_neg hgt])
  refine ⟨fun hlt => ?_, fun hge => ?_⟩
  · have hlt := of_decide_eq_true hlt
    obtain ⟨hi', hA, _, hc, ⟨rfl, r1, r2⟩⟩ := hs.at l2 h0 hlt
    refine ⟨hA, h0, hlt, _, hc.at1 (k := 1) rfl, fun hl => ?_, fun hg => ?_⟩
    · have hl := of_decide_eq_true hl
      refine ⟨hA, h0, hlt, _, _, hc, by omega, by simp only [rng]; omega, ⟨by omega, by omega, out ++ [l[i.toNat]], hr.append (Row.one ⟨rfl, r1, r2⟩), by simp; omega, by omega, ?_⟩, by dsimp only; omega⟩
      rw [he, drop_at h0 hi', ins, if_pos hl]; simp
    · have hg := of_decide_eq_false hg
      exact tail l2 hr (by rw [he, drop_at h0 hi', ins, if_neg hg])
  · have hge := of_decide_eq_false hge
    have hd := drop_end hge b2
    exact tail l2 hr (by rw [he, hd]; rfl)
def an15 : Ann where
  res := fun _ => none
  lend := fun | 15 => true | _ => false
  sch := fun _ => .done
  lt := fun | 3 => [.slot 3 false [.sl], .slot 4 false [.int .i64]] | _ => []
  tup := tups

theorem vc15 (P : Program) (H : Heap) (sA : Option Addr) (sN sC : Nat) (post : Option Addr → Nat → Nat → Heap → Prop) :
  vcFn P tab an15 Try.f15 [.slice sA sN sC] 0 H ⟨false, [(false, [.sl])]⟩ post =
  (  ∃ (inv0 : Option Addr → Nat → Nat → Int → Heap → Prop), ∃ (m1 : Option Addr → Nat → Nat → Int → Nat), inv0 none 0 0 (0 : Int) H ∧ ∀ (H2 : Heap), Heap.le H H2 → ∀ (A4 : Option Addr) (n5 c6 :
  Nat) (n7 : Int), inv0 A4 n5 c6 n7 H2 → (decide (n7 < (↑sN : Int)) = true → someA sA ∧ (0 : Int) ≤ n7 ∧ n7 < (↑sN : Int) ∧ ∃ (n10 : Int), ∃ (n11 : Int), Cells H2 sA (Int.toNat n7 * 2) [.int
  .i64 n10, .int .i64 n11] ∧ ∃ (post12 : Bool → Heap → Prop), ConT P 27 [.agg ⟨[.int .i64 n10, .int .i64 n11]⟩] H2 ⟨false, [(false, [.bool])]⟩ post12 ∧ ∀ (H13 : Heap), Heap.le H2 H13 → ∀ (b15
  : Bool), post12 b15 H13 → (b15 = true → someA sA ∧ (0 : Int) ≤ n7 ∧ n7 < (↑sN : Int) ∧ ∃ (n18 : Int), ∃ (n19 : Int), Cells H13 sA (Int.toNat n7 * 2) [.int .i64 n18, .int .i64 n19] ∧ ∃
  (post20 : Option Addr → Nat → Nat → Heap → Prop), ConT P 31 [.slice A4 n5 c6, .agg ⟨[.int .i64 n18, .int .i64 n19]⟩] H13 ⟨false, [(false, [.sl])]⟩ post20 ∧ ∀ (H21 : Heap), Heap.le H13 H21 →
  ∀ (A23 : Option Addr) (n24 c25 : Nat), post20 A23 n24 c25 H21 → rng .i64 (n7 + (1 : Int)) ∧ inv0 A23 n24 c25 (n7 + (1 : Int)) H21 ∧ m1 A23 n24 c25 (n7 + (1 : Int)) < m1 A4 n5 c6 n7) ∧ (b15
  = false → rng .i64 (n7 + (1 : Int)) ∧ inv0 A4 n5 c6 (n7 + (1 : Int)) H13 ∧ m1 A4 n5 c6 (n7 + (1 : Int)) < m1 A4 n5 c6 n7)) ∧ (decide (n7 < (↑sN : Int)) = false → post A4 n5 c6 H2)) := by kernel_rfl
theorem ref1_Normalize {H : Heap} {A : Option Addr} {n c : Nat} {l : List Per} (hs : Sl H A n c l) : ConT Try.prog 15 [.slice A n c] H shS (fun A' n' c' H' => Sl H' A' n' c' (norm l)) := by
  refine con_of_vc (an := an15) (fn := Try.f15) mix tabOK Try.func15 (by kernel_rfl) (extra := 0) ?_
  rw [vc15]
  have b1 := hs.bn; have b2 := hs.len; have b3 := hs.bnd
  replace b3 : n * 16 ≤ 140737488355328 := b3
  refine ⟨fun A' n' c' i H' => 0 ≤ i ∧ i ≤ n ∧ ∃ acc : List Per, Sl H' A' n' c' acc ∧ acc.length ≤ i.toNat ∧ norm l = nrmFrom acc (l.drop i.toNat), fun _ _ _ i => n - i.toNat, ⟨by omega, by omega, [], Sl.nil, by simp, rfl⟩, ?_⟩
  rintro H2 l2 A' n' c' i ⟨h0, h1, acc, ha, hal, he⟩
  refine ⟨fun hlt => ?_, fun hge => ?_⟩
  · have hlt := of_decide_eq_true hlt
    obtain ⟨hi', hA, _, hc, ⟨rfl, r1, r2⟩⟩ := hs.at l2 h0 hlt
    rw [drop_at h0 hi', nrmFrom] at he
    refine ⟨hA, h0, hlt, _, _, hc, _, ref1_Valid, ?_⟩
    rintro H3 l3 _ rfl
    refine ⟨fun ht => ⟨hA, h0, hlt, _, _, hc.mono l3, _, ref1_insert (ha.mono l3) r1 r2 (by omega), ?_⟩, fun hf => ⟨by simp only [rng]; omega, ⟨by omega, by omega, acc, ha.mono l3, by omega, ?_⟩, by dsimp only; omega⟩⟩
    · intro H4 l4 A4 n4 c4 h4
      have := ins_length ⟨l[i.toNat].lo, l[i.toNat].hi⟩ acc
      refine ⟨by simp only [rng]; omega, ⟨by omega, by omega, _, h4, by omega, ?_⟩, by dsimp only; omega⟩
      rw [he, if_pos ht]
    · rw [he, if_neg (by rw [hf]; simp)]
  · rw [drop_end (of_decide_eq_false hge) b2, nrmFrom] at he
    rw [he]; exact ha
def an40 : Ann where
  res := fun _ => none
  lend := fun _ => false
  sch := fun _ => .done
  lt := fun _ => []
  tup := tups

theorem vc40 (P : Program) (H : Heap) (x : Int) (post : Bool → Heap → Prop) :
  vcFn P tab an40 Try.f40 [.int .i64 x] 0 H ⟨false, [(false, [.bool])]⟩ post =
  (  post (!decide (x = x)) H) := by kernel_rfl
theorem cmp_isNaN {x : Int} {H : Heap} : ConT Try.prog 40 [.int .i64 x] H shB (fun r _ => r = false) := by
  refine con_of_vc (an := an40) (fn := Try.f40) mix tabOK Try.func40 (by kernel_rfl) (extra := 0) ?_
  rw [vc40]
  grind
def cmpI (x y : Int) : Int := if x < y then -1 else if y < x then 1 else 0
def an30 : Ann where
  res := fun _ => none
  lend := fun | 8 => true | 10 => true | _ => false
  sch := fun _ => .done
  lt := fun _ => []
  tup := tups

theorem vc30 (P : Program) (H : Heap) (x : Int) (y : Int) (post : Int → Heap → Prop) :
  vcFn P tab an30 Try.f30 [.int .i64 x, .int .i64 y] 0 H ⟨false, [(false, [.int .i64])]⟩ post =
  (  ∃ (post0 : Bool → Heap → Prop), ConT P 40 [.int .i64 x] H ⟨false, [(false, [.bool])]⟩ post0 ∧ ∀ (H1 : Heap), Heap.le H H1 → ∀ (b3 : Bool), post0 b3 H1 → ∃ (post5 : Bool → Heap → Prop), ConT
  P 40 [.int .i64 y] H1 ⟨false, [(false, [.bool])]⟩ post5 ∧ ∀ (H6 : Heap), Heap.le H1 H6 → ∀ (b8 : Bool), post5 b8 H6 → (b3 = true → (b8 = true → post (0 : Int) H6) ∧ (b8 = false → post (-1 :
  Int) H6)) ∧ (b3 = false → (b8 = true → post (1 : Int) H6) ∧ (b8 = false → (decide (x < y) = true → post (-1 : Int) H6) ∧ (decide (x < y) = false → (decide (y < x) = true → post (1 : Int)
  H6) ∧ (decide (y < x) = false → post (0 : Int) H6))))) := by kernel_rfl
theorem cmp_Compare {x y : Int} {H : Heap} : ConT Try.prog 30 [.int .i64 x, .int .i64 y] H shI (fun r _ => r = cmpI x y) := by
  refine con_of_vc (an := an30) (fn := Try.f30) mix tabOK Try.func30 (by kernel_rfl) (extra := 0) ?_
  rw [vc30]
  refine ⟨_, cmp_isNaN, ?_⟩
  rintro H1 _ _ rfl
  refine ⟨_, cmp_isNaN, ?_⟩
  rintro H2 _ _ rfl
  grind [cmpI]
def an29 : Ann where
  res := fun _ => none
  lend := fun | 9 => true | _ => false
  sch := fun _ => .done
  lt := fun _ => []
  tup := tups

theorem vc29 (P : Program) (H : Heap) (aFrom : Int) (aTo : Int) (bFrom : Int) (bTo : Int) (post : Int → Heap → Prop) :
  vcFn P tab an29 Try.f29 [.agg #[.int .i64 aFrom, .int .i64 aTo], .agg #[.int .i64 bFrom, .int .i64 bTo]] 0 H ⟨false, [(false, [.int .i64])]⟩ post =
  (  ∃ (post0 : Int → Heap → Prop), ConT P 30 [.int .i64 aFrom, .int .i64 bFrom] H ⟨false, [(false, [.int .i64])]⟩ post0 ∧ ∀ (H1 : Heap), Heap.le H H1 → ∀ (n3 : Int), post0 n3 H1 → post n3 H1) := by kernel_rfl
theorem periodset_Normalize1 {a b c d : Int} {H : Heap} : ConT Try.prog 29 [.agg ⟨[.int .i64 a, .int .i64 b]⟩, .agg ⟨[.int .i64 c, .int .i64 d]⟩] H shI (fun r _ => r = cmpI a c) := by
  refine con_of_vc (an := an29) (fn := Try.f29) mix tabOK Try.func29 (by kernel_rfl) (extra := 0) ?_
  rw [vc29]
  exact ⟨_, cmp_Compare, fun _ _ _ h => h⟩
def sortLay_Per_ren : Go.Shelf.Ren := ⟨fun | 6 => 28 | 15 => 39 | 14 => 38 | 28 => 51 | 29 => 52 | 20 => 43 | 21 => 44 | 22 => 45 | 23 => 46 | 24 => 47 | 25 => 48 | 26 => 49 | 27 => 50 | 46 => 53 | 47 => 54 | 48 => 55 | 49 => 56 | 50 => 57 | 57 => 58 | n => n, fun | 22 => 22 | 24 => 30 | 25 => 39 | 3 => 3 | 39 => 48 | 0 => 0 | 53 => 62 | 55 => 64 | 4 => 4 | 46 => 55 | 45 => 54 | 50 => 59 | 5 => 5 | 9 => 9 | 66 => 65 | 70 => 69 | 76 => 71 | 77 => 72 | n => n, fun n => n⟩
theorem sortLay_Per : SlLaysF0.n6 Try.prog sortLay_Per_ren where
  mixed := by kernel_rfl
  f6 := ⟨Try.f28.name, by kernel_rfl, Try.func28.trans (congrArg some (by kernel_rfl))⟩
  f14 := ⟨Try.f38.name, by kernel_rfl, Try.func38.trans (congrArg some (by kernel_rfl))⟩
  f15 := Try.func39.trans (congrArg some (by kernel_rfl))
  f20 := ⟨Try.f43.name, by kernel_rfl, Try.func43.trans (congrArg some (by kernel_rfl))⟩
  f21 := ⟨Try.f44.name, by kernel_rfl, Try.func44.trans (congrArg some (by kernel_rfl))⟩
  f22 := ⟨Try.f45.name, by kernel_rfl, Try.func45.trans (congrArg some (by kernel_rfl))⟩
  f23 := ⟨Try.f46.name, by kernel_rfl, Try.func46.trans (congrArg some (by kernel_rfl))⟩
  f24 := ⟨Try.f47.name, by kernel_rfl, Try.func47.trans (congrArg some (by kernel_rfl))⟩
  f25 := ⟨Try.f48.name, by kernel_rfl, Try.func48.trans (congrArg some (by kernel_rfl))⟩
  f26 := ⟨Try.f49.name, by kernel_rfl, Try.func49.trans (congrArg some (by kernel_rfl))⟩
  f27 := ⟨Try.f50.name, by kernel_rfl, Try.func50.trans (congrArg some (by kernel_rfl))⟩
  f28 := Try.func51.trans (congrArg some (by kernel_rfl))
  f29 := Try.func52.trans (congrArg some (by kernel_rfl))
  f46 := ⟨Try.f53.name, by kernel_rfl, Try.func53.trans (congrArg some (by kernel_rfl))⟩
  f47 := Try.func54.trans (congrArg some (by kernel_rfl))
  f48 := Try.func55.trans (congrArg some (by kernel_rfl))
  f49 := ⟨Try.f56.name, by kernel_rfl, Try.func56.trans (congrArg some (by kernel_rfl))⟩
  f50 := ⟨Try.f57.name, by kernel_rfl, Try.func57.trans (congrArg some (by kernel_rfl))⟩
  f57 := ⟨Try.f58.name, by kernel_rfl, Try.func58.trans (congrArg some (by kernel_rfl))⟩
  t0 := Try.underlying0
  a0 := Try.isAgg0
  z0 := Try.sizeOf0
  v0 := Try.zeroValue0
  t3 := Try.underlying3
  a3 := Try.isAgg3
  z3 := Try.sizeOf3
  v3 := Try.zeroValue3
  t4 := Try.underlying4
  a4 := Try.isAgg4
  z4 := Try.sizeOf4
  v4 := Try.zeroValue4
  t5 := Try.underlying5
  a5 := Try.isAgg5
  z5 := Try.sizeOf5
  v5 := Try.zeroValue5
  t9 := Try.underlying9
  a9 := Try.isAgg9
  z9 := Try.sizeOf9
  v9 := Try.zeroValue9
  t22 := Try.underlying22
  a22 := Try.isAgg22
  z22 := Try.sizeOf22
  v22 := Try.zeroValue22
  t25 := Try.underlying39
  a25 := Try.isAgg39
  z25 := Try.sizeOf39
  v25 := Try.zeroValue39
  t39 := Try.underlying48
  a39 := Try.isAgg48
  z39 := Try.sizeOf48
  v39 := Try.zeroValue48
  t45 := Try.underlying54
  a45 := Try.isAgg54
  z45 := Try.sizeOf54
  v45 := Try.zeroValue54
  t46 := Try.underlying55
  a46 := Try.isAgg55
  z46 := Try.sizeOf55
  v46 := Try.zeroValue55
  t50 := Try.underlying59
  a50 := Try.isAgg59
  z50 := Try.sizeOf59
  v50 := Try.zeroValue59
  t53 := Try.underlying62
  a53 := Try.isAgg62
  z53 := Try.sizeOf62
  v53 := Try.zeroValue62
  t55 := Try.underlying64
  a55 := Try.isAgg64
  z55 := Try.sizeOf64
  v55 := Try.zeroValue64
  t66 := Try.underlying65
  a66 := Try.isAgg65
  z66 := Try.sizeOf65
  v66 := Try.zeroValue65
  t70 := Try.underlying69
  a70 := Try.isAgg69
  z70 := Try.sizeOf69
  v70 := Try.zeroValue69
  t76 := Try.underlying71
  a76 := Try.isAgg71
  z76 := Try.sizeOf71
  v76 := Try.zeroValue71
  t77 := Try.underlying72
  a77 := Try.isAgg72
  z77 := Try.sizeOf72
  v77 := Try.zeroValue72
theorem sortL_Per : SrtL Try.prog sortLay_Per_ren 2 := ⟨sortLay_Per, Try.isAgg30, Try.sizeOf30, by kernel_rfl⟩
theorem cmpI_lt {x y : Int} : cmpI x y < 0 ↔ x < y := by unfold cmpI; split <;> (try split) <;> omega
theorem swo_cmpI {T : Type} (f : T → Int) : Sort.SWO (ltOf fun x y : T => cmpI (f x) (f y)) where
  irrefl x := by simp [ltOf, cmpI_lt]
  trans x y z h1 h2 := by simp only [ltOf, decide_eq_true_eq, cmpI_lt] at *; omega
  ntrans x y z h1 h2 := by simp only [ltOf, decide_eq_false_iff_not, cmpI_lt] at *; omega
theorem SortFunc_Per {H : Heap} {n : Nat} {xs : List Value} {l : List Per} (hr : Row H xs l) (hl : l.length = n) (hn : n ≤ 140737488355328) :
    ConM Try.prog 28 [.slice none 0 0, .func (.func 29) #[] #[]] 0 30 n xs true H ⟨true, []⟩ (fun ys (H' : Heap) => ∃ m : List Per, Row H' ys m ∧ m.Perm l ∧ m.Pairwise (fun a b => a.lo ≤ b.lo)) := by
  have h := sort_con sortL_Per hr hl hn (f := 29) (cap := []) (cf := fun x y : Per => cmpI x.lo y.lo) ⟨_, Try.func29, rfl, by kernel_rfl⟩ (swo_cmpI fun p : Per => p.lo)
    (fun H' vs us s t _ h1 h2 => by
      obtain ⟨rfl, -, -⟩ := h1
      obtain ⟨rfl, -, -⟩ := h2
      exact periodset_Normalize1)
  have e : (fun ys (H' : Heap) => ∃ m : List Per, Row H' ys m ∧ m.Perm l ∧ m.Pairwise (fun a b => ¬ cmpI b.lo a.lo < 0)) = (fun ys (H' : Heap) => ∃ m : List Per, Row H' ys m ∧ m.Perm l ∧ m.Pairwise (fun a b => a.lo ≤ b.lo)) := by
    funext ys H'
    simp only [cmpI_lt, Int.not_lt]
  rw [e] at h
  exact h
def mrgInv (m out : List Per) (i : Int) : Prop := match out.getLast? with
  | none => mrgAll m = mrgAll (m.drop i.toNat)
  | some q => mrgAll m = out.dropLast ++ mrg q (m.drop i.toNat)
def an14 : Ann where
  res := fun _ => none
  lend := fun | 17 => true | _ => false
  mt := fun | 28 => some true | _ => none
  sch := fun | 13 => (tk [0, 1, 2, 3, 4, 5, 6, 7] (.alt 8 (tk [9] (.alt 10 (tk [11, 12] .done) .fin)) .fin)) | 14 => (tk [0, 1, 2, 3, 4, 5, 9, 10] (.alt 6 (tk [7] (.alt 8 (tk [11] (.alt 12 (tk [13] (.alt 14 .done .fin)) .fin)) .fin)) .fin)) | _ => .done
  lt := fun | 3 => [.slot 3 false [.row 66 30], .slot 12 false [.int .i64]] | 10 => [.slot 4 false [.row 67 30], .slot 27 false [.int .i64]] | _ => []
  tup := tups

theorem vc14 (P : Program) (H : Heap) (sA : Option Addr) (sN sC : Nat) (post : Option Addr → Nat → Nat → Heap → Prop) :
  vcFn P tab an14 Try.f14 [.slice sA sN sC] 2 H ⟨false, [(false, [.sl])]⟩ post =
  (  ∃ (inv0 : Nat → List Value → Int → Heap → Prop), ∃ (m1 : Nat → List Value → Int → Nat), inv0 0 [] (0 : Int) H ∧ ∀ (H2 : Heap), Heap.le H H2 → ∀ (n4 : Nat) (xs5 : List Value) (n6 : Int),
  inv0 n4 xs5 n6 H2 → (decide (n6 < (↑sN : Int)) = true → someA sA ∧ (0 : Int) ≤ n6 ∧ n6 < (↑sN : Int) ∧ ∃ (n9 : Int), ∃ (n10 : Int), Cells H2 sA (Int.toNat n6 * 2) [.int .i64 n9, .int .i64
  n10] ∧ ∃ (post11 : Bool → Heap → Prop), ConT P 26 [.agg ⟨[.int .i64 n9, .int .i64 n10]⟩] H2 ⟨false, [(false, [.bool])]⟩ post11 ∧ ∀ (H12 : Heap), Heap.le H2 H12 → ∀ (b14 : Bool), post11 b14
  H12 → (b14 = true → (n4 + 1) * 16 ≤ 140737488355328 ∧ rng .i64 (n6 + (1 : Int)) ∧ inv0 (n4 + 1) (xs5 ++ [.int .i64 n9, .int .i64 n10]) (n6 + (1 : Int)) H12 ∧ m1 (n4 + 1) (xs5 ++ [.int .i64
  n9, .int .i64 n10]) (n6 + (1 : Int)) < m1 n4 xs5 n6) ∧ (b14 = false → rng .i64 (n6 + (1 : Int)) ∧ inv0 n4 xs5 (n6 + (1 : Int)) H12 ∧ m1 n4 xs5 (n6 + (1 : Int)) < m1 n4 xs5 n6)) ∧ (decide
  (n6 < (↑sN : Int)) = false → ∃ (post19 : List Value → Heap → Prop), ConM P 28 [.slice none 0 0, .func (.func 29) ⟨[]⟩ ⟨[]⟩] 0 30 n4 xs5 true H2 ⟨true, []⟩ post19 ∧ ∀ (H20 : Heap), Heap.le
  H2 H20 → ∀ (ys22 : List Value), post19 ys22 H20 → ∃ (inv24 : Nat → List Value → Int → Heap → Prop), ∃ (m25 : Nat → List Value → Int → Nat), inv24 0 [] (0 : Int) H20 ∧ ∀ (H26 : Heap),
  Heap.le H20 H26 → ∀ (n28 : Nat) (xs29 : List Value) (n30 : Int), inv24 n28 xs29 n30 H26 → (decide (n30 < (↑n4 : Int)) = true → (0 : Int) ≤ n30 ∧ n30 < (↑n4 : Int) ∧ ∃ (n33 : Int), ∃ (n34 :
  Int), win ys22 (Int.toNat n30 * 2) 2 = [.int .i64 n33, .int .i64 n34] ∧ (decide ((0 : Int) < (↑n28 : Int)) = true → rng .i64 ((↑n28 : Int) - (1 : Int)) ∧ (0 : Int) ≤ (↑n28 : Int) - (1 :
  Int) ∧ (↑n28 : Int) - (1 : Int) < (↑n28 : Int) ∧ ∃ (n36 : Int), win xs29 (Int.toNat ((↑n28 : Int) - (1 : Int)) * 2 + 1) 1 = [.int .i64 n36] ∧ (decide (n33 ≤ n36) = true → rng .i64 ((↑n28 :
  Int) - (1 : Int)) ∧ rng .i64 ((↑n28 : Int) - (1 : Int)) ∧ (0 : Int) ≤ (↑n28 : Int) - (1 : Int) ∧ (↑n28 : Int) - (1 : Int) < (↑n28 : Int) ∧ ∃ (n38 : Int), win xs29 (Int.toNat ((↑n28 : Int) -
  (1 : Int)) * 2 + 1) 1 = [.int .i64 n38] ∧ (0 : Int) ≤ (↑n28 : Int) - (1 : Int) ∧ (↑n28 : Int) - (1 : Int) < (↑n28 : Int) ∧ Int.toNat ((↑n28 : Int) - (1 : Int)) * 2 + 1 + 1 ≤ List.length
  xs29 ∧ rng .i64 (n30 + (1 : Int)) ∧ inv24 n28 (splice xs29 (Int.toNat ((↑n28 : Int) - (1 : Int)) * 2 + 1) [.int .i64 (max n38 n34)]) (n30 + (1 : Int)) H26 ∧ m25 n28 (splice xs29 (Int.toNat
  ((↑n28 : Int) - (1 : Int)) * 2 + 1) [.int .i64 (max n38 n34)]) (n30 + (1 : Int)) < m25 n28 xs29 n30) ∧ (decide (n33 ≤ n36) = false → (n28 + 1) * 16 ≤ 140737488355328 ∧ rng .i64 (n30 + (1 :
  Int)) ∧ inv24 (n28 + 1) (xs29 ++ [.int .i64 n33, .int .i64 n34]) (n30 + (1 : Int)) H26 ∧ m25 (n28 + 1) (xs29 ++ [.int .i64 n33, .int .i64 n34]) (n30 + (1 : Int)) < m25 n28 xs29 n30)) ∧
  (decide ((0 : Int) < (↑n28 : Int)) = false → (n28 + 1) * 16 ≤ 140737488355328 ∧ rng .i64 (n30 + (1 : Int)) ∧ inv24 (n28 + 1) (xs29 ++ [.int .i64 n33, .int .i64 n34]) (n30 + (1 : Int)) H26 ∧
  m25 (n28 + 1) (xs29 ++ [.int .i64 n33, .int .i64 n34]) (n30 + (1 : Int)) < m25 n28 xs29 n30)) ∧ (decide (n30 < (↑n4 : Int)) = false → ∀ (A42 : Option Addr) (c43 : Nat) (H44 : Heap), Heap.le
  H26 H44 → Cells H44 A42 0 xs29 → n28 ≤ c43 → post A42 n28 c43 H44))) := by kernel_rfl
theorem periodset_Normalize {H : Heap} {A : Option Addr} {n c : Nat} {l : List Per} (hs : Sl H A n c l) : ConT Try.prog 14 [.slice A n c] H shS (fun A' n' c' H' => Sl H' A' n' c' (norm l)) := by
  refine con_of_vc (an := an14) (fn := Try.f14) mix tabOK Try.func14 (by kernel_rfl) (extra := 2) ?_
  rw [vc14]
  have b1 := hs.bn; have b2 := hs.len; have b3 := hs.bnd
  replace b3 : n * 16 ≤ 140737488355328 := b3
  refine ⟨fun m xs i H' => 0 ≤ i ∧ i ≤ n ∧ ∃ out : List Per, Row H' xs out ∧ out.length = m ∧ m ≤ i.toNat ∧ l.filter pOk = out ++ (l.drop i.toNat).filter pOk, fun _ _ i => n - i.toNat, ⟨by omega, by omega, [], rfl, rfl, by simp, by simp⟩, ?_⟩
  rintro H2 l2 m xs i ⟨h0, h1, out, hr, hm, hmi, he⟩
  refine ⟨fun hlt => ?_, fun hge => ?_⟩
  · have hlt := of_decide_eq_true hlt
    obtain ⟨hi', hA, _, hc, ⟨rfl, r1, r2⟩⟩ := hs.at l2 h0 hlt
    rw [drop_at h0 hi', List.filter_cons] at he
    refine ⟨hA, h0, hlt, _, _, hc, _, period_Valid, ?_⟩
    rintro H3 l3 _ rfl
    refine ⟨fun ht => ⟨by omega, by simp only [rng]; omega, ⟨by omega, by omega, out ++ [l[i.toNat]], (hr.mono l3).append (Row.one ⟨rfl, r1, r2⟩), by simp; omega, by omega, ?_⟩, by dsimp only; omega⟩,
      fun hf => ⟨by simp only [rng]; omega, ⟨by omega, by omega, out, hr.mono l3, hm, by omega, ?_⟩, by dsimp only; omega⟩⟩
    · rw [he, if_pos ht]; simp
    · rw [he, if_neg (by rw [hf]; simp)]
  · rw [drop_end (of_decide_eq_false hge) b2, List.filter_nil, List.append_nil] at he
    refine ⟨_, SortFunc_Per hr hm (by omega), ?_⟩
    rintro H3 l3 ys ⟨s, hsr, hperm, hsorted⟩
    have hsl : s.length = m := by rw [hperm.length_eq, hm]
    rw [← he] at hperm
    have hfin := mrgAll_norm hperm hsorted
    have hok : ∀ p ∈ s, rng .i64 p.lo ∧ rng .i64 p.hi := fun p hp => by
      have := pOk_iff.1 (List.mem_filter.1 (hperm.mem_iff.1 hp)).2
      have hmx : maxT = 1099511627776 := rfl
      simp only [rng]; omega
    refine ⟨fun k zs j H' => 0 ≤ j ∧ j ≤ m ∧ ∃ o : List Per, Row H' zs o ∧ o.length = k ∧ k ≤ j.toNat ∧ mrgInv s o j, fun _ _ j => m - j.toNat, ⟨by omega, by omega, [], rfl, rfl, by simp, rfl⟩, ?_⟩
    rintro H4 l4 k zs j ⟨j0, j1, o, ho, hk, hkj, hinv⟩
    refine ⟨fun hlt => ?_, fun hge => ?_⟩
    · have hlt := of_decide_eq_true hlt
      have hj : j.toNat < s.length := by omega
      have hw := (hsr.mono l4).getw hj
      obtain ⟨hw, w1, w2⟩ := hw
      have hlast : o.getLast? = o[k - 1]? := by rw [List.getLast?_eq_getElem?, hk]
      refine ⟨j0, hlt, _, _, hw, fun hk0 => ?_, fun hk0 => ?_⟩
      · have hk0 := of_decide_eq_true hk0
        have hk1 : k - 1 < o.length := by omega
        have hkt : ((k : Int) - 1).toNat = k - 1 := by omega
        obtain ⟨vs, ⟨rfl, v1, v2⟩, g1, g2⟩ := ho.getf hk1
        rw [mrgInv, hlast, List.getElem?_eq_getElem hk1] at hinv
        simp only at hinv
        rw [drop_at j0 hj, mrg] at hinv
        rw [hkt]
        refine ⟨by simp only [rng]; omega, by omega, by omega, _, g1 1 1 (by decide), fun hle => ?_, fun hgt => ?_⟩
        · have hle := of_decide_eq_true hle
          rw [if_pos hle] at hinv
          have hrow := g2 1 [.int .i64 (max o[k - 1].hi s[j.toNat].hi)] ⟨o[k - 1].lo, max o[k - 1].hi s[j.toNat].hi⟩ (by show 1 + 1 ≤ 2; decide) ⟨rfl, v1, by simp only [rng] at v2 w2 ⊢; omega⟩
          have hzl := ho.length
          refine ⟨by simp only [rng]; omega, by simp only [rng]; omega, by omega, by omega, _, g1 1 1 (by decide), by omega, by omega, ?_, by simp only [rng]; omega, ⟨by omega, by omega, _, hrow, by simpa using hk, by omega, ?_⟩, by dsimp only; omega⟩
          · rw [hzl, hk]; show (k - 1) * 2 + 1 + 1 ≤ k * 2; omega
          · rw [mrgInv, List.getLast?_eq_getElem?, List.length_set, hk, List.getElem?_set_self hk1]
            simp only
            rw [hinv]
            congr 1
            rw [List.dropLast_eq_take, List.dropLast_eq_take, List.length_set, hk, List.take_set_of_le (by omega)]
        · have hgt := of_decide_eq_false hgt
          rw [if_neg hgt] at hinv
          refine ⟨by omega, by simp only [rng]; omega, ⟨by omega, by omega, o ++ [s[j.toNat]], ho.append (Row.one ⟨rfl, w1, w2⟩), by simp; omega, by omega, ?_⟩, by dsimp only; omega⟩
          rw [mrgInv, List.getLast?_concat]
          simp only
          rw [hinv, List.dropLast_concat]
          have hne : o ≠ [] := by rintro rfl; simp at hk; omega
          have : o = o.dropLast ++ [o[k - 1]] := by
            conv => lhs; rw [← List.dropLast_concat_getLast hne]
            congr 2
            rw [List.getLast_eq_getElem]; congr 1; omega
          conv => rhs; rw [this]
          simp
      · have hk0 := of_decide_eq_false hk0
        have h00 : k = 0 := by omega
        have ho0 : o = [] := List.eq_nil_of_length_eq_zero (by omega)
        rw [ho0, mrgInv] at hinv
        simp only [List.getLast?_nil] at hinv
        rw [drop_at j0 hj, mrgAll] at hinv
        refine ⟨by omega, by simp only [rng]; omega, ⟨by omega, by omega, o ++ [s[j.toNat]], ho.append (Row.one ⟨rfl, w1, w2⟩), by simp; omega, by omega, ?_⟩, by dsimp only; omega⟩
        rw [mrgInv, List.getLast?_concat]
        simp only
        rw [hinv, ho0]; rfl
    · have hd : s.drop j.toNat = [] := drop_end (of_decide_eq_false hge) hsl
      intro A5 c5 H5 l5 hc5 hn5
      have hres : norm l = o := by
        rw [← hfin]
        rw [mrgInv, hd] at hinv
        cases hol : o.getLast? with
        | none =>
          rw [hol] at hinv
          rw [List.getLast?_eq_none_iff] at hol
          rw [hol]; exact hinv
        | some q =>
          rw [hol] at hinv
          simp only [mrg] at hinv
          rw [hinv]
          obtain ⟨ys, rfl⟩ := List.getLast?_eq_some_iff.1 hol
          simp
      rw [hres]
      exact ho.sl l5 hc5 hk hn5 (by show k * 16 ≤ _; omega) (by omega)
end Go.Vc
