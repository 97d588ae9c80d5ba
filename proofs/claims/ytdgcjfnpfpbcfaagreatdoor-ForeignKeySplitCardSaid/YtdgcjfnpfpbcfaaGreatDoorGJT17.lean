/- slices.BinarySearch at ints; splitting tuples. -/
import Derived.Test.YtdgcjfnpfpbcfaaGreatDoorGJT15
import Derived.Test.YtdgcjfnpfpbcfaaGreatDoorGJT16
import Derived.Test.YtdgcjfnpfpbcfaaGreatDoorGJT13
set_option linter.unusedSectionVars false
set_option linter.unusedSimpArgs false
set_option linter.unusedVariables false
namespace Go.Vc
open Go Go.Proofs Go.Shelf
abbrev shIB : RSh := ⟨true, [(false, [.int .i64]), (false, [.bool])]⟩
def an82 : Ann where
  res := fun _ => none
  lend := fun _ => false
  sch := fun _ => .done
  lt := fun _ => []
  tup := tups

theorem vc82 (P : Program) (H : Heap) (x : Int) (post : Bool → Heap → Prop) :
  vcFn P tab an82 Tryz.f82 [.int .i64 x] 0 H ⟨false, [(false, [.bool])]⟩ post =
  (  post (!decide (x = x)) H) := by kernel_rfl
theorem slices_isNaN {x : Int} {H : Heap} : ConT Tryz.prog 82 [.int .i64 x] H shB (fun r _ => r = false) := by
  refine con_of_vc (an := an82) (fn := Tryz.f82) mix tabOK Tryz.func82 (by kernel_rfl) (extra := 0) ?_
  rw [vc82]
  simp
def an81 : Ann where
  res := fun _ => none
  lend := fun | 6 => true | 9 => true | _ => false
  sch := fun _ => .done
  lt := fun _ => []
  tup := tups

theorem vc81 (P : Program) (H : Heap) (x : Int) (y : Int) (post : Bool → Heap → Prop) :
  vcFn P tab an81 Tryz.f81 [.int .i64 x, .int .i64 y] 0 H ⟨false, [(false, [.bool])]⟩ post =
  (  ∃ (post0 : Bool → Heap → Prop), ConT P 89 [.int .i64 x] H ⟨false, [(false, [.bool])]⟩ post0 ∧ ∀ (H1 : Heap), Heap.le H H1 → ∀ (b3 : Bool), post0 b3 H1 → (b3 = true → ∃ (post6 : Bool → Heap
  → Prop), ConT P 89 [.int .i64 y] H1 ⟨false, [(false, [.bool])]⟩ post6 ∧ ∀ (H7 : Heap), Heap.le H1 H7 → ∀ (b9 : Bool), post6 b9 H7 → ((!b9) = true → post true H7) ∧ ((!b9) = false → post
  (decide (x < y)) H7)) ∧ (b3 = false → post (decide (x < y)) H1)) := by kernel_rfl
theorem cmp_Less {x y : Int} {H : Heap} : ConT Tryz.prog 81 [.int .i64 x, .int .i64 y] H shB (fun r _ => r = decide (x < y)) := by
  refine con_of_vc (an := an81) (fn := Tryz.f81) mix tabOK Tryz.func81 (by kernel_rfl) (extra := 0) ?_
  rw [vc81]
  refine ⟨_, cmp_isNaN, ?_⟩
  rintro H1 _ _ rfl
  refine ⟨fun h => (by cases h), fun _ => rfl⟩
/- where a search ends: what stands there, and ahead of it -/
def BSt (l : List Int) (t i j : Int) : Prop := (∀ x, l[i.toNat - 1]? = some x → 0 < i → x < t) ∧ ∀ x, l[j.toNat]? = some x → t ≤ x
def an51 : Ann where
  res := fun _ => none
  lend := fun | 27 => true | 47 => true | 50 => true | _ => false
  sch := fun _ => .done
  lt := fun | 3 => [.slot 7 false [.int .i64], .slot 8 false [.int .i64]] | _ => []
  tup := tups

theorem vc51 (P : Program) (H : Heap) (xA : Option Addr) (xN xC : Nat) (target : Int) (post : Int → Bool → Heap → Prop) :
  vcFn P tab an51 Tryz.f51 [.slice xA xN xC, .int .i64 target] 0 H ⟨true, [(false, [.int .i64]), (false, [.bool])]⟩ post =
  (  ∃ (inv0 : Int → Int → Heap → Prop), ∃ (m1 : Int → Int → Nat), inv0 (0 : Int) (↑xN : Int) H ∧ ∀ (H2 : Heap), Heap.le H H2 → ∀ (n4 n5 : Int), inv0 n4 n5 H2 → (decide (n4 < n5) = true → rng
  .i64 (n4 + n5) ∧ ∃ (e8 : Int), IntKind.wrap IntKind.u64 (n4 + n5) = e8 ∧ (1 : Int) = (1 : Int) ∧ ∃ (e9 : Int), IntKind.wrap IntKind.i64 (Int.fdiv e8 (2 : Int)) = e9 ∧ someA xA ∧ (0 : Int) ≤
  e9 ∧ e9 < (↑xN : Int) ∧ ∃ (n10 : Int), Cells H2 xA (Int.toNat e9 * 1) [.int .i64 n10] ∧ ∃ (post11 : Bool → Heap → Prop), ConT P 81 [.int .i64 n10, .int .i64 target] H2 ⟨false, [(false,
  [.bool])]⟩ post11 ∧ ∀ (H12 : Heap), Heap.le H2 H12 → ∀ (b14 : Bool), post11 b14 H12 → (b14 = true → rng .i64 (e9 + (1 : Int)) ∧ inv0 (e9 + (1 : Int)) n5 H12 ∧ m1 (e9 + (1 : Int)) n5 < m1 n4
  n5) ∧ (b14 = false → inv0 n4 e9 H12 ∧ m1 n4 e9 < m1 n4 n5)) ∧ (decide (n4 < n5) = false → (decide (n4 < (↑xN : Int)) = true → someA xA ∧ (0 : Int) ≤ n4 ∧ n4 < (↑xN : Int) ∧ ∃ (n20 : Int),
  Cells H2 xA (Int.toNat n4 * 1) [.int .i64 n20] ∧ (decide (n20 = target) = true → post n4 true H2) ∧ (decide (n20 = target) = false → someA xA ∧ (0 : Int) ≤ n4 ∧ n4 < (↑xN : Int) ∧ ∃ (n23 :
  Int), Cells H2 xA (Int.toNat n4 * 1) [.int .i64 n23] ∧ ∃ (post24 : Bool → Heap → Prop), ConT P 82 [.int .i64 n23] H2 ⟨false, [(false, [.bool])]⟩ post24 ∧ ∀ (H25 : Heap), Heap.le H2 H25 → ∀
  (b27 : Bool), post24 b27 H25 → (b27 = true → ∃ (post30 : Bool → Heap → Prop), ConT P 82 [.int .i64 target] H25 ⟨false, [(false, [.bool])]⟩ post30 ∧ ∀ (H31 : Heap), Heap.le H25 H31 → ∀ (b33
  : Bool), post30 b33 H31 → post n4 b33 H31) ∧ (b27 = false → post n4 false H25))) ∧ (decide (n4 < (↑xN : Int)) = false → post n4 false H2))) := by kernel_rfl
theorem BinarySearch_Int {H : Heap} {A : Option Addr} {n c : Nat} {l : List Int} {t : Int} (hs : Sl H A n c l) :
    ConT Tryz.prog 51 [.slice A n c, .int .i64 t] H shIB (fun i b _ => 0 ≤ i ∧ i ≤ n ∧ BSt l t i i ∧ b = decide (l[i.toNat]? = some t)) := by
  refine con_of_vc (an := an51) (fn := Tryz.f51) mix tabOK Tryz.func51 (by kernel_rfl) (extra := 0) ?_
  rw [vc51]
  have hb := hs.bn; have hl := hs.len
  refine ⟨fun i j _ => 0 ≤ i ∧ i ≤ j ∧ j ≤ n ∧ BSt l t i j, fun i j => (j - i).toNat, ⟨by omega, by omega, by omega, fun x _ h => by omega, fun x h => by rw [List.getElem?_eq_none (by omega)] at h; cases h⟩, ?_⟩
  rintro H2 hle i j ⟨h0, hij, hjn, p1, p2⟩
  refine ⟨fun hlt => ?_, fun hge => ?_⟩
  · have hlt := of_decide_eq_true hlt
    refine ⟨by simp only [rng]; omega, _, half_u (by omega) (by omega), rfl, (i + j) / 2, half_i (by omega) (by omega), ?_⟩
    obtain ⟨m, hm⟩ : ∃ m, m = (i + j) / 2 := ⟨_, rfl⟩
    rw [← hm]
    have hm1 : i ≤ m ∧ m < j := by omega
    clear hm
    obtain ⟨hi, hA, _, hc, ⟨rfl, hr⟩⟩ := hs.at hle (i := m) (by omega) (by omega)
    have hget : l[m.toNat]? = some l[m.toNat] := List.getElem?_eq_getElem hi
    refine ⟨hA, by omega, by omega, _, hc, _, cmp_Less, ?_⟩
    rintro H12 l12 _ rfl
    refine ⟨fun h => ?_, fun h => ?_⟩
    · have h := of_decide_eq_true h
      refine ⟨by simp only [rng]; omega, ⟨by omega, by omega, hjn, fun x hx _ => ?_, p2⟩, by dsimp only; omega⟩
      rw [show (m + 1).toNat - 1 = m.toNat by omega, hget] at hx
      cases hx; exact h
    · have h := of_decide_eq_false h
      refine ⟨⟨h0, by omega, by omega, p1, fun x hx => ?_⟩, by dsimp only; omega⟩
      rw [hget] at hx; cases hx; omega
  · have hge := of_decide_eq_false hge
    obtain rfl : i = j := by omega
    refine ⟨fun hlt => ?_, fun hge2 => ?_⟩
    · have hlt := of_decide_eq_true hlt
      obtain ⟨hi, hA, _, hc, ⟨rfl, hr⟩⟩ := hs.at hle h0 hlt
      have hget : l[i.toNat]? = some l[i.toNat] := List.getElem?_eq_getElem hi
      refine ⟨hA, h0, hlt, _, hc, fun he => ?_, fun hne => ?_⟩
      · have he := of_decide_eq_true he
        exact ⟨h0, by omega, ⟨p1, p2⟩, by rw [hget, he]; simp⟩
      · have hne := of_decide_eq_false hne
        refine ⟨hA, h0, hlt, _, hc, _, slices_isNaN, ?_⟩
        rintro H25 l25 _ rfl
        refine ⟨fun h => (by cases h), fun _ => ⟨h0, by omega, ⟨p1, p2⟩, ?_⟩⟩
        rw [hget]; simp [hne]
    · have hge2 := of_decide_eq_false hge2
      refine ⟨h0, by omega, ⟨p1, p2⟩, ?_⟩
      rw [List.getElem?_eq_none (by omega)]; simp
def an52 : Ann where
  res := fun _ => none
  lend := fun _ => false
  sch := fun _ => .done
  lt := fun _ => []
  tup := tups

theorem vc52 (P : Program) (H : Heap) (rValsA : Option Addr) (rValsN rValsC : Nat) (rLineageA : Option Addr) (rLineageN rLineageC : Nat) (pFrom : Int) (pTo : Int) (post : Option Addr → Nat → Nat → Int → Int → Option Addr → Nat → Nat → Heap → Prop) :
  vcFn P tab an52 Tryz.f52 [.agg #[.slice rValsA rValsN rValsC, .slice rLineageA rLineageN rLineageC], .agg #[.int .i64 pFrom, .int .i64 pTo]] 0 H ⟨false, [(true, [.sl, .int .i64, .int .i64, .sl])]⟩ post =
  (  ∃ (post0 : Option Addr → Nat → Nat → Option Addr → Nat → Nat → Heap → Prop), ConT P 75 [.agg ⟨[.slice rValsA rValsN rValsC, .slice rLineageA rLineageN rLineageC]⟩] H ⟨false, [(true, [.sl,
  .sl])]⟩ post0 ∧ ∀ (H1 : Heap), Heap.le H H1 → ∀ (A3 : Option Addr) (n4 c5 : Nat) (A6 : Option Addr) (n7 c8 : Nat), post0 A3 n4 c5 A6 n7 c8 H1 → post A3 n4 c5 pFrom pTo A6 n7 c8 H1) := by kernel_rfl
theorem tuple_During {H : Heap} {A B : Option Addr} {n c m d : Nat} {lo hi : Int} {vals : List Val} {lin : List Int} (h1 : Sl H A n c vals) (h2 : Sl H B m d lin) (r1 : rng .i64 lo) (r2 : rng .i64 hi) :
    ConT Tryz.prog 52 [.agg ⟨[.slice A n c, .slice B m d]⟩, .agg ⟨[.int .i64 lo, .int .i64 hi]⟩] H ⟨false, [(true, [.sl, .int .i64, .int .i64, .sl])]⟩ (fun A n c lo' hi' B m d H' => Rep.rel H' [.slice A n c, .int .i64 lo', .int .i64 hi', .slice B m d] (⟨vals, ⟨lo, hi⟩, lin⟩ : Tup)) := by
  refine con_of_vc (an := an52) (fn := Tryz.f52) mix tabOK Tryz.func52 (by kernel_rfl) (extra := 0) ?_
  rw [vc52]
  refine ⟨_, bag_Clone (r := ⟨vals, lin⟩) h1 h2, ?_⟩
  rintro H1 l1 A3 n4 c5 A6 n7 c8 ⟨_, _, _, _, _, _, e, q1, q2⟩
  simp only [List.cons.injEq, Value.slice.injEq, and_true] at e
  obtain ⟨⟨rfl, rfl, rfl⟩, rfl, rfl, rfl⟩ := e
  exact ⟨_, _, _, _, _, _, rfl, q1, r1, r2, q2⟩
def partT (t : Tup) (p : Per) : Tup := ⟨t.vals, p, t.lin⟩
theorem split_room {n m : Nat} {k i : Int} (hn : n ≤ 1000) (hm : m ≤ 1000) (h0 : 0 ≤ i) (hi : i < n) (hk : k ≤ i * (m + 1) + m) : (k + 1) * 64 ≤ 140737488355328 := by
  have : i * ((m : Int) + 1) ≤ 1000 * 1001 := Int.mul_le_mul (by omega) (by omega) (by omega) (by omega)
  omega
def an25 : Ann where
  res := fun _ => none
  lend := fun | 24 => true | _ => false
  sch := fun | 17 => (tk [0, 1, 3, 4, 5, 6, 7] (.alt 2 (.alt 8 (.alt 9 (.alt 10 (tk [11] .done) .fin) .fin) .fin) .fin)) | _ => .done
  lt := fun | 4 => [.slot 5 false [.row 76 57], .slot 18 false [.int .i64]] | 10 => [.slot 5 false [.row 77 57], .slot 8 false [.int .i64], .slot 40 false [.int .i64]] | _ => []
  tup := tups

theorem vc25 (P : Program) (H : Heap) (tuplesA : Option Addr) (tuplesN tuplesC : Nat) (p1A : Option Addr) (p1N p1C : Nat) (post : Option Addr → Nat → Nat → Heap → Prop) :
  vcFn P tab an25 Tryz.f25 [.slice tuplesA tuplesN tuplesC, .slice p1A p1N p1C] 2 H ⟨false, [(false, [.sl])]⟩ post =
  (  ∃ (post0 : Value → Heap → Prop), ConT P 49 [.slice p1A p1N p1C] H ⟨false, [(false, [.val])]⟩ post0 ∧ ∀ (H1 : Heap), Heap.le H H1 → ∀ (v3 : Value), post0 v3 H1 → ∃ (post5 : Option Addr → Nat
  → Nat → Heap → Prop), ConT P 48 [v3] H1 ⟨false, [(false, [.sl])]⟩ post5 ∧ ∀ (H6 : Heap), Heap.le H1 H6 → ∀ (A8 : Option Addr) (n9 c10 : Nat), post5 A8 n9 c10 H6 → ∃ (inv12 : Nat → List
  Value → Int → Heap → Prop), ∃ (m13 : Nat → List Value → Int → Nat), inv12 0 [] (0 : Int) H6 ∧ ∀ (H14 : Heap), Heap.le H6 H14 → ∀ (n16 : Nat) (xs17 : List Value) (n18 : Int), inv12 n16 xs17
  n18 H14 → (decide (n18 < (↑tuplesN : Int)) = true → someA tuplesA ∧ (0 : Int) ≤ n18 ∧ n18 < (↑tuplesN : Int) ∧ ∃ (A21 : Option Addr), ∃ (n22 : Nat), ∃ (c23 : Nat), ∃ (n24 : Int), ∃ (n25 :
  Int), ∃ (A26 : Option Addr), ∃ (n27 : Nat), ∃ (c28 : Nat), Cells H14 tuplesA (Int.toNat n18 * 4) [.slice A21 n22 c23, .int .i64 n24, .int .i64 n25, .slice A26 n27 c28] ∧ ∃ (post29 : Bool →
  Heap → Prop), ConT P 50 [.agg ⟨[.int .i64 n24, .int .i64 n25]⟩] H14 ⟨false, [(false, [.bool])]⟩ post29 ∧ ∀ (H30 : Heap), Heap.le H14 H30 → ∀ (b32 : Bool), post29 b32 H30 → ((!b32) = true →
  rng .i64 (n18 + (1 : Int)) ∧ inv12 n16 xs17 (n18 + (1 : Int)) H30 ∧ m13 n16 xs17 (n18 + (1 : Int)) < m13 n16 xs17 n18) ∧ ((!b32) = false → rng .i64 (n24 + (1 : Int)) ∧ ∃ (post36 : Int →
  Bool → Heap → Prop), ConT P 51 [.slice A8 n9 c10, .int .i64 (n24 + (1 : Int))] H30 ⟨true, [(false, [.int .i64]), (false, [.bool])]⟩ post36 ∧ ∀ (H37 : Heap), Heap.le H30 H37 → ∀ (n39 : Int)
  (b40 : Bool), post36 n39 b40 H37 → (0 : Int) ≤ n39 ∧ n39 ≤ (↑n9 : Int) ∧ (↑n9 : Int) ≤ (↑c10 : Int) ∧ ∀ (A42 : Option Addr), A42 = subA A8 c10 (Int.toNat n39) 1 → ∃ (inv44 : Nat → List
  Value → Int → Int → Heap → Prop), ∃ (m45 : Nat → List Value → Int → Int → Nat), inv44 n16 xs17 n24 (0 : Int) H37 ∧ ∀ (H46 : Heap), Heap.le H37 H46 → ∀ (n48 : Nat) (xs49 : List Value) (n50
  n51 : Int), inv44 n48 xs49 n50 n51 H46 → (decide (n51 < (↑(Int.toNat (↑n9 : Int) - Int.toNat n39) : Int)) = true → someA A42 ∧ (0 : Int) ≤ n51 ∧ n51 < (↑(Int.toNat (↑n9 : Int) - Int.toNat
  n39) : Int) ∧ ∃ (n54 : Int), Cells H46 A42 (Int.toNat n51 * 1) [.int .i64 n54] ∧ (decide (n25 ≤ n54) = true → ∃ (post56 : Option Addr → Nat → Nat → Option Addr → Nat → Nat → Heap → Prop),
  ConT P 43 [.agg ⟨[.slice A21 n22 c23, .int .i64 n24, .int .i64 n25, .slice A26 n27 c28]⟩] H46 ⟨false, [(true, [.sl, .sl])]⟩ post56 ∧ ∀ (H57 : Heap), Heap.le H46 H57 → ∀ (A59 : Option Addr)
  (n60 c61 : Nat) (A62 : Option Addr) (n63 c64 : Nat), post56 A59 n60 c61 A62 n63 c64 H57 → ∃ (post66 : Option Addr → Nat → Nat → Int → Int → Option Addr → Nat → Nat → Heap → Prop), ConT P 52
  [.agg ⟨[.slice A59 n60 c61, .slice A62 n63 c64]⟩, .agg ⟨[.int .i64 n50, .int .i64 n25]⟩] H57 ⟨false, [(true, [.sl, .int .i64, .int .i64, .sl])]⟩ post66 ∧ ∀ (H67 : Heap), Heap.le H57 H67 → ∀
  (A69 : Option Addr) (n70 c71 : Nat) (n72 n73 : Int) (A74 : Option Addr) (n75 c76 : Nat), post66 A69 n70 c71 n72 n73 A74 n75 c76 H67 → (n48 + 1) * 64 ≤ 140737488355328 ∧ rng .i64 (n18 + (1 :
  Int)) ∧ inv12 (n48 + 1) (xs49 ++ [.slice A69 n70 c71, .int .i64 n72, .int .i64 n73, .slice A74 n75 c76]) (n18 + (1 : Int)) H67 ∧ m13 (n48 + 1) (xs49 ++ [.slice A69 n70 c71, .int .i64 n72,
  .int .i64 n73, .slice A74 n75 c76]) (n18 + (1 : Int)) < m13 n16 xs17 n18) ∧ (decide (n25 ≤ n54) = false → (decide (n50 < n54) = true → ∃ (post80 : Option Addr → Nat → Nat → Option Addr →
  Nat → Nat → Heap → Prop), ConT P 43 [.agg ⟨[.slice A21 n22 c23, .int .i64 n24, .int .i64 n25, .slice A26 n27 c28]⟩] H46 ⟨false, [(true, [.sl, .sl])]⟩ post80 ∧ ∀ (H81 : Heap), Heap.le H46
  H81 → ∀ (A83 : Option Addr) (n84 c85 : Nat) (A86 : Option Addr) (n87 c88 : Nat), post80 A83 n84 c85 A86 n87 c88 H81 → ∃ (post90 : Option Addr → Nat → Nat → Int → Int → Option Addr → Nat →
  Nat → Heap → Prop), ConT P 52 [.agg ⟨[.slice A83 n84 c85, .slice A86 n87 c88]⟩, .agg ⟨[.int .i64 n50, .int .i64 n54]⟩] H81 ⟨false, [(true, [.sl, .int .i64, .int .i64, .sl])]⟩ post90 ∧ ∀
  (H91 : Heap), Heap.le H81 H91 → ∀ (A93 : Option Addr) (n94 c95 : Nat) (n96 n97 : Int) (A98 : Option Addr) (n99 c100 : Nat), post90 A93 n94 c95 n96 n97 A98 n99 c100 H91 → (n48 + 1) * 64 ≤
  140737488355328 ∧ rng .i64 (n51 + (1 : Int)) ∧ inv44 (n48 + 1) (xs49 ++ [.slice A93 n94 c95, .int .i64 n96, .int .i64 n97, .slice A98 n99 c100]) n54 (n51 + (1 : Int)) H91 ∧ m45 (n48 + 1)
  (xs49 ++ [.slice A93 n94 c95, .int .i64 n96, .int .i64 n97, .slice A98 n99 c100]) n54 (n51 + (1 : Int)) < m45 n48 xs49 n50 n51) ∧ (decide (n50 < n54) = false → rng .i64 (n51 + (1 : Int)) ∧
  inv44 n48 xs49 n50 (n51 + (1 : Int)) H46 ∧ m45 n48 xs49 n50 (n51 + (1 : Int)) < m45 n48 xs49 n50 n51))) ∧ (decide (n51 < (↑(Int.toNat (↑n9 : Int) - Int.toNat n39) : Int)) = false → ∃
  (post104 : Option Addr → Nat → Nat → Option Addr → Nat → Nat → Heap → Prop), ConT P 43 [.agg ⟨[.slice A21 n22 c23, .int .i64 n24, .int .i64 n25, .slice A26 n27 c28]⟩] H46 ⟨false, [(true,
  [.sl, .sl])]⟩ post104 ∧ ∀ (H105 : Heap), Heap.le H46 H105 → ∀ (A107 : Option Addr) (n108 c109 : Nat) (A110 : Option Addr) (n111 c112 : Nat), post104 A107 n108 c109 A110 n111 c112 H105 → ∃
  (post114 : Option Addr → Nat → Nat → Int → Int → Option Addr → Nat → Nat → Heap → Prop), ConT P 52 [.agg ⟨[.slice A107 n108 c109, .slice A110 n111 c112]⟩, .agg ⟨[.int .i64 n50, .int .i64
  n25]⟩] H105 ⟨false, [(true, [.sl, .int .i64, .int .i64, .sl])]⟩ post114 ∧ ∀ (H115 : Heap), Heap.le H105 H115 → ∀ (A117 : Option Addr) (n118 c119 : Nat) (n120 n121 : Int) (A122 : Option
  Addr) (n123 c124 : Nat), post114 A117 n118 c119 n120 n121 A122 n123 c124 H115 → (n48 + 1) * 64 ≤ 140737488355328 ∧ rng .i64 (n18 + (1 : Int)) ∧ inv12 (n48 + 1) (xs49 ++ [.slice A117 n118
  c119, .int .i64 n120, .int .i64 n121, .slice A122 n123 c124]) (n18 + (1 : Int)) H115 ∧ m13 (n48 + 1) (xs49 ++ [.slice A117 n118 c119, .int .i64 n120, .int .i64 n121, .slice A122 n123 c124])
  (n18 + (1 : Int)) < m13 n16 xs17 n18))) ∧ (decide (n18 < (↑tuplesN : Int)) = false → ∀ (A127 : Option Addr) (c128 : Nat) (H129 : Heap), Heap.le H14 H129 → Cells H129 A127 0 xs17 → n16 ≤
  c128 → post A127 n16 c128 H129)) := by kernel_rfl
theorem splitter_SplitAt {H : Heap} {A B : Option Addr} {n c m d : Nat} {l : List Tup} {pts : List Int} (hs : Sl H A n c l) (hp : Sl H B m d pts) (hn : n ≤ 1000) (hm : m ≤ 1000) :
    ConT Tryz.prog 25 [.slice A n c, .slice B m d] H shS (fun A' n' c' H' => ∃ l' : List Tup, Sl H' A' n' c' l' ∧ SplitR l l' ∧ l'.length ≤ l.length * (pts.length + 1)) := by
  refine con_of_vc (an := an25) (fn := Tryz.f25) mix tabOK Tryz.func25 (by kernel_rfl) (extra := 2) ?_
  rw [vc25]
  have hl := hs.len; have hpl := hp.len
  refine ⟨_, slices_Values hp, ?_⟩
  intro H1 l1 v3 hv
  refine ⟨_, slices_Sorted hv (by omega), ?_⟩
  intro H6 l6 A8 n9 c10 hq
  have hql := hq.len
  rw [List.length_mergeSort, hpl] at hql
  subst hql
  refine ⟨fun k xs i H' => 0 ≤ i ∧ i ≤ n ∧ ∃ out : List Tup, Row H' xs out ∧ k = out.length ∧ SplitR (l.take i.toNat) out ∧ (out.length : Int) ≤ i * (m + 1), fun _ _ i => n - i.toNat, ⟨by omega, by omega, [], rfl, rfl, SplitR.nil, by simp⟩, ?_⟩
  rintro H14 l14 k xs i ⟨h0, h1, out, hr, rfl, hsp, hle⟩
  refine ⟨fun hlt => ?_, fun hge => ?_⟩
  · have hlt := of_decide_eq_true hlt
    have hle0 := hle_trans l1 (hle_trans l6 l14)
    obtain ⟨hi, hA, _, hc, ⟨A21, n22, c23, A26, n27, c28, rfl, q1, q2, q3, q4⟩⟩ := hs.at hle0 h0 hlt
    have e1 : (i + 1).toNat = i.toNat + 1 := by omega
    have htk : l.take (i + 1).toNat = l.take i.toNat ++ [l[i.toNat]] := by rw [e1, List.take_succ_eq_append_getElem hi]
    have hmul : (i + 1) * ((m : Int) + 1) = i * (m + 1) + (m + 1) := by rw [Int.add_mul, Int.one_mul]
    refine ⟨hA, h0, hlt, _, _, _, _, _, _, _, _, hc, _, period_Valid, ?_⟩
    rintro H30 l30 _ rfl
    refine ⟨fun hbad => ?_, fun hok => ?_⟩
    · have hbad : pOk l[i.toNat].p = false := by simpa using hbad
      refine ⟨by simp only [rng]; omega, ⟨by omega, by omega, out, hr.mono l30, rfl, ?_, by omega⟩, by dsimp only; omega⟩
      rw [htk]
      have := hsp.append (SplitR.skip hbad SplitR.nil)
      rwa [List.append_nil] at this
    · have hok : pOk l[i.toNat].p = true := by simpa using hok
      have hbd := pOk_iff.1 hok
      have hmx : maxT = 1099511627776 := rfl
      obtain ⟨t, ht⟩ : ∃ t, t = l[i.toNat] := ⟨_, rfl⟩
      rw [← ht] at q1 q2 q3 q4 hbd hok htk ⊢
      refine ⟨by simp only [rng]; omega, _, BinarySearch_Int (hq.mono (hle_trans l14 l30)), ?_⟩
      rintro H37 l37 f b ⟨f0, f1, -, -⟩
      refine ⟨f0, f1, by have := hq.cap; omega, ?_⟩
      rintro A42 rfl
      have hpart := (hq.mono (hle_trans l14 (hle_trans l30 l37))).drop (k := f.toNat) (by omega)
      have hlen2 : ((m : Int).toNat - f.toNat : Nat) = m - f.toNat := by omega
      refine ⟨fun k xs fr j H' => 0 ≤ j ∧ j ≤ (m - f.toNat : Nat) ∧ t.p.lo ≤ fr ∧ fr < t.p.hi ∧ ∃ ps : List Per, Row H' xs (out ++ ps.map (partT t)) ∧ k = out.length + ps.length ∧ chn t.p.lo fr ps ∧ (ps.length : Int) ≤ j, fun _ _ _ j => (m - f.toNat) - j.toNat,
        ⟨by omega, by omega, by omega, by omega, [], by simpa using hr.mono (hle_trans l30 l37), by simp, rfl, by simp⟩, ?_⟩
      rintro H46 l46 k2 xs2 fr j ⟨j0, j1, f2, f3, ps, hr2, rfl, hch, hps⟩
      have hlA := hle_trans l30 (hle_trans l37 l46)
      have add : ∀ {at_ : Int} {H115 : Heap} {A117 : Option Addr} {n118 c119 : Nat} {n120 n121 : Int} {A122 : Option Addr} {n123 c124 : Nat}, Heap.le H46 H115 → Rep.rel H115 [Value.slice A117 n118 c119, .int .i64 n120, .int .i64 n121, .slice A122 n123 c124] (⟨t.vals, ⟨fr, at_⟩, t.lin⟩ : Tup) →
          Row H115 (xs2 ++ [Value.slice A117 n118 c119, .int .i64 n120, .int .i64 n121, .slice A122 n123 c124]) (out ++ (ps ++ [(⟨fr, at_⟩ : Per)]).map (partT t)) := by
        intro at_ H115 A117 n118 c119 n120 n121 A122 n123 c124 lx hx
        rw [List.map_append, ← List.append_assoc]
        exact (hr2.mono lx).append ⟨_, [], rfl, hx, rfl⟩
      have last : ∃ post104, ConT Tryz.prog 43 [.agg ⟨[.slice A21 n22 c23, .int .i64 t.p.lo, .int .i64 t.p.hi, .slice A26 n27 c28]⟩] H46 ⟨false, [(true, [.sl, .sl])]⟩ post104 ∧ ∀ (H105 : Heap), Heap.le H46 H105 → ∀ (A107 : Option Addr) (n108 c109 : Nat) (A110 : Option Addr) (n111 c112 : Nat), post104 A107 n108 c109 A110 n111 c112 H105 →
          ∃ post114, ConT Tryz.prog 52 [.agg ⟨[.slice A107 n108 c109, .slice A110 n111 c112]⟩, .agg ⟨[.int .i64 fr, .int .i64 t.p.hi]⟩] H105 ⟨false, [(true, [.sl, .int .i64, .int .i64, .sl])]⟩ post114 ∧ ∀ (H115 : Heap), Heap.le H105 H115 → ∀ (A117 : Option Addr) (n118 c119 : Nat) (n120 n121 : Int) (A122 : Option Addr) (n123 c124 : Nat), post114 A117 n118 c119 n120 n121 A122 n123 c124 H115 →
            (out.length + ps.length + 1) * 64 ≤ 140737488355328 ∧ rng .i64 (i + 1) ∧ (0 ≤ i + 1 ∧ i + 1 ≤ n ∧ ∃ out' : List Tup, Row H115 (xs2 ++ [Value.slice A117 n118 c119, .int .i64 n120, .int .i64 n121, .slice A122 n123 c124]) out' ∧ out.length + ps.length + 1 = out'.length ∧ SplitR (l.take (i + 1).toNat) out' ∧ (out'.length : Int) ≤ (i + 1) * (m + 1)) ∧ n - (i + 1).toNat < n - i.toNat := by
        refine ⟨_, tuple_Row, ?_⟩
        rintro H105 l105 _ _ _ _ _ _ ⟨rfl, rfl, rfl, rfl, rfl, rfl⟩
        refine ⟨_, tuple_During (q1.mono (hle_trans hlA l105)) (q4.mono (hle_trans hlA l105)) (by simp only [rng]; omega) q3, ?_⟩
        intro H115 l115 A117 n118 c119 n120 n121 A122 n123 c124 hrel
        have hroom := split_room (k := out.length + ps.length) hn hm h0 hlt (by omega)
        refine ⟨by omega, by simp only [rng]; omega, ⟨by omega, by omega, _, add (hle_trans l105 l115) hrel, by simp; omega, ?_, by simp only [List.length_append, List.length_map, List.length_cons, List.length_nil]; omega⟩, by omega⟩
        rw [htk]
        have := hsp.append (SplitR.cons hok (chn_snoc hch f3) SplitR.nil)
        rw [List.append_nil] at this
        exact this
      refine ⟨fun hlt2 => ?_, fun hge2 => last⟩
      have hlt2 := of_decide_eq_true hlt2
      obtain ⟨hi2, hA2, _, hc2, ⟨rfl, q5⟩⟩ := hpart.at (i := j) l46 j0 (by omega)
      obtain ⟨at_, hat⟩ : ∃ at_, at_ = (List.drop f.toNat (pts.mergeSort fun x y => decide (x ≤ y)))[j.toNat] := ⟨_, rfl⟩
      rw [← hat] at hc2 q5
      refine ⟨hA2, j0, by omega, at_, hc2, fun _ => last, fun hin => ?_⟩
      have hin := of_decide_eq_false hin
      refine ⟨fun hgt => ?_, fun hng => ?_⟩
      · have hgt := of_decide_eq_true hgt
        refine ⟨_, tuple_Row, ?_⟩
        rintro H81 l81 _ _ _ _ _ _ ⟨rfl, rfl, rfl, rfl, rfl, rfl⟩
        refine ⟨_, tuple_During (q1.mono (hle_trans hlA l81)) (q4.mono (hle_trans hlA l81)) (by simp only [rng]; omega) q5, ?_⟩
        intro H91 l91 A93 n94 c95 n96 n97 A98 n99 c100 hrel
        have hroom := split_room (k := out.length + ps.length) hn hm h0 hlt (by omega)
        exact ⟨by omega, by simp only [rng]; omega, ⟨by omega, by omega, by omega, by omega, _, add (hle_trans l81 l91) hrel, by simp; omega, chn_snoc hch hgt, by simp; omega⟩, by dsimp only; omega⟩
      · exact ⟨by simp only [rng]; omega, ⟨by omega, by omega, f2, f3, ps, hr2, rfl, hch, by omega⟩, by dsimp only; omega⟩
  · have hge := of_decide_eq_false hge
    intro A127 c128 H129 l129 hc hn'
    obtain rfl : i = n := by omega
    have hroom : (out.length : Int) ≤ 1000 * 1001 := Int.le_trans hle (Int.mul_le_mul (by omega) (by omega) (by omega) (by omega))
    rw [Int.toNat_natCast, List.take_of_length_le (by omega)] at hsp
    refine ⟨out, hr.sl l129 hc rfl hn' (by show out.length * 64 ≤ _; omega) (by omega), hsp, ?_⟩
    have : (out.length : Int) ≤ ((l.length * (pts.length + 1) : Nat) : Int) := by rw [hl, hpl]; simpa using hle
    omega
end Go.Vc
/- KeysSplit: splitting does not change the violations. -/
namespace Go.Vc
open Go Go.Proofs Go.Shelf
theorem tlins_le {k : Nat} : ∀ {l : List Tup}, (∀ t ∈ l, t.lin.length ≤ k) → (tlins l).length ≤ k * l.length
  | [], _ => by simp [tlins]
  | t :: l, h => by
    have h1 := h t (by simp)
    have ih := tlins_le (l := l) fun x hx => h x (by simp [hx])
    have e : tlins (t :: l) = t.lin ++ tlins l := rfl
    rw [e, List.length_append, List.length_cons, Nat.mul_succ]
    omega
theorem lTups_lin1 {l : List U5} {most : Nat} : ∀ t ∈ lTups l most, t.lin.length ≤ 1 := by
  intro t ht
  obtain ⟨x, hx, rfl⟩ := List.mem_map.1 ht
  simp [lTup]
/- sizes of split drawn tuples -/
theorem split_size {l : List U5} {most : Nat} {pts : List Int} {l' : List Tup} (h : SplitR (lTups l most) l') (hl : l'.length ≤ (lTups l most).length * (pts.length + 1)) (hp : pts.length ≤ 20) : l'.length ≤ most * 21 ∧ (tlins l').length ≤ most * 21 := by
  have h1 := lTups_len l most
  have h2 : l'.length ≤ most * 21 := Nat.le_trans hl (Nat.mul_le_mul h1 (by omega))
  refine ⟨h2, Nat.le_trans (tlins_le (k := 1) fun t ht => ?_) (by omega)⟩
  obtain ⟨s, hs, -, e⟩ := split_mem h t ht
  rw [e]; exact lTups_lin1 s hs
end Go.Vc
