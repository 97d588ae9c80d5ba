/- Periods and sets of points: contracts of the small functions. -/
import Derived.Test.YticbeaepmnobnaaD0
import Derived.Test.YticbeaepmnobnaaN2
import Derived.Test.YticbeaepmnobnaaVcQ
import Derived.Test.YticbeaepmnobnaaVcG
set_option linter.unusedSectionVars false
set_option linter.unusedSimpArgs false
set_option linter.unusedVariables false
namespace Go.Vc
open Go Go.Proofs Go.Shelf
def an26 : Ann where
  res := fun _ => none
  lend := fun _ => false
  sch := fun _ => .done
  lt := fun _ => []
  tup := tups

theorem vc26 (P : Program) (H : Heap) (pFrom : Int) (pTo : Int) (post : Bool → Heap → Prop) :
  vcFn P tab an26 Try.f26 [.agg #[.int .i64 pFrom, .int .i64 pTo]] 0 H ⟨false, [(false, [.bool])]⟩ post =
  (  (decide ((0 : Int) ≤ pFrom) = true → (decide (pFrom < pTo) = true → post (decide (pTo ≤ (1099511627776 : Int))) H) ∧ (decide (pFrom < pTo) = false → post false H)) ∧ (decide ((0 : Int) ≤
  pFrom) = false → post false H)) := by kernel_rfl
theorem period_Valid {a b : Int} {H : Heap} : ConT Try.prog 26 [.agg ⟨[.int .i64 a, .int .i64 b]⟩] H shB (fun r _ => r = pOk ⟨a, b⟩) := by
  refine con_of_vc (an := an26) (fn := Try.f26) mix tabOK Try.func26 (by kernel_rfl) (extra := 0) ?_
  rw [vc26]
  grind [pOk]
def an27 : Ann where
  res := fun _ => none
  lend := fun _ => false
  sch := fun _ => .done
  lt := fun _ => []
  tup := tups

theorem vc27 (P : Program) (H : Heap) (pFrom : Int) (pTo : Int) (post : Bool → Heap → Prop) :
  vcFn P tab an27 Try.f27 [.agg #[.int .i64 pFrom, .int .i64 pTo]] 0 H ⟨false, [(false, [.bool])]⟩ post =
  (  (decide ((0 : Int) ≤ pFrom) = true → (decide (pFrom < pTo) = true → post (decide (pTo ≤ (1099511627776 : Int))) H) ∧ (decide (pFrom < pTo) = false → post false H)) ∧ (decide ((0 : Int) ≤
  pFrom) = false → post false H)) := by kernel_rfl
theorem ref1_Valid {a b : Int} {H : Heap} : ConT Try.prog 27 [.agg ⟨[.int .i64 a, .int .i64 b]⟩] H shB (fun r _ => r = pOk ⟨a, b⟩) := by
  refine con_of_vc (an := an27) (fn := Try.f27) mix tabOK Try.func27 (by kernel_rfl) (extra := 0) ?_
  rw [vc27]
  grind [pOk]
def an24 : Ann where
  res := fun _ => none
  lend := fun | 6 => true | _ => false
  sch := fun _ => .done
  lt := fun _ => []
  tup := tups

theorem vc24 (P : Program) (H : Heap) (pFrom : Int) (pTo : Int) (t : Int) (post : Bool → Heap → Prop) :
  vcFn P tab an24 Try.f24 [.agg #[.int .i64 pFrom, .int .i64 pTo], .int .i64 t] 0 H ⟨false, [(false, [.bool])]⟩ post =
  (  ∃ (post0 : Bool → Heap → Prop), ConT P 26 [.agg ⟨[.int .i64 pFrom, .int .i64 pTo]⟩] H ⟨false, [(false, [.bool])]⟩ post0 ∧ ∀ (H1 : Heap), Heap.le H H1 → ∀ (b3 : Bool), post0 b3 H1 → (b3 =
  true → (decide (pFrom ≤ t) = true → post (decide (t < pTo)) H1) ∧ (decide (pFrom ≤ t) = false → post false H1)) ∧ (b3 = false → post false H1)) := by kernel_rfl
theorem period_Includes {a b t : Int} {H : Heap} : ConT Try.prog 24 [.agg ⟨[.int .i64 a, .int .i64 b]⟩, .int .i64 t] H shB (fun r _ => r = pIn ⟨a, b⟩ t) := by
  refine con_of_vc (an := an24) (fn := Try.f24) mix tabOK Try.func24 (by kernel_rfl) (extra := 0) ?_
  rw [vc24]
  refine ⟨_, period_Valid, ?_⟩
  rintro H1 _ _ rfl
  grind [pIn]
def an33 : Ann where
  res := fun _ => none
  lend := fun | 19 => true | 23 => true | _ => false
  sch := fun _ => .done
  lt := fun _ => []
  tup := tups

theorem vc33 (P : Program) (H : Heap) (aFrom : Int) (aTo : Int) (bFrom : Int) (bTo : Int) (post : Int → Int → Bool → Heap → Prop) :
  vcFn P tab an33 Try.f33 [.agg #[.int .i64 aFrom, .int .i64 aTo], .agg #[.int .i64 bFrom, .int .i64 bTo]] 0 H ⟨true, [(true, [.int .i64, .int .i64]), (false, [.bool])]⟩ post =
  (  ∃ (post0 : Bool → Heap → Prop), ConT P 26 [.agg ⟨[.int .i64 aFrom, .int .i64 aTo]⟩] H ⟨false, [(false, [.bool])]⟩ post0 ∧ ∀ (H1 : Heap), Heap.le H H1 → ∀ (b3 : Bool), post0 b3 H1 → ((!b3) =
  true → post (0 : Int) (0 : Int) false H1) ∧ ((!b3) = false → ∃ (post7 : Bool → Heap → Prop), ConT P 26 [.agg ⟨[.int .i64 bFrom, .int .i64 bTo]⟩] H1 ⟨false, [(false, [.bool])]⟩ post7 ∧ ∀ (H8
  : Heap), Heap.le H1 H8 → ∀ (b10 : Bool), post7 b10 H8 → ((!b10) = true → post (0 : Int) (0 : Int) false H8) ∧ ((!b10) = false → (decide (min aTo bTo ≤ max aFrom bFrom) = true → post (0 :
  Int) (0 : Int) false H8) ∧ (decide (min aTo bTo ≤ max aFrom bFrom) = false → post (max aFrom bFrom) (min aTo bTo) true H8)))) := by kernel_rfl
theorem period_Intersect {a b c d : Int} {H : Heap} : ConT Try.prog 33 [.agg ⟨[.int .i64 a, .int .i64 b]⟩, .agg ⟨[.int .i64 c, .int .i64 d]⟩] H ⟨true, [(true, [.int .i64, .int .i64]), (false, [.bool])]⟩
    (fun x y r _ => r = perHit ⟨a, b⟩ ⟨c, d⟩ ∧ (r = true → x = (perInt ⟨a, b⟩ ⟨c, d⟩).lo ∧ y = (perInt ⟨a, b⟩ ⟨c, d⟩).hi) ∧ (r = false → x = 0 ∧ y = 0)) := by
  refine con_of_vc (an := an33) (fn := Try.f33) mix tabOK Try.func33 (by kernel_rfl) (extra := 0) ?_
  rw [vc33]
  refine ⟨_, period_Valid, ?_⟩
  rintro H1 _ _ rfl
  refine ⟨fun h => ?_, fun h => ⟨_, period_Valid, ?_⟩⟩
  · grind [perHit]
  rintro H2 _ _ rfl
  grind [perHit, perInt]
def an34 : Ann where
  res := fun _ => none
  lend := fun | 19 => true | 23 => true | _ => false
  sch := fun _ => .done
  lt := fun _ => []
  tup := tups

theorem vc34 (P : Program) (H : Heap) (aFrom : Int) (aTo : Int) (bFrom : Int) (bTo : Int) (post : Int → Int → Bool → Heap → Prop) :
  vcFn P tab an34 Try.f34 [.agg #[.int .i64 aFrom, .int .i64 aTo], .agg #[.int .i64 bFrom, .int .i64 bTo]] 0 H ⟨true, [(true, [.int .i64, .int .i64]), (false, [.bool])]⟩ post =
  (  ∃ (post0 : Bool → Heap → Prop), ConT P 27 [.agg ⟨[.int .i64 aFrom, .int .i64 aTo]⟩] H ⟨false, [(false, [.bool])]⟩ post0 ∧ ∀ (H1 : Heap), Heap.le H H1 → ∀ (b3 : Bool), post0 b3 H1 → ((!b3) =
  true → post (0 : Int) (0 : Int) false H1) ∧ ((!b3) = false → ∃ (post7 : Bool → Heap → Prop), ConT P 27 [.agg ⟨[.int .i64 bFrom, .int .i64 bTo]⟩] H1 ⟨false, [(false, [.bool])]⟩ post7 ∧ ∀ (H8
  : Heap), Heap.le H1 H8 → ∀ (b10 : Bool), post7 b10 H8 → ((!b10) = true → post (0 : Int) (0 : Int) false H8) ∧ ((!b10) = false → (decide (min aTo bTo ≤ max aFrom bFrom) = true → post (0 :
  Int) (0 : Int) false H8) ∧ (decide (min aTo bTo ≤ max aFrom bFrom) = false → post (max aFrom bFrom) (min aTo bTo) true H8)))) := by kernel_rfl
theorem ref1_Intersect {a b c d : Int} {H : Heap} : ConT Try.prog 34 [.agg ⟨[.int .i64 a, .int .i64 b]⟩, .agg ⟨[.int .i64 c, .int .i64 d]⟩] H ⟨true, [(true, [.int .i64, .int .i64]), (false, [.bool])]⟩
    (fun x y r _ => r = perHit ⟨a, b⟩ ⟨c, d⟩ ∧ (r = true → x = (perInt ⟨a, b⟩ ⟨c, d⟩).lo ∧ y = (perInt ⟨a, b⟩ ⟨c, d⟩).hi) ∧ (r = false → x = 0 ∧ y = 0)) := by
  refine con_of_vc (an := an34) (fn := Try.f34) mix tabOK Try.func34 (by kernel_rfl) (extra := 0) ?_
  rw [vc34]
  refine ⟨_, ref1_Valid, ?_⟩
  rintro H1 _ _ rfl
  refine ⟨fun h => ?_, fun h => ⟨_, ref1_Valid, ?_⟩⟩
  · grind [perHit]
  rintro H2 _ _ rfl
  grind [perHit, perInt]
theorem nrmGo_step {h : Int} {p : Per} {r : List Per} : nrmGo h (p :: r) = (pOk p && decide (h < p.lo) && nrmGo p.hi r) := rfl
def an11 : Ann where
  res := fun _ => none
  lend := fun | 13 => true | _ => false
  sch := fun | 4 => (tk [0] (.alt 1 (tk [2, 3, 4, 5, 6, 7, 8, 9, 10, 11, 12, 13, 14, 15, 16, 17] .done) .fin)) | _ => .done
  lt := fun | 2 => [.slot 7 false [.int .i64]] | _ => []
  tup := tups

theorem vc11 (P : Program) (H : Heap) (sA : Option Addr) (sN sC : Nat) (post : Bool → Heap → Prop) :
  vcFn P tab an11 Try.f11 [.slice sA sN sC] 0 H ⟨false, [(false, [.bool])]⟩ post =
  (  ∃ (inv0 : Int → Heap → Prop), ∃ (m1 : Int → Nat), inv0 (0 : Int) H ∧ ∀ (H2 : Heap), Heap.le H H2 → ∀ (n4 : Int), inv0 n4 H2 → (decide (n4 < (↑sN : Int)) = true → someA sA ∧ (0 : Int) ≤ n4 ∧
  n4 < (↑sN : Int) ∧ ∃ (n7 : Int), ∃ (n8 : Int), Cells H2 sA (Int.toNat n4 * 2) [.int .i64 n7, .int .i64 n8] ∧ ∃ (post9 : Bool → Heap → Prop), ConT P 26 [.agg ⟨[.int .i64 n7, .int .i64 n8]⟩]
  H2 ⟨false, [(false, [.bool])]⟩ post9 ∧ ∀ (H10 : Heap), Heap.le H2 H10 → ∀ (b12 : Bool), post9 b12 H10 → ((!b12) = true → post false H10) ∧ ((!b12) = false → (decide ((0 : Int) < n4) = true
  → rng .i64 (n4 - (1 : Int)) ∧ someA sA ∧ (0 : Int) ≤ n4 - (1 : Int) ∧ n4 - (1 : Int) < (↑sN : Int) ∧ ∃ (n17 : Int), Cells H10 sA (Int.toNat (n4 - (1 : Int)) * 2 + 1) [.int .i64 n17] ∧
  (decide (n7 ≤ n17) = true → post false H10) ∧ (decide (n7 ≤ n17) = false → rng .i64 (n4 + (1 : Int)) ∧ inv0 (n4 + (1 : Int)) H10 ∧ m1 (n4 + (1 : Int)) < m1 n4)) ∧ (decide ((0 : Int) < n4) =
  false → rng .i64 (n4 + (1 : Int)) ∧ inv0 (n4 + (1 : Int)) H10 ∧ m1 (n4 + (1 : Int)) < m1 n4))) ∧ (decide (n4 < (↑sN : Int)) = false → post true H2)) := by kernel_rfl
theorem periodset_IsNormal {H : Heap} {A : Option Addr} {n c : Nat} {l : List Per} (hs : Sl H A n c l) : ConT Try.prog 11 [.slice A n c] H shB (fun r _ => r = nrm l) := by
  refine con_of_vc (an := an11) (fn := Try.f11) mix tabOK Try.func11 (by kernel_rfl) (extra := 0) ?_
  rw [vc11]
  have b1 := hs.bn; have b2 := hs.len
  refine ⟨fun i _ => 0 ≤ i ∧ i ≤ n ∧ nrm l = nrmGo (if i ≤ 0 then -1 else (l[(i - 1).toNat]?.map (·.hi)).getD 0) (l.drop i.toNat), fun i => n - i.toNat, ⟨by omega, by omega, rfl⟩, ?_⟩
  rintro H2 hle i ⟨h0, h1, h2⟩
  refine ⟨fun hlt => ?_, fun hge => ?_⟩
  · have hlt := of_decide_eq_true hlt
    obtain ⟨hi, hA, _, hc, ⟨rfl, r1, r2⟩⟩ := hs.at hle h0 hlt
    rw [drop_at h0 hi, nrmGo_step] at h2
    have e1 : (if i + 1 ≤ 0 then (-1 : Int) else (l[(i + 1 - 1).toNat]?.map (·.hi)).getD 0) = l[i.toNat].hi := by
      rw [if_neg (by omega), show (i + 1 - 1).toNat = i.toNat by omega, List.getElem?_eq_getElem hi]; rfl
    refine ⟨hA, h0, hlt, _, _, hc, _, period_Valid, ?_⟩
    rintro H3 l3 _ rfl
    refine ⟨fun hf => ?_, fun ht => ⟨fun hp => ?_, fun hp => ?_⟩⟩
    · simp only [Bool.not_eq_true'] at hf
      rw [h2, hf]; rfl
    · have hp := of_decide_eq_true hp
      simp only [Bool.not_eq_false'] at ht
      obtain ⟨ji, jA, _, jc, ⟨rfl, q1, q2⟩⟩ := hs.at (hle_trans hle l3) (i := i - 1) (by omega) (by omega)
      rw [if_neg (by omega), List.getElem?_eq_getElem ji, ht, Bool.true_and] at h2
      simp only [Option.map_some, Option.getD_some] at h2
      refine ⟨by simp only [rng]; omega, jA, by omega, by omega, _, jc.at1 (k := 1) rfl, fun hf => ?_, fun hn => ⟨by simp only [rng]; omega, ⟨by omega, by omega, ?_⟩, by dsimp only; omega⟩⟩
      · have hf := of_decide_eq_true hf
        rw [h2, decide_eq_false (by omega)]; rfl
      · have hn := of_decide_eq_false hn
        rw [e1, h2, decide_eq_true (by omega), Bool.true_and]
    · have hp := of_decide_eq_false hp
      simp only [Bool.not_eq_false'] at ht
      have hlo := (pOk_iff.1 ht).1
      refine ⟨by simp only [rng]; omega, ⟨by omega, by omega, ?_⟩, by dsimp only; omega⟩
      rw [e1, h2, if_pos (by omega), ht, decide_eq_true (by dsimp only at hlo; omega)]; rfl
  · rw [drop_end (of_decide_eq_false hge) b2] at h2
    rw [h2]; rfl
def an12 : Ann where
  res := fun _ => none
  lend := fun | 14 => true | _ => false
  sch := fun | 4 => (tk [0, 1, 2, 3] (.alt 4 (tk [5, 6, 7, 8, 9, 10, 11, 12, 13, 14, 15, 16, 17, 18, 19, 20, 21, 22, 23] .done) .fin)) | _ => .done
  lt := fun | 2 => [.slot 3 false [.int .i64]] | _ => []
  tup := tups

theorem vc12 (P : Program) (H : Heap) (sA : Option Addr) (sN sC : Nat) (post : Bool → Heap → Prop) :
  vcFn P tab an12 Try.f12 [.slice sA sN sC] 0 H ⟨false, [(false, [.bool])]⟩ post =
  (  ∃ (inv0 : Int → Heap → Prop), ∃ (m1 : Int → Nat), inv0 (0 : Int) H ∧ ∀ (H2 : Heap), Heap.le H H2 → ∀ (n4 : Int), inv0 n4 H2 → (decide (n4 < (↑sN : Int)) = true → someA sA ∧ (0 : Int) ≤ n4 ∧
  n4 < (↑sN : Int) ∧ ∃ (n7 : Int), ∃ (n8 : Int), Cells H2 sA (Int.toNat n4 * 2) [.int .i64 n7, .int .i64 n8] ∧ ∃ (post9 : Bool → Heap → Prop), ConT P 27 [.agg ⟨[.int .i64 n7, .int .i64 n8]⟩]
  H2 ⟨false, [(false, [.bool])]⟩ post9 ∧ ∀ (H10 : Heap), Heap.le H2 H10 → ∀ (b12 : Bool), post9 b12 H10 → ((!b12) = true → post false H10) ∧ ((!b12) = false → (decide ((0 : Int) < n4) = true
  → someA sA ∧ (0 : Int) ≤ n4 ∧ n4 < (↑sN : Int) ∧ ∃ (n17 : Int), Cells H10 sA (Int.toNat n4 * 2 + 0) [.int .i64 n17] ∧ rng .i64 (n4 - (1 : Int)) ∧ someA sA ∧ (0 : Int) ≤ n4 - (1 : Int) ∧ n4
  - (1 : Int) < (↑sN : Int) ∧ ∃ (n18 : Int), Cells H10 sA (Int.toNat (n4 - (1 : Int)) * 2 + 1) [.int .i64 n18] ∧ (decide (n17 ≤ n18) = true → post false H10) ∧ (decide (n17 ≤ n18) = false →
  rng .i64 (n4 + (1 : Int)) ∧ inv0 (n4 + (1 : Int)) H10 ∧ m1 (n4 + (1 : Int)) < m1 n4)) ∧ (decide ((0 : Int) < n4) = false → rng .i64 (n4 + (1 : Int)) ∧ inv0 (n4 + (1 : Int)) H10 ∧ m1 (n4 +
  (1 : Int)) < m1 n4))) ∧ (decide (n4 < (↑sN : Int)) = false → post true H2)) := by kernel_rfl
theorem ref1_IsNormal {H : Heap} {A : Option Addr} {n c : Nat} {l : List Per} (hs : Sl H A n c l) : ConT Try.prog 12 [.slice A n c] H shB (fun r _ => r = nrm l) := by
  refine con_of_vc (an := an12) (fn := Try.f12) mix tabOK Try.func12 (by kernel_rfl) (extra := 0) ?_
  rw [vc12]
  have b1 := hs.bn; have b2 := hs.len
  refine ⟨fun i _ => 0 ≤ i ∧ i ≤ n ∧ nrm l = nrmGo (if i ≤ 0 then -1 else (l[(i - 1).toNat]?.map (·.hi)).getD 0) (l.drop i.toNat), fun i => n - i.toNat, ⟨by omega, by omega, rfl⟩, ?_⟩
  rintro H2 hle i ⟨h0, h1, h2⟩
  refine ⟨fun hlt => ?_, fun hge => ?_⟩
  · have hlt := of_decide_eq_true hlt
    obtain ⟨hi, hA, _, hc, ⟨rfl, r1, r2⟩⟩ := hs.at hle h0 hlt
    rw [drop_at h0 hi, nrmGo_step] at h2
    have e1 : (if i + 1 ≤ 0 then (-1 : Int) else (l[(i + 1 - 1).toNat]?.map (·.hi)).getD 0) = l[i.toNat].hi := by
      rw [if_neg (by omega), show (i + 1 - 1).toNat = i.toNat by omega, List.getElem?_eq_getElem hi]; rfl
    refine ⟨hA, h0, hlt, _, _, hc, _, ref1_Valid, ?_⟩
    rintro H3 l3 _ rfl
    refine ⟨fun hf => ?_, fun ht => ⟨fun hp => ?_, fun hp => ?_⟩⟩
    · simp only [Bool.not_eq_true'] at hf
      rw [h2, hf]; rfl
    · have hp := of_decide_eq_true hp
      simp only [Bool.not_eq_false'] at ht
      obtain ⟨ji, jA, _, jc, ⟨rfl, q1, q2⟩⟩ := hs.at (hle_trans hle l3) (i := i - 1) (by omega) (by omega)
      rw [if_neg (by omega), List.getElem?_eq_getElem ji, ht, Bool.true_and] at h2
      simp only [Option.map_some, Option.getD_some] at h2
      have hc3 := hc.mono l3
      have key : ∃ n17 : Int, Cells H3 A (i.toNat * 2 + 0) [.int .i64 n17] ∧ rng .i64 (i - 1) ∧ someA A ∧ 0 ≤ i - 1 ∧ i - 1 < n ∧ ∃ n18 : Int, Cells H3 A ((i - 1).toNat * 2 + 1) [.int .i64 n18] ∧ (decide (n17 ≤ n18) = true → false = nrm l) ∧ (decide (n17 ≤ n18) = false → rng .i64 (i + 1) ∧ (0 ≤ i + 1 ∧ i + 1 ≤ n ∧ nrm l = nrmGo (if i + 1 ≤ 0 then -1 else (l[(i + 1 - 1).toNat]?.map (·.hi)).getD 0) (l.drop (i + 1).toNat)) ∧ n - (i + 1).toNat < n - i.toNat) := by
        refine ⟨_, hc3.at1 (k := 0) rfl, by simp only [rng]; omega, jA, by omega, by omega, _, jc.at1 (k := 1) rfl, fun hf => ?_, fun hn => ⟨by simp only [rng]; omega, ⟨by omega, by omega, ?_⟩, by omega⟩⟩
        · have hf := of_decide_eq_true hf
          rw [h2, decide_eq_false (by omega)]; rfl
        · have hn := of_decide_eq_false hn
          rw [e1, h2, decide_eq_true (by omega), Bool.true_and]
      obtain ⟨n17, a1, a2, a3, a4, a5, n18, a6, a7, a8⟩ := key
      exact ⟨hA, h0, hlt, n17, a1, a2, a3, a4, a5, n18, a6, a7, a8⟩
    · have hp := of_decide_eq_false hp
      simp only [Bool.not_eq_false'] at ht
      have hlo := (pOk_iff.1 ht).1
      refine ⟨by simp only [rng]; omega, ⟨by omega, by omega, ?_⟩, by dsimp only; omega⟩
      rw [e1, h2, if_pos (by omega), ht, decide_eq_true (by dsimp only at hlo; omega)]; rfl
  · rw [drop_end (of_decide_eq_false hge) b2] at h2
    rw [h2]; rfl
def same {T : Type} [DecidableEq T] : List T → List T → Bool := fun a b => decide (a = b)
def an13 : Ann where
  res := fun _ => none
  lend := fun _ => false
  sch := fun | 6 => (tk [0, 1, 2, 3, 4, 5, 6, 7, 8] .done) | _ => .done
  lt := fun | 4 => [.slot 5 false [.int .i64]] | _ => []
  tup := tups

theorem vc13 (P : Program) (H : Heap) (aA : Option Addr) (aN aC : Nat) (bA : Option Addr) (bN bC : Nat) (post : Bool → Heap → Prop) :
  vcFn P tab an13 Try.f13 [.slice aA aN aC, .slice bA bN bC] 0 H ⟨false, [(false, [.bool])]⟩ post =
  (  ((!decide ((↑aN : Int) = (↑bN : Int))) = true → post false H) ∧ ((!decide ((↑aN : Int) = (↑bN : Int))) = false → ∃ (inv2 : Int → Heap → Prop), ∃ (m3 : Int → Nat), inv2 (0 : Int) H ∧ ∀ (H4 :
  Heap), Heap.le H H4 → ∀ (n6 : Int), inv2 n6 H4 → (decide (n6 < (↑aN : Int)) = true → someA aA ∧ (0 : Int) ≤ n6 ∧ n6 < (↑aN : Int) ∧ ∃ (n9 : Int), ∃ (n10 : Int), Cells H4 aA (Int.toNat n6 *
  2) [.int .i64 n9, .int .i64 n10] ∧ someA bA ∧ (0 : Int) ≤ n6 ∧ n6 < (↑bN : Int) ∧ ∃ (n11 : Int), ∃ (n12 : Int), Cells H4 bA (Int.toNat n6 * 2) [.int .i64 n11, .int .i64 n12] ∧ ((!(decide
  (n9 = n11) && decide (n10 = n12))) = true → post false H4) ∧ ((!(decide (n9 = n11) && decide (n10 = n12))) = false → rng .i64 (n6 + (1 : Int)) ∧ inv2 (n6 + (1 : Int)) H4 ∧ m3 (n6 + (1 :
  Int)) < m3 n6)) ∧ (decide (n6 < (↑aN : Int)) = false → post true H4))) := by kernel_rfl
theorem ref1_SamePeriods {H : Heap} {A B : Option Addr} {n c m d : Nat} {l k : List Per} (hs : Sl H A n c l) (ht : Sl H B m d k) : ConT Try.prog 13 [.slice A n c, .slice B m d] H shB (fun r _ => r = decide (l = k)) := by
  refine con_of_vc (an := an13) (fn := Try.f13) mix tabOK Try.func13 (by kernel_rfl) (extra := 0) ?_
  rw [vc13]
  have b1 := hs.bn; have b2 := hs.len; have b3 := ht.bn; have b4 := ht.len
  refine ⟨fun h => ?_, fun h => ?_⟩
  · simp only [Bool.not_eq_true', decide_eq_false_iff_not] at h
    symm; rw [decide_eq_false_iff_not]
    rintro rfl
    omega
  simp only [Bool.not_eq_false', decide_eq_true_eq] at h
  refine ⟨fun i _ => 0 ≤ i ∧ i ≤ n ∧ (decide (l = k) = decide (l.drop i.toNat = k.drop i.toNat)), fun i => n - i.toNat, ⟨by omega, by omega, rfl⟩, ?_⟩
  rintro H2 hle i ⟨h0, h1, h2⟩
  refine ⟨fun hlt => ?_, fun hge => ?_⟩
  · have hlt := of_decide_eq_true hlt
    obtain ⟨hi, hA, _, hc, ⟨rfl, r1, r2⟩⟩ := hs.at hle h0 hlt
    obtain ⟨ji, jA, _, jc, ⟨rfl, q1, q2⟩⟩ := ht.at hle (i := i) h0 (by omega)
    rw [drop_at h0 hi, drop_at h0 ji] at h2
    refine ⟨hA, h0, hlt, _, _, hc, jA, h0, by omega, _, _, jc, fun hf => ?_, fun hn => ⟨by simp only [rng]; omega, ⟨by omega, by omega, ?_⟩, by dsimp only; omega⟩⟩
    · rw [h2]
      symm; rw [decide_eq_false_iff_not]
      intro e
      simp only [List.cons.injEq] at e
      simp [e.1] at hf
    · rw [h2]
      congr 1
      simp only [Bool.not_eq_false', Bool.and_eq_true, decide_eq_true_eq] at hn
      have : l[i.toNat] = k[i.toNat] := by
        cases ha : l[i.toNat]; cases hb : k[i.toNat]; simp_all
      simp [this]
  · rw [drop_end (of_decide_eq_false hge) b2, drop_end (n := m) (by have := of_decide_eq_false hge; omega) b4] at h2
    rw [h2]; simp
def an9 : Ann where
  res := fun _ => none
  lend := fun _ => false
  sch := fun _ => .done
  lt := fun _ => []
  tup := tups

theorem vc9 (P : Program) (H : Heap) (aA : Option Addr) (aN aC : Nat) (bA : Option Addr) (bN bC : Nat) (post : Bool → Heap → Prop) :
  vcFn P tab an9 Try.f9 [.slice aA aN aC, .slice bA bN bC] 0 H ⟨false, [(false, [.bool])]⟩ post =
  (  (decide ((↑aN : Int) ≤ (40 : Int)) = true → post (decide ((↑bN : Int) ≤ (40 : Int))) H) ∧ (decide ((↑aN : Int) ≤ (40 : Int)) = false → post false H)) := by kernel_rfl
theorem law5_few {A B : Option Addr} {n c m d : Nat} {H : Heap} : ConT Try.prog 9 [.slice A n c, .slice B m d] H shB (fun r _ => r = (decide (n ≤ 40) && decide (m ≤ 40))) := by
  refine con_of_vc (an := an9) (fn := Try.f9) mix tabOK Try.func9 (by kernel_rfl) (extra := 0) ?_
  rw [vc9]
  grind
def an42 : Ann where
  res := fun _ => none
  lend := fun | 16 => true | _ => false
  sch := fun _ => .done
  lt := fun | 2 => [.slot 8 false [.int .i64]] | _ => []
  tup := tups

theorem vc42 (P : Program) (H : Heap) (sA : Option Addr) (sN sC : Nat) (fF : FuncId) (fP : Value) (post : Int → Heap → Prop) :
  vcFn P tab an42 Try.f42 [.slice sA sN sC, .func (.func fF) #[] #[fP]] 0 H ⟨false, [(false, [.int .i64])]⟩ post =
  (  ∃ (inv0 : Int → Heap → Prop), ∃ (m1 : Int → Nat), inv0 (0 : Int) H ∧ ∀ (H2 : Heap), Heap.le H H2 → ∀ (n4 : Int), inv0 n4 H2 → (decide (n4 < (↑sN : Int)) = true → someA sA ∧ (0 : Int) ≤ n4 ∧
  n4 < (↑sN : Int) ∧ ∃ (n7 : Int), ∃ (n8 : Int), Cells H2 sA (Int.toNat n4 * 2) [.int .i64 n7, .int .i64 n8] ∧ ∃ (post9 : Bool → Heap → Prop), ConT P fF [.agg ⟨[.int .i64 n7, .int .i64 n8]⟩,
  fP] H2 ⟨false, [(false, [.bool])]⟩ post9 ∧ ∀ (H10 : Heap), Heap.le H2 H10 → ∀ (b12 : Bool), post9 b12 H10 → (b12 = true → post n4 H10) ∧ (b12 = false → rng .i64 (n4 + (1 : Int)) ∧ inv0 (n4
  + (1 : Int)) H10 ∧ m1 (n4 + (1 : Int)) < m1 n4)) ∧ (decide (n4 < (↑sN : Int)) = false → post (-1 : Int) H2)) := by kernel_rfl
theorem IndexFunc_Per {H : Heap} {A : Option Addr} {n c : Nat} {l : List Per} {f : FuncId} {q : Value} {p : Per → Bool} (hs : Sl H A n c l) (hf : PredFn Try.prog Per H f q p) :
    ConT Try.prog 42 [.slice A n c, .func (.func f) #[] #[q]] H shI (fun r _ => r = idxOf p 0 l) := by
  refine con_of_vc (an := an42) (fn := Try.f42) mix tabOK Try.func42 (by kernel_rfl) (extra := 0) ?_
  rw [vc42]
  refine ⟨fun n _ => 0 ≤ n ∧ n ≤ l.length ∧ idxOf p 0 l = idxOf p n (l.drop n.toNat), fun n => l.length - n.toNat, ⟨by omega, by omega, rfl⟩, ?_⟩
  rintro H2 hle i ⟨h0, h1, h2⟩
  simp only [decide_eq_true_eq, decide_eq_false_iff_not]
  refine ⟨fun hlt => ?_, fun hge => ?_⟩
  · obtain ⟨hi, hA, _, hc, hr⟩ := hs.at hle h0 hlt
    have hcon := hf H2 _ _ hle hr
    obtain ⟨rfl, -, -⟩ := hr
    refine ⟨hA, h0, hlt, _, _, hc, _, hcon, ?_⟩
    rintro H3 _ b rfl
    rw [drop_at h0 hi, idxOf] at h2
    refine ⟨fun hp => ?_, fun hp => ⟨?_, ⟨by omega, by omega, ?_⟩, by omega⟩⟩
    · rw [h2, if_pos hp]
    · have := hs.bn; have := hs.len; simp only [rng]; omega
    · rw [h2, if_neg (by simp [hp])]
  · rw [drop_end hge hs.len, idxOf] at h2
    exact h2.symm
def an36 : Ann where
  res := fun _ => none
  lend := fun | 7 => true | _ => false
  sch := fun _ => .done
  lt := fun _ => []
  tup := tups

theorem vc36 (P : Program) (H : Heap) (sA : Option Addr) (sN sC : Nat) (fF : FuncId) (fP : Value) (post : Bool → Heap → Prop) :
  vcFn P tab an36 Try.f36 [.slice sA sN sC, .func (.func fF) #[] #[fP]] 0 H ⟨false, [(false, [.bool])]⟩ post =
  (  ∃ (post0 : Int → Heap → Prop), ConT P 42 [.slice sA sN sC, .func (.func fF) ⟨[]⟩ ⟨[fP]⟩] H ⟨false, [(false, [.int .i64])]⟩ post0 ∧ ∀ (H1 : Heap), Heap.le H H1 → ∀ (n3 : Int), post0 n3 H1 →
  post (decide ((0 : Int) ≤ n3)) H1) := by kernel_rfl
theorem ContainsFunc_Per {H : Heap} {A : Option Addr} {n c : Nat} {l : List Per} {f : FuncId} {q : Value} {p : Per → Bool} (hs : Sl H A n c l) (hf : PredFn Try.prog Per H f q p) :
    ConT Try.prog 36 [.slice A n c, .func (.func f) #[] #[q]] H shB (fun r _ => r = l.any p) := by
  refine con_of_vc (an := an36) (fn := Try.f36) mix tabOK Try.func36 (by kernel_rfl) (extra := 0) ?_
  rw [vc36]
  refine ⟨_, IndexFunc_Per hs hf, ?_⟩
  rintro H1 _ r rfl
  rw [Bool.eq_iff_iff, decide_eq_true_eq]
  exact idxOf_ge p l 0 (by omega)
def growL_Per_ren : Go.Shelf.Ren := ⟨fun | 4 => 41 | n => n, fun | 22 => 22 | 25 => 30 | 3 => 3 | 4 => 4 | 9 => 9 | 20 => 20 | 0 => 0 | 2 => 3 | n => n, fun n => n⟩
theorem growL_Per : Lays8.n4 Try.prog growL_Per_ren where
  mixed := by kernel_rfl
  f4 := ⟨Try.f41.name, by kernel_rfl, Try.func41.trans (congrArg some (by kernel_rfl))⟩
  t0 := Try.underlying0
  a0 := Try.isAgg0
  z0 := Try.sizeOf0
  v0 := Try.zeroValue0
  t3 := Try.underlying3
  a3 := Try.isAgg3
  z3 := Try.sizeOf3
  v3 := Try.zeroValue3
  t4 := Try.underlying4
  a4 := Try.isAgg4
  z4 := Try.sizeOf4
  v4 := Try.zeroValue4
  t9 := Try.underlying9
  a9 := Try.isAgg9
  z9 := Try.sizeOf9
  v9 := Try.zeroValue9
  t20 := Try.underlying20
  a20 := Try.isAgg20
  z20 := Try.sizeOf20
  v20 := Try.zeroValue20
  t22 := Try.underlying22
  a22 := Try.isAgg22
  z22 := Try.sizeOf22
  v22 := Try.zeroValue22
theorem Grow_Per {n : Int} {r : Nat} {H : Heap} (h0 : 0 ≤ n) (hb : n * 16 ≤ 140737488355328) :
    ConT Try.prog 41 [.slice none 0 0, .int .i64 n] H ⟨false, [(false, [.row r 30])]⟩ (fun m xs _ => m = 0 ∧ xs = []) := by
  have h := grow_con (Γ := tab) tabOK growL_Per (j := (tab 30).get rfl) rfl (by decide) (by decide) (n := n.toNat) (r := r) (H := H) (by show n.toNat * 16 ≤ _; omega)
  rw [Int.toNat_of_nonneg h0] at h
  exact h
def an32 : Ann where
  res := fun | 24 => some ⟨false, [(false, [.row 36 30])]⟩ | _ => none
  lend := fun _ => false
  sch := fun _ => .done
  lt := fun | 3 => [.slot 3 false [.int .i64], .slot 11 false [.int .i64]] | 11 => [.slot 6 false [.row 37 30], .slot 27 false [.int .i64]] | _ => []
  tup := tups

theorem vc32 (P : Program) (H : Heap) (slicesA : Option Addr) (slicesN slicesC : Nat) (post : Option Addr → Nat → Nat → Heap → Prop) :
  vcFn P tab an32 Try.f32 [.slice slicesA slicesN slicesC] 2 H ⟨false, [(false, [.sl])]⟩ post =
  (  ∃ (inv0 : Int → Int → Heap → Prop), ∃ (m1 : Int → Int → Nat), inv0 (0 : Int) (0 : Int) H ∧ ∀ (H2 : Heap), Heap.le H H2 → ∀ (n4 n5 : Int), inv0 n4 n5 H2 → (decide (n5 < (↑slicesN : Int)) =
  true → someA slicesA ∧ (0 : Int) ≤ n5 ∧ n5 < (↑slicesN : Int) ∧ ∃ (A8 : Option Addr), ∃ (n9 : Nat), ∃ (c10 : Nat), Cells H2 slicesA (Int.toNat n5 * 1) [.slice A8 n9 c10] ∧ rng .i64 (n4 +
  (↑n9 : Int)) ∧ (decide (n4 + (↑n9 : Int) < (0 : Int)) = true → False) ∧ (decide (n4 + (↑n9 : Int) < (0 : Int)) = false → rng .i64 (n5 + (1 : Int)) ∧ inv0 (n4 + (↑n9 : Int)) (n5 + (1 : Int))
  H2 ∧ m1 (n4 + (↑n9 : Int)) (n5 + (1 : Int)) < m1 n4 n5)) ∧ (decide (n5 < (↑slicesN : Int)) = false → ∃ (post14 : Nat → List Value → Heap → Prop), ConT P 41 [.slice none 0 0, .int .i64 n4]
  H2 ⟨false, [(false, [.row 36 30])]⟩ post14 ∧ ∀ (H15 : Heap), Heap.le H2 H15 → ∀ (n17 : Nat) (xs18 : List Value), post14 n17 xs18 H15 → ∃ (inv20 : Nat → List Value → Int → Heap → Prop), ∃
  (m21 : Nat → List Value → Int → Nat), inv20 n17 xs18 (0 : Int) H15 ∧ ∀ (H22 : Heap), Heap.le H15 H22 → ∀ (n24 : Nat) (xs25 : List Value) (n26 : Int), inv20 n24 xs25 n26 H22 → (decide (n26 <
  (↑slicesN : Int)) = true → someA slicesA ∧ (0 : Int) ≤ n26 ∧ n26 < (↑slicesN : Int) ∧ ∃ (A29 : Option Addr), ∃ (n30 : Nat), ∃ (c31 : Nat), Cells H22 slicesA (Int.toNat n26 * 1) [.slice A29
  n30 c31] ∧ ∃ (ys32 : List Value), Cells H22 A29 0 ys32 ∧ List.length ys32 = n30 * 2 ∧ (n24 + n30) * 16 ≤ 140737488355328 ∧ rng .i64 (n26 + (1 : Int)) ∧ inv20 (n24 + n30) (xs25 ++ ys32) (n26
  + (1 : Int)) H22 ∧ m21 (n24 + n30) (xs25 ++ ys32) (n26 + (1 : Int)) < m21 n24 xs25 n26) ∧ (decide (n26 < (↑slicesN : Int)) = false → ∀ (A34 : Option Addr) (c35 : Nat) (H36 : Heap), Heap.le
  H22 H36 → Cells H36 A34 0 xs25 → n24 ≤ c35 → post A34 n24 c35 H36))) := by kernel_rfl
theorem Concat_Per {H : Heap} {A : Option Addr} {n c : Nat} {ls : List (List Per)} (hs : Sl H A n c ls) (hb : ls.flatten.length * 16 ≤ 140737488355328) :
    ConT Try.prog 32 [.slice A n c] H shS (fun A' n' c' H' => Sl H' A' n' c' ls.flatten) := by
  refine con_of_vc (an := an32) (fn := Try.f32) mix tabOK Try.func32 (by kernel_rfl) (extra := 2) ?_
  rw [vc32]
  have b1 := hs.bn; have b2 := hs.len
  have hle0 : ∀ k, (ls.take k).flatten.length ≤ ls.flatten.length := fun k => by
    have : ls.flatten.length = (ls.take k).flatten.length + (ls.drop k).flatten.length := by rw [← List.length_append, ← List.flatten_append, List.take_append_drop]
    omega
  have hsucc : ∀ {i : Int} (h0 : 0 ≤ i) (hi : i.toNat < ls.length), (ls.take (i + 1).toNat).flatten = (ls.take i.toNat).flatten ++ ls[i.toNat] := fun {i} h0 hi => by
    rw [show (i + 1).toNat = i.toNat + 1 by omega, List.take_succ_eq_append_getElem hi, List.flatten_append]; simp
  refine ⟨fun m i _ => 0 ≤ i ∧ i ≤ n ∧ m = (ls.take i.toNat).flatten.length, fun _ i => n - i.toNat, ⟨by omega, by omega, by simp⟩, ?_⟩
  rintro H2 l2 m i ⟨h0, h1, rfl⟩
  refine ⟨fun hlt => ?_, fun hge => ?_⟩
  · have hlt := of_decide_eq_true hlt
    obtain ⟨hi, hA, _, hc, ⟨A3, n3, c3, rfl, hs3⟩⟩ := hs.at l2 h0 hlt
    have e3 := hs3.len
    have k1 := hle0 (i + 1).toNat
    have k2 := congrArg List.length (hsucc h0 hi)
    rw [List.length_append, e3] at k2
    refine ⟨hA, h0, hlt, _, _, _, hc, by simp only [rng]; omega, fun hf => ?_, fun _ => ⟨by simp only [rng]; omega, ⟨by omega, by omega, by omega⟩, by dsimp only; omega⟩⟩
    have := of_decide_eq_true hf
    omega
  · have hge := of_decide_eq_false hge
    have hall : (ls.take i.toNat).flatten = ls.flatten := by rw [List.take_of_length_le (by omega)]
    rw [hall]
    refine ⟨_, Grow_Per (by omega) (by omega), ?_⟩
    rintro H3 l3 _ _ ⟨rfl, rfl⟩
    refine ⟨fun m xs i H' => 0 ≤ i ∧ i ≤ n ∧ m = (ls.take i.toNat).flatten.length ∧ Row H' xs (ls.take i.toNat).flatten, fun _ _ i => n - i.toNat, ⟨by omega, by omega, by simp, by simp [Row]⟩, ?_⟩
    rintro H4 l4 _ xs j ⟨j0, j1, rfl, hr⟩
    refine ⟨fun hlt => ?_, fun hge => ?_⟩
    · have hlt := of_decide_eq_true hlt
      obtain ⟨hi, hA, _, hc, ⟨A3, n3, c3, rfl, hs3⟩⟩ := hs.at (hle_trans l2 (hle_trans l3 l4)) j0 hlt
      have e3 := hs3.len
      have k1 := hle0 (j + 1).toNat
      have k2 := congrArg List.length (hsucc j0 hi)
      rw [List.length_append, e3] at k2
      obtain ⟨ys, y1, y2⟩ := hs3.row
      refine ⟨hA, j0, hlt, _, _, _, hc, ys, y1, by rw [y2.length, e3]; rfl, by omega, by simp only [rng]; omega, ⟨by omega, by omega, by omega, ?_⟩, by dsimp only; omega⟩
      rw [hsucc j0 hi]
      exact hr.append y2
    · have hge := of_decide_eq_false hge
      intro A5 c5 H5 l5 hc5 hn5
      have hall : (ls.take j.toNat).flatten = ls.flatten := by rw [List.take_of_length_le (by omega)]
      rw [hall] at hr hn5 ⊢
      exact hr.sl l5 hc5 rfl hn5 hb (by omega)
def an37 : Ann where
  res := fun _ => none
  lend := fun | 6 => true | _ => false
  sch := fun _ => .done
  lt := fun _ => []
  tup := tups

theorem vc37 (P : Program) (H : Heap) (pFrom : Int) (pTo : Int) (free0B : Nat) (post : Bool → Heap → Prop) :
  vcFn P tab an37 Try.f37 [.agg #[.int .i64 pFrom, .int .i64 pTo], .pointer (some ⟨free0B, 0, none⟩)] 0 H ⟨false, [(false, [.bool])]⟩ post =
  (  ∃ (n0 : Int), Cells H (some ⟨free0B, 0, none⟩) 0 [.int .i64 n0] ∧ ∃ (post1 : Bool → Heap → Prop), ConT P 24 [.agg ⟨[.int .i64 pFrom, .int .i64 pTo]⟩, .int .i64 n0] H ⟨false, [(false,
  [.bool])]⟩ post1 ∧ ∀ (H2 : Heap), Heap.le H H2 → ∀ (b4 : Bool), post1 b4 H2 → post b4 H2) := by kernel_rfl
theorem periodset_Includes1 {H : Heap} {p : Per} {g : Nat} {x : Int} (h : Cells H (some ⟨g, 0, none⟩) 0 [.int .i64 x]) :
    ConT Try.prog 37 [.agg ⟨[.int .i64 p.lo, .int .i64 p.hi]⟩, .pointer (some ⟨g, 0, none⟩)] H shB (fun b _ => b = pIn p x) := by
  refine con_of_vc (an := an37) (fn := Try.f37) mix tabOK Try.func37 (by kernel_rfl) (extra := 0) ?_
  rw [vc37]
  refine ⟨_, h, _, period_Includes, ?_⟩
  rintro H1 _ _ rfl
  rfl
def an25 : Ann where
  res := fun _ => none
  lend := fun | 7 => true | _ => false
  sch := fun _ => .done
  lt := fun _ => []
  tup := tups

theorem vc25 (P : Program) (H : Heap) (sA : Option Addr) (sN sC : Nat) (t : Int) (post : Bool → Heap → Prop) :
  vcFn P tab an25 Try.f25 [.slice sA sN sC, .int .i64 t] 0 H ⟨false, [(false, [.bool])]⟩ post =
  (  ∃ (post0 : Bool → Heap → Prop), (∀ (g1 : Nat) (H2 : Heap), Heap.le H H2 → Cells H2 (some ⟨g1, 0, none⟩) 0 [.int .i64 t] → ConT P 36 [.slice sA sN sC, .func (.func 37) ⟨[]⟩ ⟨[.pointer (some
  ⟨g1, 0, none⟩)]⟩] H2 ⟨false, [(false, [.bool])]⟩ post0) ∧ ∀ (H5 : Heap) (b6 : Bool), post0 b6 H5 → post b6 H) := by kernel_rfl
theorem periodset_Includes {H : Heap} {A : Option Addr} {n c : Nat} {l : List Per} {t : Int} (hs : Sl H A n c l) : ConT Try.prog 25 [.slice A n c, .int .i64 t] H shB (fun r _ => r = inSet l t) := by
  refine con_of_vc (an := an25) (fn := Try.f25) mix tabOK Try.func25 (by kernel_rfl) (extra := 0) ?_
  rw [vc25]
  refine ⟨_, fun g H2 hle hc => ContainsFunc_Per (hs.mono hle) (p := fun p => pIn p t) fun H3 vs p hle' hr => ?_, ?_⟩
  · obtain ⟨rfl, -, -⟩ := hr
    exact periodset_Includes1 (hc.mono hle')
  rintro H5 r rfl
  rfl
end Go.Vc
