/- The laws' drawn tuples; comparing lists of ints. -/
import Derived.Test.YtkfbbnagniolcaaB7
import Derived.Test.YtkfbbnagniolcaaB9
set_option linter.unusedSectionVars false
set_option linter.unusedSimpArgs false
set_option linter.unusedVariables false
namespace Go.Vc
open Go Go.Proofs Go.Shelf
theorem wrap_i64 {e : Int} (h0 : 0 ≤ e) (h1 : e < 100000) : IntKind.wrap .i64 e = e := by
  simp [IntKind.wrap, IntKind.bits, IntKind.signed]; omega
theorem tmod_bd {x : Int} (h : 0 ≤ x) {m : Int} (hm : 0 < m) : 0 ≤ x.tmod m ∧ x.tmod m < m := by
  rw [Int.tmod_eq_emod_of_nonneg h]
  exact ⟨Int.emod_nonneg _ (by omega), Int.emod_lt_of_pos _ hm⟩
def lPer (a b : Int) : Per := ⟨a.tmod 40, if b.tmod 11 = 0 then 1000000 else a.tmod 40 + 1 + b.tmod 15⟩
theorem lPer_ok {a b : Int} (ha : 0 ≤ a) (hb : 0 ≤ b) : 0 ≤ (lPer a b).lo ∧ (lPer a b).lo < 40 ∧ (lPer a b).lo < (lPer a b).hi ∧ (lPer a b).hi ≤ 1000000 := by
  have h1 := tmod_bd ha (m := 40) (by decide)
  have h2 := tmod_bd hb (m := 15) (by decide)
  unfold lPer
  split <;> simp only <;> omega
def an59 : Ann where
  res := fun _ => none
  lend := fun _ => false
  sch := fun _ => .done
  lt := fun _ => []
  tup := tups

theorem vc59 (P : Program) (H : Heap) (from0 : Int) (length : Int) (post : Int → Int → Heap → Prop) :
  vcFn P tab an59 Try.f59 [.int .u16 from0, .int .u16 length] 0 H ⟨false, [(true, [.int .i64, .int .i64])]⟩ post =
  (  (40 : Int) ≠ (0 : Int) ∧ ∃ (e0 : Int), IntKind.wrap IntKind.i64 (Int.tmod from0 (40 : Int)) = e0 ∧ (11 : Int) ≠ (0 : Int) ∧ (decide (Int.tmod length (11 : Int) = (0 : Int)) = true → post e0
  (1000000 : Int) H) ∧ (decide (Int.tmod length (11 : Int) = (0 : Int)) = false → rng .i64 (e0 + (1 : Int)) ∧ (15 : Int) ≠ (0 : Int) ∧ ∃ (e3 : Int), IntKind.wrap IntKind.i64 (Int.tmod length
  (15 : Int)) = e3 ∧ rng .i64 (e0 + (1 : Int) + e3) ∧ post e0 (e0 + (1 : Int) + e3) H)) := by kernel_rfl
theorem law0_Period {a b : Int} {H : Heap} (ha : 0 ≤ a) (hb : 0 ≤ b) : ConT Try.prog 59 [.int .u16 a, .int .u16 b] H ⟨false, [(true, [.int .i64, .int .i64])]⟩ (fun x y _ => (⟨x, y⟩ : Per) = lPer a b) := by
  refine con_of_vc (an := an59) (fn := Try.f59) mix tabOK Try.func59 (by kernel_rfl) (extra := 0) ?_
  rw [vc59]
  have h1 := tmod_bd ha (m := 40) (by decide)
  have h2 := tmod_bd hb (m := 15) (by decide)
  refine ⟨by decide, _, wrap_i64 h1.1 (by omega), by decide, fun h => ?_, fun h => ⟨by simp only [rng]; omega, by decide, _, wrap_i64 h2.1 (by omega), by simp only [rng]; omega, ?_⟩⟩
  · have h := of_decide_eq_true h
    simp [lPer, h]
  · have h := of_decide_eq_false h
    simp [lPer, h]
structure U5 where
  a : Int
  b : Int
  c : Int
  d : Int
  e : Int
instance : Rep U5 where
  sz := 5
  byt := 10
  rel _ vs v := vs = [.int .u16 v.a, .int .u16 v.b, .int .u16 v.c, .int .u16 v.d, .int .u16 v.e] ∧ rng .u16 v.a ∧ rng .u16 v.b ∧ rng .u16 v.c ∧ rng .u16 v.d ∧ rng .u16 v.e
  mono _ h := h
  len h := by simp [h.1]
  pos := by decide
  bpos := by decide
  one h := by rw [h.1]; simp [Value.oneCell']
def lTup (x : U5) : Tup := ⟨[lv0 x.c, lv1 x.d], lPer x.a x.b, [1 + x.e.tmod 5]⟩
def an20 : Ann where
  res := fun _ => none
  lend := fun _ => false
  sch := fun | 4 => (tk [0, 1, 2, 3, 4, 5, 6, 7, 8] .done) | 6 => (tk [0, 1, 2, 3, 4, 5, 6, 7, 8] .done) | _ => .done
  lt := fun | 2 => [.slot 5 false [.int .i64]] | _ => []
  tup := tups

theorem vc20 (P : Program) (H : Heap) (aA : Option Addr) (aN aC : Nat) (bA : Option Addr) (bN bC : Nat) (post : Int → Heap → Prop) :
  vcFn P tab an20 Try.f20 [.slice aA aN aC, .slice bA bN bC] 0 H ⟨false, [(false, [.int .i64])]⟩ post =
  (  ∃ (inv0 : Int → Heap → Prop), ∃ (m1 : Int → Nat), inv0 (0 : Int) H ∧ ∀ (H2 : Heap), Heap.le H H2 → ∀ (n4 : Int), inv0 n4 H2 → (decide (n4 < (↑aN : Int)) = true → (decide (n4 < (↑bN : Int))
  = true → someA aA ∧ (0 : Int) ≤ n4 ∧ n4 < (↑aN : Int) ∧ ∃ (n8 : Int), Cells H2 aA (Int.toNat n4 * 1) [.int .i64 n8] ∧ someA bA ∧ (0 : Int) ≤ n4 ∧ n4 < (↑bN : Int) ∧ ∃ (n9 : Int), Cells H2
  bA (Int.toNat n4 * 1) [.int .i64 n9] ∧ (decide (n8 < n9) = true → post (-1 : Int) H2) ∧ (decide (n8 < n9) = false → someA aA ∧ (0 : Int) ≤ n4 ∧ n4 < (↑aN : Int) ∧ ∃ (n12 : Int), Cells H2 aA
  (Int.toNat n4 * 1) [.int .i64 n12] ∧ someA bA ∧ (0 : Int) ≤ n4 ∧ n4 < (↑bN : Int) ∧ ∃ (n13 : Int), Cells H2 bA (Int.toNat n4 * 1) [.int .i64 n13] ∧ (decide (n13 < n12) = true → post (1 :
  Int) H2) ∧ (decide (n13 < n12) = false → rng .i64 (n4 + (1 : Int)) ∧ inv0 (n4 + (1 : Int)) H2 ∧ m1 (n4 + (1 : Int)) < m1 n4))) ∧ (decide (n4 < (↑bN : Int)) = false → (decide ((↑aN : Int) <
  (↑bN : Int)) = true → post (-1 : Int) H2) ∧ (decide ((↑aN : Int) < (↑bN : Int)) = false → (decide ((↑bN : Int) < (↑aN : Int)) = true → post (1 : Int) H2) ∧ (decide ((↑bN : Int) < (↑aN :
  Int)) = false → post (0 : Int) H2)))) ∧ (decide (n4 < (↑aN : Int)) = false → (decide ((↑aN : Int) < (↑bN : Int)) = true → post (-1 : Int) H2) ∧ (decide ((↑aN : Int) < (↑bN : Int)) = false →
  (decide ((↑bN : Int) < (↑aN : Int)) = true → post (1 : Int) H2) ∧ (decide ((↑bN : Int) < (↑aN : Int)) = false → post (0 : Int) H2)))) := by kernel_rfl
theorem ref6_CompareInts {H : Heap} {A B : Option Addr} {n c m d : Nat} {a b : List Int} (hs : Sl H A n c a) (ht : Sl H B m d b) :
    ConT Try.prog 20 [.slice A n c, .slice B m d] H shI (fun r _ => r = lexI cmpI a b) := by
  refine con_of_vc (an := an20) (fn := Try.f20) mix tabOK Try.func20 (by kernel_rfl) (extra := 0) ?_
  rw [vc20]
  refine ⟨fun i _ => 0 ≤ i ∧ i ≤ n ∧ i ≤ m ∧ lexI cmpI a b = lexI cmpI (a.drop i.toNat) (b.drop i.toNat), fun i => n - i.toNat, ⟨by omega, by omega, by omega, rfl⟩, ?_⟩
  rintro H2 hle i ⟨h0, h1, h1', h2⟩
  have hb := hs.bn; have hl := hs.len; have hm := ht.len
  refine ⟨fun hlt => ?_, fun hge => ?_⟩
  · have hlt := of_decide_eq_true hlt
    refine ⟨fun hmb => ?_, fun hmb => ?_⟩
    · have hmb := of_decide_eq_true hmb
      obtain ⟨hi, hA, _, hc, ⟨rfl, q⟩⟩ := hs.at hle h0 hlt
      obtain ⟨hj, hB, _, hd, ⟨rfl, q'⟩⟩ := ht.at hle h0 (by omega)
      rw [lexI_step hi hj] at h2
      have e0 : cmpI a[i.toNat] b[i.toNat] = if a[i.toNat] < b[i.toNat] then -1 else if b[i.toNat] < a[i.toNat] then 1 else 0 := rfl
      refine ⟨hA, h0, hlt, _, hc, hB, h0, by omega, _, hd, fun hx => ?_, fun hx => ⟨hA, h0, hlt, _, hc, hB, h0, by omega, _, hd, fun hy => ?_, fun hy => ⟨by simp only [rng]; omega, ⟨by omega, by omega, by omega, ?_⟩, by dsimp only; omega⟩⟩⟩
      · have hx := of_decide_eq_true hx
        rw [h2, e0, if_pos hx]; rfl
      · have hx := of_decide_eq_false hx; have hy := of_decide_eq_true hy
        rw [h2, e0, if_neg hx, if_pos hy]; rfl
      · have hx := of_decide_eq_false hx; have hy := of_decide_eq_false hy
        rw [h2, e0, if_neg hx, if_neg hy, show (i + 1).toNat = i.toNat + 1 by omega]; rfl
    · have hmb := of_decide_eq_false hmb
      rw [lexI_endb (by omega) (by omega)] at h2
      exact ⟨fun h => by have := of_decide_eq_true h; omega, fun h => ⟨fun _ => h2.symm, fun h => by have := of_decide_eq_false h; omega⟩⟩
  · have hge := of_decide_eq_false hge
    rw [lexI_enda (by omega)] at h2
    refine ⟨fun h => ?_, fun h => ⟨fun h' => ?_, fun h' => ?_⟩⟩
    · have := of_decide_eq_true h
      rw [h2, if_pos (by omega)]
    · have := of_decide_eq_false h; have := of_decide_eq_true h'; omega
    · have := of_decide_eq_false h; have := of_decide_eq_false h'
      rw [h2, if_neg (by omega)]
end Go.Vc
