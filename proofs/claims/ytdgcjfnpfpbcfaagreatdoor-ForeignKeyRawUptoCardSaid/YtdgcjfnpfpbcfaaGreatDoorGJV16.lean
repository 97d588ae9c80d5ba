/- The reference's violations of keys: the distinct key values, the tuples of a key. -/
import Derived.Test.YtdgcjfnpfpbcfaaGreatDoorGJV15
import Derived.Test.YtdgcjfnpfpbcfaaGreatDoorGJV2
set_option linter.unusedSectionVars false
set_option linter.unusedSimpArgs false
set_option linter.unusedVariables false
namespace Go.Vc
open Go Go.Proofs Go.Shelf
def an54 : Ann where
  res := fun _ => none
  lend := fun _ => false
  sch := fun _ => .done
  lt := fun | 3 => [.slot 3 false [.row 23 45], .slot 9 false [.int .i64]] | _ => []
  tup := tups

theorem vc54 (P : Program) (H : Heap) (rowsA : Option Addr) (rowsN rowsC : Nat) (post : Option Addr → Nat → Nat → Heap → Prop) :
  vcFn P tab an54 Tryz.f54 [.slice rowsA rowsN rowsC] 1 H ⟨false, [(false, [.sl])]⟩ post =
  (  ∃ (post0 : Option Addr → Nat → Nat → Heap → Prop), ConT P 83 [.slice rowsA rowsN rowsC] H ⟨false, [(false, [.sl])]⟩ post0 ∧ ∀ (H1 : Heap), Heap.le H H1 → ∀ (A3 : Option Addr) (n4 c5 : Nat),
  post0 A3 n4 c5 H1 → ∃ (inv7 : Nat → List Value → Int → Heap → Prop), ∃ (m8 : Nat → List Value → Int → Nat), inv7 0 [] (0 : Int) H1 ∧ ∀ (H9 : Heap), Heap.le H1 H9 → ∀ (n11 : Nat) (xs12 :
  List Value) (n13 : Int), inv7 n11 xs12 n13 H9 → (decide (n13 < (↑n4 : Int)) = true → someA A3 ∧ (0 : Int) ≤ n13 ∧ n13 < (↑n4 : Int) ∧ ∃ (A16 : Option Addr), ∃ (n17 : Nat), ∃ (c18 : Nat), ∃
  (A19 : Option Addr), ∃ (n20 : Nat), ∃ (c21 : Nat), ∃ (A22 : Option Addr), ∃ (n23 : Nat), ∃ (c24 : Nat), Cells H9 A3 (Int.toNat n13 * 3) [.slice A16 n17 c18, .slice A19 n20 c21, .slice A22
  n23 c24] ∧ (n11 + 1) * 48 ≤ 140737488355328 ∧ rng .i64 (n13 + (1 : Int)) ∧ inv7 (n11 + 1) (xs12 ++ [.slice A16 n17 c18, .slice A22 n23 c24]) (n13 + (1 : Int)) H9 ∧ m8 (n11 + 1) (xs12 ++
  [.slice A16 n17 c18, .slice A22 n23 c24]) (n13 + (1 : Int)) < m8 n11 xs12 n13) ∧ (decide (n13 < (↑n4 : Int)) = false → ∀ (A26 : Option Addr) (c27 : Nat) (H28 : Heap), Heap.le H9 H28 → Cells
  H28 A26 0 xs12 → n11 ≤ c27 → post A26 n11 c27 H28)) := by kernel_rfl
theorem ref9_Distinct {H : Heap} {A : Option Addr} {n c : Nat} {l : List Rw} (hs : Sl H A n c l) (hlin : ∀ r ∈ l, r.lin = []) (hb : n * 72 ≤ 140737488355328) :
    ConT Tryz.prog 54 [.slice A n c] H shS (fun A' n' c' H' => ∃ rs : List Rw, Sl H' A' n' c' rs ∧ n' ≤ n ∧ ascV (rs.map (·.vals)) ∧ ∀ v, v ∈ rs.map (·.vals) ↔ ∃ r ∈ l, r.vals = v) := by
  refine con_of_vc (an := an54) (fn := Tryz.f54) mix tabOK Tryz.func54 (by kernel_rfl) (extra := 1) ?_
  rw [vc54]
  refine ⟨_, ref9_runs hs hlin hb, ?_⟩
  rintro H1 l1 A3 n4 c5 ⟨rs, hr, -, hn, ha, hv⟩
  have hl := hr.len
  have hrl : (rs.map fun r => (⟨r.vals, r.lin⟩ : Rw)).map (·.vals) = rs.map (·.vals) := by rw [List.map_map]; rfl
  refine ⟨fun k xs i H' => 0 ≤ i ∧ i ≤ n4 ∧ k = i.toNat ∧ Row H' xs ((rs.take i.toNat).map fun r => (⟨r.vals, r.lin⟩ : Rw)), fun _ _ i => n4 - i.toNat, ⟨by omega, by omega, rfl, rfl⟩, ?_⟩
  rintro H9 l9 k xs i ⟨i0, i1, rfl, hrow⟩
  refine ⟨fun hlt => ?_, fun hge => ?_⟩
  · have hlt := of_decide_eq_true hlt
    obtain ⟨hi, hA, _, hc, ⟨A1, n1, c1, C1, k1, e1, rfl, p1, p2⟩⟩ := hr.at l9 i0 hlt
    refine ⟨hA, i0, hlt, _, _, _, _, _, _, _, _, _, hc, by omega, by simp only [rng]; omega, ⟨by omega, by omega, by omega, ?_⟩, by dsimp only; omega⟩
    rw [show (i + 1).toNat = i.toNat + 1 by omega, List.take_succ_eq_append_getElem hi, List.map_append]
    exact hrow.append (Row.one ⟨_, _, _, _, _, _, rfl, p1, p2⟩)
  · have hge := of_decide_eq_false hge
    intro A2 c2 H2 l2 hc2 hn2
    have hall : rs.take i.toNat = rs := List.take_of_length_le (by omega)
    rw [hall] at hrow
    refine ⟨_, hrow.sl l2 hc2 (by simp; omega) hn2 (by show i.toNat * 48 ≤ _; omega) (by omega), by omega, ?_, ?_⟩
    · rw [hrl]; exact ha
    · rw [hrl]; exact hv
def an53 : Ann where
  res := fun _ => none
  lend := fun _ => false
  sch := fun _ => .done
  lt := fun | 3 => [.slot 5 false [.row 42 80], .slot 6 false [.int .i64]] | _ => []
  tup := tups

theorem vc53 (P : Program) (H : Heap) (valsA : Option Addr) (valsN valsC : Nat) (colsA : Option Addr) (colsN colsC : Nat) (post : Option Addr → Nat → Nat → Heap → Prop) :
  vcFn P tab an53 Tryz.f53 [.slice valsA valsN valsC, .slice colsA colsN colsC] 1 H ⟨false, [(false, [.sl])]⟩ post =
  (  ∃ (inv0 : Nat → List Value → Int → Heap → Prop), ∃ (m1 : Nat → List Value → Int → Nat), inv0 0 [] (0 : Int) H ∧ ∀ (H2 : Heap), Heap.le H H2 → ∀ (n4 : Nat) (xs5 : List Value) (n6 : Int),
  inv0 n4 xs5 n6 H2 → (decide (n6 < (↑colsN : Int)) = true → someA colsA ∧ (0 : Int) ≤ n6 ∧ n6 < (↑colsN : Int) ∧ ∃ (n9 : Int), Cells H2 colsA (Int.toNat n6 * 1) [.int .i64 n9] ∧ (decide ((0
  : Int) ≤ n9) = true → someA colsA ∧ (0 : Int) ≤ n6 ∧ n6 < (↑colsN : Int) ∧ ∃ (n11 : Int), Cells H2 colsA (Int.toNat n6 * 1) [.int .i64 n11] ∧ (decide (n11 < (↑valsN : Int)) = true → someA
  colsA ∧ (0 : Int) ≤ n6 ∧ n6 < (↑colsN : Int) ∧ ∃ (n13 : Int), Cells H2 colsA (Int.toNat n6 * 1) [.int .i64 n13] ∧ someA valsA ∧ (0 : Int) ≤ n13 ∧ n13 < (↑valsN : Int) ∧ ∃ (n14 : Int), ∃
  (n15 : Int), ∃ (s16 : ByteArray), Cells H2 valsA (Int.toNat n13 * 3) [.int .i64 n14, .int .i64 n15, .string s16] ∧ (n4 + 1) * 32 ≤ 140737488355328 ∧ rng .i64 (n6 + (1 : Int)) ∧ inv0 (n4 +
  1) (xs5 ++ [.int .i64 n14, .int .i64 n15, .string s16]) (n6 + (1 : Int)) H2 ∧ m1 (n4 + 1) (xs5 ++ [.int .i64 n14, .int .i64 n15, .string s16]) (n6 + (1 : Int)) < m1 n4 xs5 n6) ∧ (decide
  (n11 < (↑valsN : Int)) = false → (n4 + 1) * 32 ≤ 140737488355328 ∧ rng .i64 (n6 + (1 : Int)) ∧ inv0 (n4 + 1) (xs5 ++ [.int .i64 (0 : Int), .int .i64 (0 : Int), .string ⟨⟨[]⟩⟩]) (n6 + (1 :
  Int)) H2 ∧ m1 (n4 + 1) (xs5 ++ [.int .i64 (0 : Int), .int .i64 (0 : Int), .string ⟨⟨[]⟩⟩]) (n6 + (1 : Int)) < m1 n4 xs5 n6)) ∧ (decide ((0 : Int) ≤ n9) = false → (n4 + 1) * 32 ≤
  140737488355328 ∧ rng .i64 (n6 + (1 : Int)) ∧ inv0 (n4 + 1) (xs5 ++ [.int .i64 (0 : Int), .int .i64 (0 : Int), .string ⟨⟨[]⟩⟩]) (n6 + (1 : Int)) H2 ∧ m1 (n4 + 1) (xs5 ++ [.int .i64 (0 :
  Int), .int .i64 (0 : Int), .string ⟨⟨[]⟩⟩]) (n6 + (1 : Int)) < m1 n4 xs5 n6)) ∧ (decide (n6 < (↑colsN : Int)) = false → ∀ (A20 : Option Addr) (c21 : Nat) (H22 : Heap), Heap.le H2 H22 →
  Cells H22 A20 0 xs5 → n4 ≤ c21 → post A20 n4 c21 H22)) := by kernel_rfl
theorem ref21_KeyValues {H : Heap} {A B : Option Addr} {n c m d : Nat} {vals : List Val} {cols : List Int} (hs : Sl H A n c vals) (ht : Sl H B m d cols) (hb : m * 32 ≤ 140737488355328) :
    ConT Tryz.prog 53 [.slice A n c, .slice B m d] H shS (fun A' n' c' H' => Sl H' A' n' c' (keyVals vals cols)) := by
  refine con_of_vc (an := an53) (fn := Tryz.f53) mix tabOK Tryz.func53 (by kernel_rfl) (extra := 1) ?_
  rw [vc53]
  have hbn := ht.bn; have hl := hs.len; have hm := ht.len
  refine ⟨fun k xs i H' => 0 ≤ i ∧ i ≤ m ∧ k = i.toNat ∧ Row H' xs (keyVals vals (cols.take i.toNat)), fun _ _ i => m - i.toNat, ⟨by omega, by omega, rfl, rfl⟩, ?_⟩
  rintro H2 hle k xs i ⟨h0, h1, rfl, hr⟩
  have e1 : (i + 1).toNat = i.toNat + 1 := by omega
  refine ⟨fun hlt => ?_, fun hge => ?_⟩
  · have hlt := of_decide_eq_true hlt
    obtain ⟨hi, hA, _, hc, ⟨rfl, -⟩⟩ := ht.at hle h0 hlt
    have hsu : keyVals vals (cols.take (i + 1).toNat) = keyVals vals (cols.take i.toNat) ++ [keyVal vals cols[i.toNat]] := by
      rw [e1, List.take_succ_eq_append_getElem hi, keyVals, List.map_append]; rfl
    have zero : keyVal vals cols[i.toNat] = val0 → (i.toNat + 1) * 32 ≤ 140737488355328 ∧ rng .i64 (i + 1) ∧ (0 ≤ i + 1 ∧ i + 1 ≤ m ∧ i.toNat + 1 = (i + 1).toNat ∧ Row H2 (xs ++ [.int .i64 0, .int .i64 0, .string ⟨#[]⟩]) (keyVals vals (cols.take (i + 1).toNat))) ∧ m - (i + 1).toNat < m - i.toNat := fun hv =>
      ⟨by omega, by simp only [rng]; omega, ⟨by omega, by omega, by omega, by rw [hsu, hv]; exact hr.append ⟨[.int .i64 0, .int .i64 0, .string ⟨#[]⟩], [], rfl, ⟨rfl, by decide, by decide, by unfold str val0; decide⟩, rfl⟩⟩, by omega⟩
    refine ⟨hA, h0, hlt, _, hc, fun hp => ⟨hA, h0, hlt, _, hc, fun hq => ⟨hA, h0, hlt, _, hc, ?_⟩, fun hq => ?_⟩, fun hp => ?_⟩
    · have hp := of_decide_eq_true hp; have hq := of_decide_eq_true hq
      obtain ⟨hj, hB, _, hd, hv⟩ := hs.at hle hp hq
      have hkv : keyVal vals cols[i.toNat] = vals[cols[i.toNat].toNat] := by unfold keyVal; rw [if_pos hp, List.getD_eq_getElem?_getD, List.getElem?_eq_getElem hj]; rfl
      obtain ⟨rfl, q⟩ := id hv
      exact ⟨hB, hp, hq, _, _, _, hd, by omega, by simp only [rng]; omega, ⟨by omega, by omega, by omega, by rw [hsu, hkv]; exact hr.append ⟨_, [], by simp, hv, rfl⟩⟩, by dsimp only; omega⟩
    · have hp := of_decide_eq_true hp; have hq := of_decide_eq_false hq
      exact zero (by unfold keyVal; rw [if_pos hp, List.getD_eq_getElem?_getD, List.getElem?_eq_none (by omega)]; rfl)
    · have hp := of_decide_eq_false hp
      exact zero (by unfold keyVal; rw [if_neg hp])
  · have hge := of_decide_eq_false hge
    intro A2 c2 H3 l3 hc2 hn2
    rw [List.take_of_length_le (by omega)] at hr
    exact hr.sl l3 hc2 (by simp [keyVals]; omega) hn2 (by show i.toNat * 32 ≤ _; omega) (by omega)
def an46 : Ann where
  res := fun _ => none
  lend := fun _ => false
  sch := fun _ => .done
  lt := fun _ => []
  tup := tups

theorem vc46 (P : Program) (H : Heap) (pFrom : Int) (pTo : Int) (post : Bool → Heap → Prop) :
  vcFn P tab an46 Tryz.f46 [.agg #[.int .i64 pFrom, .int .i64 pTo]] 0 H ⟨false, [(false, [.bool])]⟩ post =
  (  (decide ((0 : Int) ≤ pFrom) = true → (decide (pFrom < pTo) = true → post (decide (pTo ≤ (1099511627776 : Int))) H) ∧ (decide (pFrom < pTo) = false → post false H)) ∧ (decide ((0 : Int) ≤
  pFrom) = false → post false H)) := by kernel_rfl
theorem ref1_Valid {a b : Int} {H : Heap} : ConT Tryz.prog 46 [.agg ⟨[.int .i64 a, .int .i64 b]⟩] H shB (fun r _ => r = pOk ⟨a, b⟩) := by
  refine con_of_vc (an := an46) (fn := Tryz.f46) mix tabOK Tryz.func46 (by kernel_rfl) (extra := 0) ?_
  rw [vc46]
  grind [pOk]
def an47 : Ann where
  res := fun _ => none
  lend := fun | 6 => true | _ => false
  sch := fun _ => .done
  lt := fun _ => []
  tup := tups

theorem vc47 (P : Program) (H : Heap) (pFrom : Int) (pTo : Int) (t : Int) (post : Bool → Heap → Prop) :
  vcFn P tab an47 Tryz.f47 [.agg #[.int .i64 pFrom, .int .i64 pTo], .int .i64 t] 0 H ⟨false, [(false, [.bool])]⟩ post =
  (  ∃ (post0 : Bool → Heap → Prop), ConT P 46 [.agg ⟨[.int .i64 pFrom, .int .i64 pTo]⟩] H ⟨false, [(false, [.bool])]⟩ post0 ∧ ∀ (H1 : Heap), Heap.le H H1 → ∀ (b3 : Bool), post0 b3 H1 → (b3 =
  true → (decide (pFrom ≤ t) = true → post (decide (t < pTo)) H1) ∧ (decide (pFrom ≤ t) = false → post false H1)) ∧ (b3 = false → post false H1)) := by kernel_rfl
theorem ref1_Includes {a b t : Int} {H : Heap} : ConT Tryz.prog 47 [.agg ⟨[.int .i64 a, .int .i64 b]⟩, .int .i64 t] H shB (fun r _ => r = pIn ⟨a, b⟩ t) := by
  refine con_of_vc (an := an47) (fn := Tryz.f47) mix tabOK Tryz.func47 (by kernel_rfl) (extra := 0) ?_
  rw [vc47]
  refine ⟨_, ref1_Valid, ?_⟩
  rintro H1 _ _ rfl
  grind [pIn]
def keyRows (l : List Tup) (cols : List Int) : List Rw := (byKeyL l cols).map fun k => ⟨k.key, []⟩
theorem keyRows_succ {l : List Tup} {cols : List Int} {i : Nat} (hi : i < l.length) : keyRows (l.take (i + 1)) cols = keyRows (l.take i) cols ++ (if pOk l[i].p then [⟨keyVals l[i].vals cols, []⟩] else []) := by
  rw [keyRows, byKeyL_succ hi, List.map_append]
  split <;> rfl
def an27 : Ann where
  res := fun _ => none
  lend := fun | 18 => true | _ => false
  sch := fun _ => .done
  lt := fun | 3 => [.slot 5 false [.row 32 45], .slot 6 false [.int .i64]] | _ => []
  tup := tups

theorem vc27 (P : Program) (H : Heap) (lA : Option Addr) (lN lC : Nat) (colsA : Option Addr) (colsN colsC : Nat) (post : Option Addr → Nat → Nat → Heap → Prop) :
  vcFn P tab an27 Tryz.f27 [.slice lA lN lC, .slice colsA colsN colsC] 1 H ⟨false, [(false, [.sl])]⟩ post =
  (  ∃ (inv0 : Nat → List Value → Int → Heap → Prop), ∃ (m1 : Nat → List Value → Int → Nat), inv0 0 [] (0 : Int) H ∧ ∀ (H2 : Heap), Heap.le H H2 → ∀ (n4 : Nat) (xs5 : List Value) (n6 : Int),
  inv0 n4 xs5 n6 H2 → (decide (n6 < (↑lN : Int)) = true → someA lA ∧ (0 : Int) ≤ n6 ∧ n6 < (↑lN : Int) ∧ ∃ (n9 : Int), ∃ (n10 : Int), Cells H2 lA (Int.toNat n6 * 4 + 1) [.int .i64 n9, .int
  .i64 n10] ∧ ∃ (post11 : Bool → Heap → Prop), ConT P 46 [.agg ⟨[.int .i64 n9, .int .i64 n10]⟩] H2 ⟨false, [(false, [.bool])]⟩ post11 ∧ ∀ (H12 : Heap), Heap.le H2 H12 → ∀ (b14 : Bool), post11
  b14 H12 → (b14 = true → someA lA ∧ (0 : Int) ≤ n6 ∧ n6 < (↑lN : Int) ∧ ∃ (A17 : Option Addr), ∃ (n18 : Nat), ∃ (c19 : Nat), Cells H12 lA (Int.toNat n6 * 4 + 0) [.slice A17 n18 c19] ∧ ∃
  (post20 : Option Addr → Nat → Nat → Heap → Prop), ConT P 53 [.slice A17 n18 c19, .slice colsA colsN colsC] H12 ⟨false, [(false, [.sl])]⟩ post20 ∧ ∀ (H21 : Heap), Heap.le H12 H21 → ∀ (A23 :
  Option Addr) (n24 c25 : Nat), post20 A23 n24 c25 H21 → (n4 + 1) * 48 ≤ 140737488355328 ∧ rng .i64 (n6 + (1 : Int)) ∧ inv0 (n4 + 1) (xs5 ++ [.slice A23 n24 c25, .slice none 0 0]) (n6 + (1 :
  Int)) H21 ∧ m1 (n4 + 1) (xs5 ++ [.slice A23 n24 c25, .slice none 0 0]) (n6 + (1 : Int)) < m1 n4 xs5 n6) ∧ (b14 = false → rng .i64 (n6 + (1 : Int)) ∧ inv0 n4 xs5 (n6 + (1 : Int)) H12 ∧ m1 n4
  xs5 (n6 + (1 : Int)) < m1 n4 xs5 n6)) ∧ (decide (n6 < (↑lN : Int)) = false → ∀ (A29 : Option Addr) (c30 : Nat) (H31 : Heap), Heap.le H2 H31 → Cells H31 A29 0 xs5 → n4 ≤ c30 → ∃ (post35 :
  Option Addr → Nat → Nat → Heap → Prop), ConT P 54 [.slice A29 n4 c30] H31 ⟨false, [(false, [.sl])]⟩ post35 ∧ ∀ (H36 : Heap), Heap.le H31 H36 → ∀ (A38 : Option Addr) (n39 c40 : Nat), post35
  A38 n39 c40 H36 → post A38 n39 c40 H36)) := by kernel_rfl
theorem ref21_keysOf {H : Heap} {A B : Option Addr} {n c m d : Nat} {l : List Tup} {cols : List Int} (hs : Sl H A n c l) (ht : Sl H B m d cols) (hb : m * 32 ≤ 140737488355328) (hn : n * 72 ≤ 140737488355328) :
    ConT Tryz.prog 27 [.slice A n c, .slice B m d] H shS (fun A' n' c' H' => ∃ rs : List Rw, Sl H' A' n' c' rs ∧ n' ≤ n ∧ ascV (rs.map (·.vals)) ∧ ∀ v, v ∈ rs.map (·.vals) ↔ ∃ k ∈ byKeyL l cols, k.key = v) := by
  refine con_of_vc (an := an27) (fn := Tryz.f27) mix tabOK Tryz.func27 (by kernel_rfl) (extra := 1) ?_
  rw [vc27]
  have hl := hs.len
  refine ⟨fun k xs i H' => 0 ≤ i ∧ i ≤ n ∧ k = (keyRows (l.take i.toNat) cols).length ∧ Row H' xs (keyRows (l.take i.toNat) cols), fun _ _ i => n - i.toNat, ⟨by omega, by omega, rfl, rfl⟩, ?_⟩
  rintro H2 hle k xs i ⟨h0, h1, hk, hr⟩
  have hlen := byKeyL_len (l.take i.toNat) cols
  rw [List.length_take] at hlen
  have hkl : k ≤ i.toNat := by rw [hk, keyRows, List.length_map]; omega
  have e1 : (i + 1).toNat = i.toNat + 1 := by omega
  refine ⟨fun hlt => ?_, fun hge => ?_⟩
  · have hlt := of_decide_eq_true hlt
    obtain ⟨hi, hA, _, hc, ⟨A9, n9, c9, A14, n15, c16, rfl, q1, q2, q3, q4⟩⟩ := hs.at hle h0 hlt
    have hsu := keyRows_succ (cols := cols) hi
    refine ⟨hA, h0, hlt, _, _, hc.at2 (k := 1) rfl rfl, _, ref1_Valid, ?_⟩
    rintro H3 l3 _ rfl
    refine ⟨fun hp => ?_, fun hp => ?_⟩
    · have hp' : pOk l[i.toNat].p = true := hp
      rw [if_pos hp'] at hsu
      refine ⟨hA, h0, hlt, _, _, _, (hc.mono l3).at1 (k := 0) rfl, _, ref21_KeyValues (q1.mono l3) (ht.mono (hle_trans hle l3)) hb, ?_⟩
      intro H4 l4 A4 n4 c4 h4
      refine ⟨by omega, by simp only [rng]; omega, ⟨by omega, by omega, by rw [e1, hsu, List.length_append, ← hk]; rfl, ?_⟩, by dsimp only; omega⟩
      rw [e1, hsu]
      exact (hr.mono (hle_trans l3 l4)).append (Row.one ⟨_, _, _, _, _, _, rfl, h4, Sl.nil⟩)
    · have hp' : ¬ pOk l[i.toNat].p = true := by
        have hp : pOk ⟨l[i.toNat].p.lo, l[i.toNat].p.hi⟩ = false := hp
        intro h
        have h : pOk ⟨l[i.toNat].p.lo, l[i.toNat].p.hi⟩ = true := h
        rw [hp] at h; cases h
      rw [if_neg hp', List.append_nil] at hsu
      exact ⟨by simp only [rng]; omega, ⟨by omega, by omega, by rw [e1, hsu]; exact hk, by rw [e1, hsu]; exact hr.mono l3⟩, by dsimp only; omega⟩
  · have hge := of_decide_eq_false hge
    have hall : l.take i.toNat = l := List.take_of_length_le (by omega)
    rw [hall] at hk hr
    intro A4 c4 H4 l4 hc4 hn4
    refine ⟨_, ref9_Distinct (hr.sl l4 hc4 hk.symm hn4 (by show k * 48 ≤ _; omega) (by omega)) (fun r hr => ?_) (by omega), ?_⟩
    · obtain ⟨x, -, rfl⟩ := List.mem_map.1 hr; rfl
    · rintro H5 l5 A5 n5 c5 ⟨rs, r1, r2, r3, r4⟩
      refine ⟨rs, r1, by omega, r3, fun v => ?_⟩
      rw [r4]
      constructor
      · rintro ⟨r, h1, rfl⟩
        obtain ⟨x, hx, rfl⟩ := List.mem_map.1 h1
        exact ⟨x, hx, rfl⟩
      · rintro ⟨x, hx, rfl⟩
        exact ⟨_, List.mem_map.2 ⟨x, hx, rfl⟩, rfl⟩
def withK (l : List Tup) (cols : List Int) (key : List Val) : List Tup := l.filter fun t => pOk t.p && decide (cmpVs (keyVals t.vals cols) key = 0)
theorem withK_succ {l : List Tup} {cols : List Int} {key : List Val} {i : Nat} (hi : i < l.length) : withK (l.take (i + 1)) cols key = withK (l.take i) cols key ++ (if pOk l[i].p && decide (cmpVs (keyVals l[i].vals cols) key = 0) then [l[i]] else []) := by
  rw [List.take_succ_eq_append_getElem hi]
  simp only [withK, List.filter_append, List.filter_cons, List.filter_nil]
theorem withK_len (l : List Tup) (cols : List Int) (key : List Val) : (withK l cols key).length ≤ l.length := List.length_filter_le _ _
def an28 : Ann where
  res := fun _ => none
  lend := fun | 20 => true | 30 => true | _ => false
  sch := fun _ => .done
  lt := fun | 3 => [.slot 7 false [.row 41 57], .slot 8 false [.int .i64]] | _ => []
  tup := tups

theorem vc28 (P : Program) (H : Heap) (lA : Option Addr) (lN lC : Nat) (colsA : Option Addr) (colsN colsC : Nat) (keyA : Option Addr) (keyN keyC : Nat) (post : Option Addr → Nat → Nat → Heap → Prop) :
  vcFn P tab an28 Tryz.f28 [.slice lA lN lC, .slice colsA colsN colsC, .slice keyA keyN keyC] 1 H ⟨false, [(false, [.sl])]⟩ post =
  (  ∃ (inv0 : Nat → List Value → Int → Heap → Prop), ∃ (m1 : Nat → List Value → Int → Nat), inv0 0 [] (0 : Int) H ∧ ∀ (H2 : Heap), Heap.le H H2 → ∀ (n4 : Nat) (xs5 : List Value) (n6 : Int),
  inv0 n4 xs5 n6 H2 → (decide (n6 < (↑lN : Int)) = true → someA lA ∧ (0 : Int) ≤ n6 ∧ n6 < (↑lN : Int) ∧ ∃ (n9 : Int), ∃ (n10 : Int), Cells H2 lA (Int.toNat n6 * 4 + 1) [.int .i64 n9, .int
  .i64 n10] ∧ ∃ (post11 : Bool → Heap → Prop), ConT P 46 [.agg ⟨[.int .i64 n9, .int .i64 n10]⟩] H2 ⟨false, [(false, [.bool])]⟩ post11 ∧ ∀ (H12 : Heap), Heap.le H2 H12 → ∀ (b14 : Bool), post11
  b14 H12 → (b14 = true → someA lA ∧ (0 : Int) ≤ n6 ∧ n6 < (↑lN : Int) ∧ ∃ (A17 : Option Addr), ∃ (n18 : Nat), ∃ (c19 : Nat), Cells H12 lA (Int.toNat n6 * 4 + 0) [.slice A17 n18 c19] ∧ ∃
  (post20 : Option Addr → Nat → Nat → Heap → Prop), ConT P 53 [.slice A17 n18 c19, .slice colsA colsN colsC] H12 ⟨false, [(false, [.sl])]⟩ post20 ∧ ∀ (H21 : Heap), Heap.le H12 H21 → ∀ (A23 :
  Option Addr) (n24 c25 : Nat), post20 A23 n24 c25 H21 → ∃ (post27 : Int → Heap → Prop), ConT P 22 [.slice A23 n24 c25, .slice keyA keyN keyC] H21 ⟨false, [(false, [.int .i64])]⟩ post27 ∧ ∀
  (H28 : Heap), Heap.le H21 H28 → ∀ (n30 : Int), post27 n30 H28 → (decide (n30 = (0 : Int)) = true → someA lA ∧ (0 : Int) ≤ n6 ∧ n6 < (↑lN : Int) ∧ ∃ (A33 : Option Addr), ∃ (n34 : Nat), ∃
  (c35 : Nat), ∃ (n36 : Int), ∃ (n37 : Int), ∃ (A38 : Option Addr), ∃ (n39 : Nat), ∃ (c40 : Nat), Cells H28 lA (Int.toNat n6 * 4) [.slice A33 n34 c35, .int .i64 n36, .int .i64 n37, .slice A38
  n39 c40] ∧ (n4 + 1) * 64 ≤ 140737488355328 ∧ rng .i64 (n6 + (1 : Int)) ∧ inv0 (n4 + 1) (xs5 ++ [.slice A33 n34 c35, .int .i64 n36, .int .i64 n37, .slice A38 n39 c40]) (n6 + (1 : Int)) H28 ∧
  m1 (n4 + 1) (xs5 ++ [.slice A33 n34 c35, .int .i64 n36, .int .i64 n37, .slice A38 n39 c40]) (n6 + (1 : Int)) < m1 n4 xs5 n6) ∧ (decide (n30 = (0 : Int)) = false → rng .i64 (n6 + (1 : Int))
  ∧ inv0 n4 xs5 (n6 + (1 : Int)) H28 ∧ m1 n4 xs5 (n6 + (1 : Int)) < m1 n4 xs5 n6)) ∧ (b14 = false → rng .i64 (n6 + (1 : Int)) ∧ inv0 n4 xs5 (n6 + (1 : Int)) H12 ∧ m1 n4 xs5 (n6 + (1 : Int)) <
  m1 n4 xs5 n6)) ∧ (decide (n6 < (↑lN : Int)) = false → ∀ (A44 : Option Addr) (c45 : Nat) (H46 : Heap), Heap.le H2 H46 → Cells H46 A44 0 xs5 → n4 ≤ c45 → post A44 n4 c45 H46)) := by kernel_rfl
theorem ref21_withKey {H : Heap} {A B C : Option Addr} {n c m d k e : Nat} {l : List Tup} {cols : List Int} {key : List Val} (hs : Sl H A n c l) (ht : Sl H B m d cols) (hu : Sl H C k e key) (hb : m * 32 ≤ 140737488355328) :
    ConT Tryz.prog 28 [.slice A n c, .slice B m d, .slice C k e] H shS (fun A' n' c' H' => Sl H' A' n' c' (withK l cols key)) := by
  refine con_of_vc (an := an28) (fn := Tryz.f28) mix tabOK Tryz.func28 (by kernel_rfl) (extra := 1) ?_
  rw [vc28]
  have hl := hs.len
  have hbd : n * 64 ≤ 140737488355328 := hs.bnd
  refine ⟨fun k xs i H' => 0 ≤ i ∧ i ≤ n ∧ k = (withK (l.take i.toNat) cols key).length ∧ Row H' xs (withK (l.take i.toNat) cols key), fun _ _ i => n - i.toNat, ⟨by omega, by omega, rfl, rfl⟩, ?_⟩
  rintro H2 hle k xs i ⟨h0, h1, hk, hr⟩
  have hlen := withK_len (l.take i.toNat) cols key
  rw [List.length_take] at hlen
  have e1 : (i + 1).toNat = i.toNat + 1 := by omega
  refine ⟨fun hlt => ?_, fun hge => ?_⟩
  · have hlt := of_decide_eq_true hlt
    obtain ⟨hi, hA, _, hc, hrel⟩ := hs.at hle h0 hlt
    obtain ⟨A9, n9, c9, A14, n15, c16, rfl, q1, q2, q3, q4⟩ := id hrel
    have hsu := withK_succ (cols := cols) (key := key) hi
    have skip : (pOk l[i.toNat].p && decide (cmpVs (keyVals l[i.toNat].vals cols) key = 0)) = false → ∀ {H' : Heap}, Heap.le H2 H' → rng .i64 (i + 1) ∧ (0 ≤ i + 1 ∧ i + 1 ≤ n ∧ k = (withK (l.take (i + 1).toNat) cols key).length ∧ Row H' xs (withK (l.take (i + 1).toNat) cols key)) ∧ n - (i + 1).toNat < n - i.toNat := by
      intro hf H' l'
      rw [if_neg (by simp [hf]), List.append_nil] at hsu
      exact ⟨by simp only [rng]; omega, ⟨by omega, by omega, by rw [e1, hsu]; exact hk, by rw [e1, hsu]; exact hr.mono l'⟩, by omega⟩
    refine ⟨hA, h0, hlt, _, _, hc.at2 (k := 1) rfl rfl, _, ref1_Valid, ?_⟩
    rintro H3 l3 _ rfl
    refine ⟨fun hp => ?_, fun hp => ?_⟩
    · have hp' : pOk l[i.toNat].p = true := hp
      refine ⟨hA, h0, hlt, _, _, _, (hc.mono l3).at1 (k := 0) rfl, _, ref21_KeyValues (q1.mono l3) (ht.mono (hle_trans hle l3)) hb, ?_⟩
      intro H4 l4 A4 n4 c4 h4
      refine ⟨_, ref6_CompareRows h4 (hu.mono (hle_trans hle (hle_trans l3 l4))), ?_⟩
      rintro H5 l5 _ rfl
      have l35 := hle_trans l3 (hle_trans l4 l5)
      refine ⟨fun he => ?_, fun he => skip (by rw [hp', he]; rfl) l35⟩
      rw [if_pos (by rw [hp', he]; rfl)] at hsu
      refine ⟨hA, h0, hlt, _, _, _, _, _, _, _, _, hc.mono l35, by omega, by simp only [rng]; omega, ⟨by omega, by omega, by rw [e1, hsu, List.length_append, ← hk]; rfl, ?_⟩, by dsimp only; omega⟩
      rw [e1, hsu]
      exact (hr.mono l35).append (Row.one (Rep.mono l35 hrel))
    · have hp' : pOk l[i.toNat].p = false := hp
      exact skip (by rw [hp']; rfl) l3
  · have hge := of_decide_eq_false hge
    have hall : l.take i.toNat = l := List.take_of_length_le (by omega)
    have hlen := withK_len l cols key
    rw [hall] at hk hr
    intro A4 c4 H4 l4 hc4 hn4
    exact hr.sl l4 hc4 hk.symm hn4 (by show k * 64 ≤ _; omega) (by omega)
def canon (l : List Int) : List Int := Lib.compact (sortI l)
theorem canon_asc (l : List Int) : (canon l).Pairwise (fun a b => a < b) := compact_asc _ (sortI_asc _)
theorem canon_mem {l : List Int} {y : Int} : y ∈ canon l ↔ y ∈ l := by rw [canon, compact_mem, sortI, List.mem_mergeSort]
theorem canon_eq {l m : List Int} (h : ∀ y, y ∈ l ↔ y ∈ m) : canon l = canon m := asc_unique (canon_asc l) (canon_asc m) fun y => by rw [canon_mem, canon_mem, h]
theorem canon_nil : canon [] = [] := List.eq_nil_iff_forall_not_mem.2 fun y hy => by rw [canon_mem] at hy; cases hy
theorem canon_len (l : List Int) : (canon l).length ≤ l.length := by have := compact_len (sortI l); rw [sortI_len] at this; exact this
theorem mergeLin_canon (p q : List Int) : mergeLin (canon p) q = canon (p ++ q) := canon_eq fun y => by rw [List.mem_append, List.mem_append, canon_mem]
def tends (l : List Tup) : List Int := (l.filter fun t => pOk t.p).flatMap fun t => [t.p.lo, t.p.hi]
theorem tends_succ {l : List Tup} {i : Nat} (hi : i < l.length) : tends (l.take (i + 1)) = tends (l.take i) ++ (if pOk l[i].p then [l[i].p.lo, l[i].p.hi] else []) := by
  rw [List.take_succ_eq_append_getElem hi]
  simp only [tends, List.filter_append, List.flatMap_append, List.filter_cons, List.filter_nil]
  split <;> simp
theorem tends_len : ∀ l : List Tup, (tends l).length ≤ 2 * l.length
  | [] => by simp [tends]
  | t :: l => by
    have ih := tends_len l
    simp only [tends, List.filter_cons, List.length_cons] at ih ⊢
    split
    · simp only [List.flatMap_cons, List.length_append, List.length_cons, List.length_nil]; omega
    · omega
def an29 : Ann where
  res := fun _ => none
  lend := fun | 14 => true | _ => false
  sch := fun _ => .done
  lt := fun | 3 => [.slot 3 false [.sl], .slot 8 false [.int .i64]] | _ => []
  tup := tups

theorem vc29 (P : Program) (H : Heap) (tuplesA : Option Addr) (tuplesN tuplesC : Nat) (post : Option Addr → Nat → Nat → Heap → Prop) :
  vcFn P tab an29 Tryz.f29 [.slice tuplesA tuplesN tuplesC] 0 H ⟨false, [(false, [.sl])]⟩ post =
  (  ∃ (inv0 : Option Addr → Nat → Nat → Int → Heap → Prop), ∃ (m1 : Option Addr → Nat → Nat → Int → Nat), inv0 none 0 0 (0 : Int) H ∧ ∀ (H2 : Heap), Heap.le H H2 → ∀ (A4 : Option Addr) (n5 c6 :
  Nat) (n7 : Int), inv0 A4 n5 c6 n7 H2 → (decide (n7 < (↑tuplesN : Int)) = true → someA tuplesA ∧ (0 : Int) ≤ n7 ∧ n7 < (↑tuplesN : Int) ∧ ∃ (A10 : Option Addr), ∃ (n11 : Nat), ∃ (c12 : Nat),
  ∃ (n13 : Int), ∃ (n14 : Int), ∃ (A15 : Option Addr), ∃ (n16 : Nat), ∃ (c17 : Nat), Cells H2 tuplesA (Int.toNat n7 * 4) [.slice A10 n11 c12, .int .i64 n13, .int .i64 n14, .slice A15 n16 c17]
  ∧ ∃ (post18 : Bool → Heap → Prop), ConT P 46 [.agg ⟨[.int .i64 n13, .int .i64 n14]⟩] H2 ⟨false, [(false, [.bool])]⟩ post18 ∧ ∀ (H19 : Heap), Heap.le H2 H19 → ∀ (b21 : Bool), post18 b21 H19
  → (b21 = true → ∀ (A24 : Option Addr) (c25 : Nat) (H26 : Heap), Heap.le H19 H26 → Cells H26 A24 0 [.int .i64 n13, .int .i64 n14] → 2 ≤ c25 → ∃ (post30 : Option Addr → Nat → Nat → Heap →
  Prop), ConT P 55 [.slice A4 n5 c6, .slice A24 2 c25] H26 ⟨false, [(false, [.sl])]⟩ post30 ∧ ∀ (H31 : Heap), Heap.le H26 H31 → ∀ (A33 : Option Addr) (n34 c35 : Nat), post30 A33 n34 c35 H31 →
  rng .i64 (n7 + (1 : Int)) ∧ inv0 A33 n34 c35 (n7 + (1 : Int)) H31 ∧ m1 A33 n34 c35 (n7 + (1 : Int)) < m1 A4 n5 c6 n7) ∧ (b21 = false → rng .i64 (n7 + (1 : Int)) ∧ inv0 A4 n5 c6 (n7 + (1 :
  Int)) H19 ∧ m1 A4 n5 c6 (n7 + (1 : Int)) < m1 A4 n5 c6 n7)) ∧ (decide (n7 < (↑tuplesN : Int)) = false → post A4 n5 c6 H2)) := by kernel_rfl
theorem ref9_Boundaries {H : Heap} {A : Option Addr} {n c : Nat} {l : List Tup} (hs : Sl H A n c l) : ConT Tryz.prog 29 [.slice A n c] H shS (fun A' n' c' H' => Sl H' A' n' c' (canon (tends l))) := by
  refine con_of_vc (an := an29) (fn := Tryz.f29) mix tabOK Tryz.func29 (by kernel_rfl) (extra := 0) ?_
  rw [vc29]
  have hl := hs.len
  have hbd : n * 64 ≤ 140737488355328 := hs.bnd
  refine ⟨fun A n' c i H' => 0 ≤ i ∧ i ≤ n ∧ Sl H' A n' c (canon (tends (l.take i.toNat))), fun _ _ _ i => n - i.toNat, ⟨by omega, by omega, by rw [show canon (tends (l.take (0 : Int).toNat)) = [] from canon_nil]; exact Sl.nil⟩, ?_⟩
  rintro H2 hle A4 n5 c6 i ⟨h0, h1, hr⟩
  have hrl := hr.len
  have hc1 := canon_len (tends (l.take i.toNat))
  have hc2 := tends_len (l.take i.toNat)
  rw [List.length_take] at hc2
  have e1 : (i + 1).toNat = i.toNat + 1 := by omega
  refine ⟨fun hlt => ?_, fun hge => ?_⟩
  · have hlt := of_decide_eq_true hlt
    obtain ⟨hi, hA, _, hc, ⟨A9, n9, c9, A14, n15, c16, rfl, q1, q2, q3, q4⟩⟩ := hs.at hle h0 hlt
    have hsu := tends_succ hi
    refine ⟨hA, h0, hlt, _, _, _, _, _, _, _, _, hc, _, ref1_Valid, ?_⟩
    rintro H3 l3 _ rfl
    refine ⟨fun hp => ?_, fun hp => ?_⟩
    · have hp' : pOk l[i.toNat].p = true := hp
      rw [if_pos hp'] at hsu
      intro A24 c25 H26 l26 hc26 hn26
      have h2 : Sl H26 A24 2 c25 [l[i.toNat].p.lo, l[i.toNat].p.hi] := Row.sl (H := H26) (T := Int) (l := [l[i.toNat].p.lo, l[i.toNat].p.hi]) ⟨[_], [_], rfl, ⟨rfl, q2⟩, [_], [], rfl, ⟨rfl, q3⟩, rfl⟩ (hle_refl _) hc26 rfl hn26 (by decide) (by decide)
      refine ⟨_, ref6_MergeLineage (hr.mono (hle_trans l3 l26)) h2 (by omega), ?_⟩
      intro H31 l31 A33 n34 c35 hm
      rw [mergeLin_canon, ← hsu] at hm
      exact ⟨by simp only [rng]; omega, ⟨by omega, by omega, by rw [e1]; exact hm⟩, by dsimp only; omega⟩
    · have hp' : ¬ pOk l[i.toNat].p = true := by
        have hp : pOk ⟨l[i.toNat].p.lo, l[i.toNat].p.hi⟩ = false := hp
        intro h
        have h : pOk ⟨l[i.toNat].p.lo, l[i.toNat].p.hi⟩ = true := h
        rw [hp] at h; cases h
      rw [if_neg hp', List.append_nil] at hsu
      exact ⟨by simp only [rng]; omega, ⟨by omega, by omega, by rw [e1, hsu]; exact hr.mono l3⟩, by dsimp only; omega⟩
  · have hge := of_decide_eq_false hge
    have hall : l.take i.toNat = l := List.take_of_length_le (by omega)
    rw [hall] at hr
    exact hr
def inT (t : Int) (x : Tup) : Bool := pIn x.p t
theorem inT_succ {l : List Tup} {t : Int} {i : Nat} (hi : i < l.length) : (l.take (i + 1)).filter (inT t) = (l.take i).filter (inT t) ++ (if inT t l[i] then [l[i]] else []) := by
  rw [List.take_succ_eq_append_getElem hi]
  simp only [List.filter_append, List.filter_cons, List.filter_nil]
theorem tlins_sub {a b : List Tup} (h : a.Sublist b) : (tlins a).length ≤ (tlins b).length := by
  induction h with
  | slnil => exact Nat.le_refl _
  | cons x _ ih => simp only [tlins, List.flatMap_cons, List.length_append] at *; omega
  | cons_cons x _ ih => simp only [tlins, List.flatMap_cons, List.length_append] at *; omega
theorem tlins_append (a b : List Tup) : tlins (a ++ b) = tlins a ++ tlins b := by simp [tlins]
def an30 : Ann where
  res := fun _ => none
  lend := fun | 21 => true | _ => false
  sch := fun _ => .done
  lt := fun | 4 => [.slot 6 false [.int .i64], .slot 7 false [.sl], .slot 8 false [.int .i64]] | _ => []
  tup := tups

theorem vc30 (P : Program) (H : Heap) (lA : Option Addr) (lN lC : Nat) (t : Int) (post : Int → Option Addr → Nat → Nat → Heap → Prop) :
  vcFn P tab an30 Tryz.f30 [.slice lA lN lC, .int .i64 t] 0 H ⟨true, [(false, [.int .i64]), (false, [.sl])]⟩ post =
  (  ∃ (inv0 : Int → Option Addr → Nat → Nat → Int → Heap → Prop), ∃ (m1 : Int → Option Addr → Nat → Nat → Int → Nat), inv0 (0 : Int) none 0 0 (0 : Int) H ∧ ∀ (H2 : Heap), Heap.le H H2 → ∀ (n4 :
  Int) (A5 : Option Addr) (n6 c7 : Nat) (n8 : Int), inv0 n4 A5 n6 c7 n8 H2 → (decide (n8 < (↑lN : Int)) = true → someA lA ∧ (0 : Int) ≤ n8 ∧ n8 < (↑lN : Int) ∧ ∃ (n11 : Int), ∃ (n12 : Int),
  Cells H2 lA (Int.toNat n8 * 4 + 1) [.int .i64 n11, .int .i64 n12] ∧ ∃ (post13 : Bool → Heap → Prop), ConT P 47 [.agg ⟨[.int .i64 n11, .int .i64 n12]⟩, .int .i64 t] H2 ⟨false, [(false,
  [.bool])]⟩ post13 ∧ ∀ (H14 : Heap), Heap.le H2 H14 → ∀ (b16 : Bool), post13 b16 H14 → (b16 = true → rng .i64 (n4 + (1 : Int)) ∧ someA lA ∧ (0 : Int) ≤ n8 ∧ n8 < (↑lN : Int) ∧ ∃ (A19 :
  Option Addr), ∃ (n20 : Nat), ∃ (c21 : Nat), Cells H14 lA (Int.toNat n8 * 4 + 3) [.slice A19 n20 c21] ∧ ∃ (post22 : Option Addr → Nat → Nat → Heap → Prop), ConT P 55 [.slice A5 n6 c7, .slice
  A19 n20 c21] H14 ⟨false, [(false, [.sl])]⟩ post22 ∧ ∀ (H23 : Heap), Heap.le H14 H23 → ∀ (A25 : Option Addr) (n26 c27 : Nat), post22 A25 n26 c27 H23 → rng .i64 (n8 + (1 : Int)) ∧ inv0 (n4 +
  (1 : Int)) A25 n26 c27 (n8 + (1 : Int)) H23 ∧ m1 (n4 + (1 : Int)) A25 n26 c27 (n8 + (1 : Int)) < m1 n4 A5 n6 c7 n8) ∧ (b16 = false → rng .i64 (n8 + (1 : Int)) ∧ inv0 n4 A5 n6 c7 (n8 + (1 :
  Int)) H14 ∧ m1 n4 A5 n6 c7 (n8 + (1 : Int)) < m1 n4 A5 n6 c7 n8)) ∧ (decide (n8 < (↑lN : Int)) = false → post n4 A5 n6 c7 H2)) := by kernel_rfl
theorem ref21_holding {H : Heap} {A : Option Addr} {n c : Nat} {l : List Tup} {t : Int} (hs : Sl H A n c l) (hb : (tlins l).length * 8 ≤ 140737488355328) :
    ConT Tryz.prog 30 [.slice A n c, .int .i64 t] H ⟨true, [(false, [.int .i64]), (false, [.sl])]⟩ (fun k A' n' c' H' => k = (l.filter (inT t)).length ∧ Sl H' A' n' c' (canon (tlins (l.filter (inT t))))) := by
  refine con_of_vc (an := an30) (fn := Tryz.f30) mix tabOK Tryz.func30 (by kernel_rfl) (extra := 0) ?_
  rw [vc30]
  have hl := hs.len
  have hbn := hs.bn
  refine ⟨fun k A n' c i H' => 0 ≤ i ∧ i ≤ n ∧ k = ((l.take i.toNat).filter (inT t)).length ∧ Sl H' A n' c (canon (tlins ((l.take i.toNat).filter (inT t)))), fun _ _ _ _ i => n - i.toNat, ⟨by omega, by omega, by simp, by rw [show canon (tlins ((l.take (0 : Int).toNat).filter (inT t))) = [] from canon_nil]; exact Sl.nil⟩, ?_⟩
  rintro H2 hle k A4 n5 c6 i ⟨h0, h1, rfl, hr⟩
  have hrl := hr.len
  have hc1 := canon_len (tlins ((l.take i.toNat).filter (inT t)))
  have hfl := List.length_filter_le (inT t) (l.take i.toNat)
  rw [List.length_take] at hfl
  have e1 : (i + 1).toNat = i.toNat + 1 := by omega
  refine ⟨fun hlt => ?_, fun hge => ⟨?_, ?_⟩⟩
  · have hlt := of_decide_eq_true hlt
    obtain ⟨hi, hA, _, hc, ⟨A9, n9, c9, A14, n15, c16, rfl, q1, q2, q3, q4⟩⟩ := hs.at hle h0 hlt
    have hsu := inT_succ (t := t) hi
    refine ⟨hA, h0, hlt, _, _, hc.at2 (k := 1) rfl rfl, _, ref1_Includes, ?_⟩
    rintro H3 l3 _ rfl
    refine ⟨fun hp => ?_, fun hp => ?_⟩
    · have hp' : inT t l[i.toNat] = true := hp
      rw [if_pos hp'] at hsu
      have htl : (tlins ((l.take i.toNat).filter (inT t) ++ [l[i.toNat]])).length ≤ (tlins l).length := by
        rw [← hsu]; exact tlins_sub (List.filter_sublist.trans (List.take_sublist _ _))
      rw [tlins_append, List.length_append] at htl
      have hq4 := q4.len
      have e4 : tlins [l[i.toNat]] = l[i.toNat].lin := by simp [tlins]
      rw [e4] at htl
      refine ⟨by simp only [rng]; omega, hA, h0, hlt, _, _, _, (hc.mono l3).at1 (k := 3) rfl, _, ref6_MergeLineage (hr.mono l3) (q4.mono l3) (by omega), ?_⟩
      intro H31 l31 A33 n34 c35 hm
      rw [mergeLin_canon, ← e4, ← tlins_append, ← hsu] at hm
      exact ⟨by simp only [rng]; omega, ⟨by omega, by omega, by rw [e1, hsu]; simp, by rw [e1]; exact hm⟩, by dsimp only; omega⟩
    · have hp' : ¬ inT t l[i.toNat] = true := by
        have hp : inT t l[i.toNat] = false := hp
        rw [hp]; simp
      rw [if_neg hp', List.append_nil] at hsu
      exact ⟨by simp only [rng]; omega, ⟨by omega, by omega, by rw [e1, hsu], by rw [e1, hsu]; exact hr.mono l3⟩, by dsimp only; omega⟩
  · have hge := of_decide_eq_false hge
    rw [List.take_of_length_le (by omega)]
  · have hge := of_decide_eq_false hge
    have hall : l.take i.toNat = l := List.take_of_length_le (by omega)
    rw [hall] at hr
    exact hr
end Go.Vc
/- The reference's violations of keys. -/
namespace Go.Vc
open Go Go.Proofs Go.Shelf
def an35 : Ann where
  res := fun _ => none
  lend := fun _ => false
  sch := fun | 6 => (tk [0, 1, 2, 3, 4, 5, 6, 7, 8] .done) | _ => .done
  lt := fun | 4 => [.slot 5 false [.int .i64]] | _ => []
  tup := tups

theorem vc35 (P : Program) (H : Heap) (aA : Option Addr) (aN aC : Nat) (bA : Option Addr) (bN bC : Nat) (post : Bool → Heap → Prop) :
  vcFn P tab an35 Tryz.f35 [.slice aA aN aC, .slice bA bN bC] 0 H ⟨false, [(false, [.bool])]⟩ post =
  (  ((!decide ((↑aN : Int) = (↑bN : Int))) = true → post false H) ∧ ((!decide ((↑aN : Int) = (↑bN : Int))) = false → ∃ (inv2 : Int → Heap → Prop), ∃ (m3 : Int → Nat), inv2 (0 : Int) H ∧ ∀ (H4 :
  Heap), Heap.le H H4 → ∀ (n6 : Int), inv2 n6 H4 → (decide (n6 < (↑aN : Int)) = true → someA aA ∧ (0 : Int) ≤ n6 ∧ n6 < (↑aN : Int) ∧ ∃ (n9 : Int), Cells H4 aA (Int.toNat n6 * 1) [.int .i64
  n9] ∧ someA bA ∧ (0 : Int) ≤ n6 ∧ n6 < (↑bN : Int) ∧ ∃ (n10 : Int), Cells H4 bA (Int.toNat n6 * 1) [.int .i64 n10] ∧ ((!decide (n9 = n10)) = true → post false H4) ∧ ((!decide (n9 = n10)) =
  false → rng .i64 (n6 + (1 : Int)) ∧ inv2 (n6 + (1 : Int)) H4 ∧ m3 (n6 + (1 : Int)) < m3 n6)) ∧ (decide (n6 < (↑aN : Int)) = false → post true H4))) := by kernel_rfl
theorem ref1_SameInts {H : Heap} {A B : Option Addr} {n c m d : Nat} {a b : List Int} (hs : Sl H A n c a) (ht : Sl H B m d b) :
    ConT Tryz.prog 35 [.slice A n c, .slice B m d] H shB (fun r _ => r = decide (a = b)) := by
  refine con_of_vc (an := an35) (fn := Tryz.f35) mix tabOK Tryz.func35 (by kernel_rfl) (extra := 0) ?_
  rw [vc35]
  have hl := hs.len; have hm := ht.len; have hb := hs.bn
  refine ⟨fun hne => ?_, fun he => ?_⟩
  · have : ¬ a = b := fun e => by subst e; simp at hne; omega
    simp [this]
  have hnm' : (n : Int) = m := by simpa using he
  have hnm : n = m := by omega
  refine ⟨fun i _ => 0 ≤ i ∧ i ≤ n ∧ (a = b ↔ a.drop i.toNat = b.drop i.toNat), fun i => n - i.toNat, ⟨by omega, by omega, by simp⟩, ?_⟩
  rintro H2 hle i ⟨h0, h1, h2⟩
  refine ⟨fun hlt => ?_, fun hge => ?_⟩
  · have hlt := of_decide_eq_true hlt
    obtain ⟨hi, hA, _, hc, ⟨rfl, q⟩⟩ := hs.at hle h0 hlt
    obtain ⟨hj, hB, _, hd, ⟨rfl, q'⟩⟩ := ht.at hle h0 (by omega)
    rw [drop_at h0 hi, drop_at h0 hj] at h2
    refine ⟨hA, h0, hlt, _, hc, hB, h0, by omega, _, hd, fun hne => ?_, fun he => ⟨by simp only [rng]; omega, ⟨by omega, by omega, ?_⟩, by dsimp only; omega⟩⟩
    · have : ¬ a = b := fun e => by
        have := h2.1 e
        simp only [List.cons.injEq] at this
        simp [this.1] at hne
      simp [this]
    · have he : a[i.toNat] = b[i.toNat] := by simpa using he
      rw [h2, he]; simp
  · have hge := of_decide_eq_false hge
    rw [drop_end hge hl, List.drop_eq_nil_of_le (by omega)] at h2
    simp [h2.2 rfl]
theorem vio_eq {u v : Vio} : u = v ↔ u.p.lo = v.p.lo ∧ u.p.hi = v.p.hi ∧ u.ids = v.ids := by
  obtain ⟨⟨a, b⟩, i⟩ := u; obtain ⟨⟨c, d⟩, j⟩ := v
  simp [and_assoc]
def an14 : Ann where
  res := fun _ => none
  lend := fun | 39 => true | _ => false
  sch := fun | 6 => (tk [0, 1, 2, 3, 4, 5, 6, 7, 8, 9, 10, 11, 12, 13, 14, 15, 16, 17, 18, 19, 20, 21] (.alt 22 (tk [23, 24] .done) .fin)) | _ => .done
  lt := fun | 4 => [.slot 5 false [.int .i64]] | _ => []
  tup := tups

theorem vc14 (P : Program) (H : Heap) (aA : Option Addr) (aN aC : Nat) (bA : Option Addr) (bN bC : Nat) (post : Bool → Heap → Prop) :
  vcFn P tab an14 Tryz.f14 [.slice aA aN aC, .slice bA bN bC] 0 H ⟨false, [(false, [.bool])]⟩ post =
  (  ((!decide ((↑aN : Int) = (↑bN : Int))) = true → post false H) ∧ ((!decide ((↑aN : Int) = (↑bN : Int))) = false → ∃ (inv2 : Int → Heap → Prop), ∃ (m3 : Int → Nat), inv2 (0 : Int) H ∧ ∀ (H4 :
  Heap), Heap.le H H4 → ∀ (n6 : Int), inv2 n6 H4 → (decide (n6 < (↑aN : Int)) = true → someA aA ∧ (0 : Int) ≤ n6 ∧ n6 < (↑aN : Int) ∧ ∃ (n9 : Int), ∃ (n10 : Int), Cells H4 aA (Int.toNat n6 *
  3 + 0) [.int .i64 n9, .int .i64 n10] ∧ someA bA ∧ (0 : Int) ≤ n6 ∧ n6 < (↑bN : Int) ∧ ∃ (n11 : Int), ∃ (n12 : Int), Cells H4 bA (Int.toNat n6 * 3 + 0) [.int .i64 n11, .int .i64 n12] ∧
  ((!(decide (n9 = n11) && decide (n10 = n12))) = true → post false H4) ∧ ((!(decide (n9 = n11) && decide (n10 = n12))) = false → someA aA ∧ (0 : Int) ≤ n6 ∧ n6 < (↑aN : Int) ∧ ∃ (A15 :
  Option Addr), ∃ (n16 : Nat), ∃ (c17 : Nat), Cells H4 aA (Int.toNat n6 * 3 + 2) [.slice A15 n16 c17] ∧ someA bA ∧ (0 : Int) ≤ n6 ∧ n6 < (↑bN : Int) ∧ ∃ (A18 : Option Addr), ∃ (n19 : Nat), ∃
  (c20 : Nat), Cells H4 bA (Int.toNat n6 * 3 + 2) [.slice A18 n19 c20] ∧ ∃ (post21 : Bool → Heap → Prop), ConT P 35 [.slice A15 n16 c17, .slice A18 n19 c20] H4 ⟨false, [(false, [.bool])]⟩
  post21 ∧ ∀ (H22 : Heap), Heap.le H4 H22 → ∀ (b24 : Bool), post21 b24 H22 → ((!b24) = true → post false H22) ∧ ((!b24) = false → rng .i64 (n6 + (1 : Int)) ∧ inv2 (n6 + (1 : Int)) H22 ∧ m3
  (n6 + (1 : Int)) < m3 n6))) ∧ (decide (n6 < (↑aN : Int)) = false → post true H4))) := by kernel_rfl
theorem ref21_SameViolations {H : Heap} {A B : Option Addr} {n c m d : Nat} {a b : List Vio} (hs : Sl H A n c a) (ht : Sl H B m d b) :
    ConT Tryz.prog 14 [.slice A n c, .slice B m d] H shB (fun r _ => r = decide (a = b)) := by
  refine con_of_vc (an := an14) (fn := Tryz.f14) mix tabOK Tryz.func14 (by kernel_rfl) (extra := 0) ?_
  rw [vc14]
  have hl := hs.len; have hm := ht.len; have hb := hs.bn
  refine ⟨fun hne => ?_, fun he => ?_⟩
  · have : ¬ a = b := fun e => by subst e; simp at hne; omega
    simp [this]
  have hnm' : (n : Int) = m := by simpa using he
  have hnm : n = m := by omega
  refine ⟨fun i _ => 0 ≤ i ∧ i ≤ n ∧ (a = b ↔ a.drop i.toNat = b.drop i.toNat), fun i => n - i.toNat, ⟨by omega, by omega, by simp⟩, ?_⟩
  rintro H2 hle i ⟨h0, h1, h2⟩
  refine ⟨fun hlt => ?_, fun hge => ?_⟩
  · have hlt := of_decide_eq_true hlt
    obtain ⟨hi, hA, _, hc, ⟨A1, n1, c1, rfl, q1, q2, q3⟩⟩ := hs.at hle h0 hlt
    obtain ⟨hj, hB, _, hd, ⟨A2, n2, c2, rfl, p1, p2, p3⟩⟩ := ht.at hle h0 (by omega)
    rw [drop_at h0 hi, drop_at h0 hj] at h2
    have hne' : a[i.toNat] ≠ b[i.toNat] → decide (a = b) = false := fun h => decide_eq_false fun e => by
      have := h2.1 e
      simp only [List.cons.injEq] at this
      exact h this.1
    refine ⟨hA, h0, hlt, _, _, hc.at2 (k := 0) rfl rfl, hB, h0, by omega, _, _, hd.at2 (k := 0) rfl rfl, fun hne => ?_, fun he => ⟨hA, h0, hlt, _, _, _, hc.at1 (k := 2) rfl, hB, h0, by omega, _, _, _, hd.at1 (k := 2) rfl, _, ref1_SameInts q3 p3, ?_⟩⟩
    · rw [hne' fun e => ?_]
      rw [e] at hne
      simp at hne
    · rintro H3 l3 _ rfl
      refine ⟨fun hne => ?_, fun he2 => ⟨by simp only [rng]; omega, ⟨by omega, by omega, ?_⟩, by dsimp only; omega⟩⟩
      · rw [hne' fun e => ?_]
        rw [e] at hne
        simp at hne
      · have e1 : a[i.toNat].p.lo = b[i.toNat].p.lo ∧ a[i.toNat].p.hi = b[i.toNat].p.hi := by simpa using he
        have e2 : a[i.toNat].ids = b[i.toNat].ids := by simpa using he2
        rw [h2, vio_eq.2 ⟨e1.1, e1.2, e2⟩]; simp
  · have hge := of_decide_eq_false hge
    rw [drop_end hge hl, List.drop_eq_nil_of_le (by omega)] at h2
    simp [h2.2 rfl]
def an8 : Ann where
  res := fun _ => none
  lend := fun _ => false
  sch := fun _ => .done
  lt := fun | 2 => [.slot 5 false [.int .i64]] | _ => []
  tup := tups

theorem vc8 (P : Program) (H : Heap) (lA : Option Addr) (lN lC : Nat) (most : Int) (post : Bool → Heap → Prop) :
  vcFn P tab an8 Tryz.f8 [.slice lA lN lC, .int .i64 most] 0 H ⟨false, [(false, [.bool])]⟩ post =
  (  ∃ (inv0 : Int → Heap → Prop), ∃ (m1 : Int → Nat), inv0 (0 : Int) H ∧ ∀ (H2 : Heap), Heap.le H H2 → ∀ (n4 : Int), inv0 n4 H2 → (decide (n4 < (↑lN : Int)) = true → (decide (n4 ≤ most) = true
  → someA lA ∧ (0 : Int) ≤ n4 ∧ n4 < (↑lN : Int) ∧ ∃ (A8 : Option Addr), ∃ (n9 : Nat), ∃ (c10 : Nat), Cells H2 lA (Int.toNat n4 * 4 + 0) [.slice A8 n9 c10] ∧ (decide ((6 : Int) < (↑n9 : Int))
  = true → post false H2) ∧ (decide ((6 : Int) < (↑n9 : Int)) = false → someA lA ∧ (0 : Int) ≤ n4 ∧ n4 < (↑lN : Int) ∧ ∃ (A13 : Option Addr), ∃ (n14 : Nat), ∃ (c15 : Nat), Cells H2 lA
  (Int.toNat n4 * 4 + 3) [.slice A13 n14 c15] ∧ (decide ((6 : Int) < (↑n14 : Int)) = true → post false H2) ∧ (decide ((6 : Int) < (↑n14 : Int)) = false → rng .i64 (n4 + (1 : Int)) ∧ inv0 (n4
  + (1 : Int)) H2 ∧ m1 (n4 + (1 : Int)) < m1 n4))) ∧ (decide (n4 ≤ most) = false → post (decide ((↑lN : Int) ≤ most)) H2)) ∧ (decide (n4 < (↑lN : Int)) = false → post (decide ((↑lN : Int) ≤
  most)) H2)) := by kernel_rfl
theorem law0_FewTuples {H : Heap} {A : Option Addr} {n c most : Nat} {l : List Tup} (hs : Sl H A n c l) :
    ConT Tryz.prog 8 [.slice A n c, .int .i64 most] H shB (fun r _ => r = true → n ≤ most ∧ ∀ t ∈ l, t.lin.length ≤ 6) := by
  refine con_of_vc (an := an8) (fn := Tryz.f8) mix tabOK Tryz.func8 (by kernel_rfl) (extra := 0) ?_
  rw [vc8]
  have hl := hs.len; have hb := hs.bn
  refine ⟨fun i _ => 0 ≤ i ∧ i ≤ n ∧ i ≤ most + 1 ∧ ∀ t ∈ l.take i.toNat, t.lin.length ≤ 6, fun i => n - i.toNat, ⟨by omega, by omega, by omega, by simp⟩, ?_⟩
  rintro H2 hle i ⟨h0, h1, h1', h2⟩
  refine ⟨fun hlt => ⟨fun hm => ?_, fun hm h => ?_⟩, fun hge h => ?_⟩
  · have hlt := of_decide_eq_true hlt
    have hm := of_decide_eq_true hm
    obtain ⟨hi, hA, _, hc, ⟨A9, n9, c9, A14, n15, c16, rfl, q1, q2, q3, q4⟩⟩ := hs.at hle h0 hlt
    refine ⟨hA, h0, hlt, _, _, _, hc.at1 (k := 0) rfl, fun _ h => by simp at h, fun _ => ⟨hA, h0, hlt, _, _, _, hc.at1 (k := 3) rfl, fun _ h => by simp at h, fun h6 => ⟨by simp only [rng]; omega, ⟨by omega, by omega, by omega, ?_⟩, by dsimp only; omega⟩⟩⟩
    have h6 := of_decide_eq_false h6
    rw [show (i + 1).toNat = i.toNat + 1 by omega, List.take_succ_eq_append_getElem hi]
    intro t ht
    rcases List.mem_append.1 ht with ht | ht
    · exact h2 t ht
    · simp at ht; subst ht
      rw [q4.len]; omega
  · have hm := of_decide_eq_false hm; have h := of_decide_eq_true h; have hlt := of_decide_eq_true hlt
    omega
  · have hge := of_decide_eq_false hge; have h := of_decide_eq_true h
    rw [List.take_of_length_le (by omega)] at h2
    exact ⟨by omega, h2⟩
theorem few_tlins {l : List Tup} (h : ∀ t ∈ l, t.lin.length ≤ 6) : (tlins l).length ≤ 6 * l.length := by
  induction l with
  | nil => simp [tlins]
  | cons t l ih =>
    have := ih fun x hx => h x (by simp [hx])
    have h1 := h t (by simp)
    simp only [tlins, List.flatMap_cons, List.length_append, List.length_cons] at *
    omega
def extR (first : Int) (l : List Vio) (v : Vio) : List Vio := if first ≤ (l.length : Int) - 1 then extV l v else l ++ [v]
def an31 : Ann where
  res := fun _ => none
  lend := fun | 34 => true | _ => false
  sch := fun | 2 => (tk [0, 1, 2, 3, 4, 5, 10, 11] (.alt 6 (tk [7, 8] (.alt 9 (tk [12, 13, 14, 15, 16, 20] (.alt 17 (tk [18] (.alt 19 (.alt 21 (tk [22] .done) .fin) .fin)) .fin)) .fin)) .fin)) | _ => .done
  lt := fun _ => []
  tup := tups

theorem vc31 (P : Program) (H : Heap) (first : Int) (pFrom : Int) (pTo : Int) (idsA : Option Addr) (idsN idsC : Nat) (rowN : Nat) (rowXs : List Value) (ri0 : Nat) (post : Nat → List Value → Heap → Prop) :
  vcFnM P tab an31 Tryz.f31 [.slice none 0 0, .int .i64 first, .agg #[.int .i64 pFrom, .int .i64 pTo], .slice idsA idsN idsC] 0 53 rowN rowXs 0 H ⟨false, [(false, [.row ri0 53])]⟩ post =
  (  rng .i64 ((↑rowN : Int) - (1 : Int)) ∧ (decide (first ≤ (↑rowN : Int) - (1 : Int)) = true → (0 : Int) ≤ (↑rowN : Int) - (1 : Int) ∧ (↑rowN : Int) - (1 : Int) < (↑rowN : Int) ∧ ∃ (n1 : Int),
  win rowXs (Int.toNat ((↑rowN : Int) - (1 : Int)) * 3 + 0 + 1) 1 = [.int .i64 n1] ∧ (decide (n1 = pFrom) = true → (0 : Int) ≤ (↑rowN : Int) - (1 : Int) ∧ (↑rowN : Int) - (1 : Int) < (↑rowN :
  Int) ∧ ∃ (A3 : Option Addr), ∃ (n4 : Nat), ∃ (c5 : Nat), win rowXs (Int.toNat ((↑rowN : Int) - (1 : Int)) * 3 + 2) 1 = [.slice A3 n4 c5] ∧ ∃ (post6 : Bool → Heap → Prop), ConT P 35 [.slice
  A3 n4 c5, .slice idsA idsN idsC] H ⟨false, [(false, [.bool])]⟩ post6 ∧ ∀ (H7 : Heap), Heap.le H H7 → ∀ (b9 : Bool), post6 b9 H7 → (b9 = true → (0 : Int) ≤ (↑rowN : Int) - (1 : Int) ∧ (↑rowN
  : Int) - (1 : Int) < (↑rowN : Int) ∧ Int.toNat ((↑rowN : Int) - (1 : Int)) * 3 + 0 + 1 + 1 ≤ List.length rowXs ∧ post rowN (splice rowXs (Int.toNat ((↑rowN : Int) - (1 : Int)) * 3 + 0 + 1)
  [.int .i64 pTo]) H7) ∧ (b9 = false → (rowN + 1) * 40 ≤ 140737488355328 ∧ post (rowN + 1) (rowXs ++ [.int .i64 pFrom, .int .i64 pTo, .slice idsA idsN idsC]) H7)) ∧ (decide (n1 = pFrom) =
  false → (rowN + 1) * 40 ≤ 140737488355328 ∧ post (rowN + 1) (rowXs ++ [.int .i64 pFrom, .int .i64 pTo, .slice idsA idsN idsC]) H)) ∧ (decide (first ≤ (↑rowN : Int) - (1 : Int)) = false →
  (rowN + 1) * 40 ≤ 140737488355328 ∧ post (rowN + 1) (rowXs ++ [.int .i64 pFrom, .int .i64 pTo, .slice idsA idsN idsC]) H)) := by kernel_rfl
theorem ref21_extend {H : Heap} {n r : Nat} {xs : List Value} {l : List Vio} {v : Vio} {first : Int} {A : Option Addr} {m c : Nat} (hr : Row H xs l) (hl : l.length = n) (hf : 0 ≤ first) (hb : (n + 1) * 40 ≤ 140737488355328) (h1 : rng .i64 v.p.lo) (h2 : rng .i64 v.p.hi) (hs : Sl H A m c v.ids) :
    ConM Tryz.prog 31 [.slice none 0 0, .int .i64 first, .agg ⟨[.int .i64 v.p.lo, .int .i64 v.p.hi]⟩, .slice A m c] 0 53 n xs false H ⟨false, [(false, [.row r 53])]⟩
      (fun _ => fun k ys H' => k = (extR first l v).length ∧ Row H' ys (extR first l v)) := by
  refine conM_of_vc (an := an31) (fn := Tryz.f31) mix tabOK Tryz.func31 (by kernel_rfl) (extra := 0) (by simp) ?_
  rw [vc31]
  have happ : ∀ {H' : Heap}, Heap.le H H' → Row H' (xs ++ [.int .i64 v.p.lo, .int .i64 v.p.hi, .slice A m c]) (l ++ [v]) := fun hle => (hr.mono hle).append ⟨_, [], by simp, ⟨_, _, _, rfl, h1, h2, hs.mono hle⟩, rfl⟩
  have hlen := hr.length
  refine ⟨by simp only [rng]; omega, fun hn => ?_, fun hn => ?_⟩
  · have hn := of_decide_eq_true hn
    have hi : ((n : Int) - 1).toNat < l.length := by omega
    have hR : extR first l v = extV l v := if_pos (by rw [hl]; exact hn)
    obtain ⟨vs, ⟨A1, n1, c1, rfl, q1, q2, q3⟩, hg, hsp⟩ := hr.getf hi
    have hlast : l.getLast? = some l[((n : Int) - 1).toNat] := by
      rw [List.getLast?_eq_getElem?, List.getElem?_eq_getElem (by omega)]
      congr 2; omega
    have hw1 := hg 1 1 (by decide)
    have hw2 := hg 2 1 (by decide)
    rw [hR]
    refine ⟨by omega, by omega, _, hw1, fun he => ⟨by omega, by omega, _, _, _, hw2, _, ref1_SameInts q3 hs, ?_⟩, fun he => ⟨by omega, ?_⟩⟩
    · have he := of_decide_eq_true he
      rintro H3 l3 _ rfl
      refine ⟨fun hq => ?_, fun hq => ⟨by omega, ?_⟩⟩
      · have hq := of_decide_eq_true hq
        have hext : extV l v = l.set ((n : Int) - 1).toNat ⟨⟨l[((n : Int) - 1).toNat].p.lo, v.p.hi⟩, l[((n : Int) - 1).toNat].ids⟩ := by
          unfold extV
          rw [hlast]
          simp only
          rw [if_pos ⟨he, hq⟩, ← set_last (by omega), show l.length - 1 = ((n : Int) - 1).toNat by omega]
        refine ⟨by omega, by omega, ?_, ?_⟩
        · rw [hlen]
          show _ ≤ l.length * 3
          omega
        · rw [hext]
          refine ⟨by simp [hl], ?_⟩
          exact (hsp 1 [.int .i64 v.p.hi] ⟨⟨l[((n : Int) - 1).toNat].p.lo, v.p.hi⟩, l[((n : Int) - 1).toNat].ids⟩ (by show 1 + 1 ≤ 3; omega) ⟨A1, n1, c1, rfl, q1, h2, q3⟩).mono l3
      · have hq := of_decide_eq_false hq
        have hext : extV l v = l ++ [v] := by
          unfold extV
          rw [hlast]
          simp only
          rw [if_neg (fun h => hq h.2)]
        rw [hext]
        exact ⟨by simp [hl], happ l3⟩
    · have he := of_decide_eq_false he
      have hext : extV l v = l ++ [v] := by
        unfold extV
        rw [hlast]
        simp only
        rw [if_neg (fun h => he h.1)]
      rw [hext]
      exact ⟨by simp [hl], happ (hle_refl H)⟩
  · have hn := of_decide_eq_false hn
    have hR : extR first l v = l ++ [v] := if_neg (by rw [hl]; exact hn)
    rw [hR]
    exact ⟨by omega, by simp [hl], happ (hle_refl H)⟩
theorem extR_at (l w : List Vio) (v : Vio) : extR (l.length : Int) (l ++ w) v = l ++ extV w v := by
  unfold extR
  rcases List.eq_nil_or_concat w with rfl | ⟨w', u, rfl⟩
  · rw [if_neg (by simp; omega)]
    simp [extV]
  · rw [if_pos (by simp; omega)]
    have h1 : (l ++ w'.concat u).getLast? = some u := by simp
    have h2 : (w'.concat u).getLast? = some u := by simp
    unfold extV
    rw [h1, h2]
    simp only
    split
    · rw [List.concat_eq_append, ← List.append_assoc, List.dropLast_concat, List.dropLast_concat, List.append_assoc]
    · simp
/- one key's violations, as the reference says it -/
def sweepT (S : List Tup) : List Int → List Vio → List Vio
  | f :: t :: ps, out => sweepT S (t :: ps) (if 2 ≤ (S.filter (inT f)).length then extV out ⟨⟨f, t⟩, canon (tlins (S.filter (inT f)))⟩ else out)
  | _, out => out
theorem sweepT_len (S : List Tup) : ∀ (ps : List Int) (out : List Vio), (sweepT S ps out).length ≤ out.length + ps.length
  | [], out => by simp [sweepT]
  | [x], out => by simp [sweepT]
  | f :: t :: ps, out => by
    rw [sweepT]
    have h := sweepT_len S (t :: ps) (if 2 ≤ (S.filter (inT f)).length then extV out ⟨⟨f, t⟩, canon (tlins (S.filter (inT f)))⟩ else out)
    have h2 : (if 2 ≤ (S.filter (inT f)).length then extV out ⟨⟨f, t⟩, canon (tlins (S.filter (inT f)))⟩ else out).length ≤ out.length + 1 := by
      split
      · exact extV_len _ _
      · omega
    simp only [List.length_cons] at h ⊢
    omega
def keyV (l : List Tup) (cols : List Int) (v : List Val) : List Vio := sweepT (withK l cols v) (canon (tends (withK l cols v))) []
theorem keyV_len (l : List Tup) (cols : List Int) (v : List Val) : (keyV l cols v).length ≤ 2 * l.length := by
  have h1 := sweepT_len (withK l cols v) (canon (tends (withK l cols v))) []
  have h2 := canon_len (tends (withK l cols v))
  have h3 := tends_len (withK l cols v)
  have h4 := withK_len l cols v
  unfold keyV
  simp only [List.length_nil] at h1
  omega
end Go.Vc
/- Plain law: the program's violations are the reference's. -/
namespace Go.Vc
open Go
theorem inT_at {x : Kd} (h : pOk x.t.p = true) (f : Int) : inT f x.t = atD f x := by
  have := pOk_iff.1 h
  rw [Bool.eq_iff_iff, inT, pIn_iff]
  simp only [atD, Bool.and_eq_true, decide_eq_true_eq]; omega
theorem at_perm {A : List Kd} {S : List Tup} (hv : ∀ x ∈ A, pOk x.t.p = true) (hp : (A.map (·.t)).Perm S) (f : Int) : ((A.filter (atD f)).map (·.t)).Perm (S.filter (inT f)) := by
  refine List.Perm.trans (List.Perm.of_eq ?_) (hp.filter (inT f))
  rw [List.filter_map]
  congr 1
  exact List.filter_congr fun x hx => (inT_at (hv x hx) f).symm
theorem lins_map (A : List Kd) : lins A = tlins (A.map (·.t)) := by simp [lins, tlins, List.flatMap_map]
theorem merged_at {A : List Kd} {S : List Tup} (hv : ∀ x ∈ A, pOk x.t.p = true) (hp : (A.map (·.t)).Perm S) (f : Int) : mergedL (A.filter (atD f)) = canon (tlins (S.filter (inT f))) := by
  unfold mergedL mergeLin
  rw [List.append_nil, lins_map]
  exact canon_eq fun y => ((at_perm hv hp f).flatMap_right _).mem_iff
theorem points_at {A : List Kd} {S : List Tup} (hv : ∀ x ∈ A, pOk x.t.p = true) (hp : (A.map (·.t)).Perm S) : points A = canon (tends S) := by
  refine canon_eq fun y => ?_
  rw [ends, tends, List.mem_flatMap, List.mem_flatMap]
  constructor
  · rintro ⟨x, hx, hy⟩
    exact ⟨x.t, List.mem_filter.2 ⟨hp.mem_iff.1 (List.mem_map.2 ⟨x, hx, rfl⟩), hv x hx⟩, hy⟩
  · rintro ⟨t, ht, hy⟩
    obtain ⟨x, hx, rfl⟩ := List.mem_map.1 (hp.mem_iff.2 (List.mem_filter.1 ht).1)
    exact ⟨x, hx, hy⟩
theorem sweep_same {A : List Kd} {S : List Tup} (hv : ∀ x ∈ A, pOk x.t.p = true) (hp : (A.map (·.t)).Perm S) : ∀ (ps : List Int) (out : List Vio), sweepG A ps out = sweepT S ps out
  | [], out => rfl
  | [x], out => rfl
  | f :: t :: ps, out => by
    have h := (at_perm hv hp f).length_eq
    rw [List.length_map] at h
    rw [sweepG, sweepT, sweep_same hv hp (t :: ps), h, merged_at hv hp f]
theorem sweep_few {A : List Kd} (h : ¬ 2 ≤ A.length) : ∀ (ps : List Int) (out : List Vio), sweepG A ps out = out
  | [], out => rfl
  | [x], out => rfl
  | f :: t :: ps, out => by
    have := List.length_filter_le (atD f) A
    rw [sweepG, if_neg (by omega), sweep_few h (t :: ps)]
theorem filter_all {T : Type} {p : T → Bool} {l : List T} (h : ∀ x ∈ l, p x = true) : l.filter p = l := List.filter_eq_self.2 h
theorem filter_none {T : Type} {p : T → Bool} {l : List T} (h : ∀ x ∈ l, p x = false) : l.filter p = [] := List.filter_eq_nil_iff.2 fun x hx => by rw [h x hx]; simp
def atK (v : List Val) (x : Kd) : Bool := decide (x.key = v)
/- group by group -/
theorem viol_keys {F : List Val → List Vio} {g : List Kd} (hs : sortedK g) : (∀ x ∈ g, x.t.p.lo < x.t.p.hi) → ∀ vs : List (List Val), ascV vs → (∀ v, v ∈ vs ↔ ∃ k ∈ g, k.key = v) →
    (∀ v ∈ vs, F v = sweepG (g.filter (atK v)) (points (g.filter (atK v))) []) → violL g = vs.flatMap F := by
  refine viol_ind (p := fun g => (∀ x ∈ g, x.t.p.lo < x.t.p.hi) → ∀ vs : List (List Val), ascV vs → (∀ v, v ∈ vs ↔ ∃ k ∈ g, k.key = v) →
    (∀ v ∈ vs, F v = sweepG (g.filter (atK v)) (points (g.filter (atK v))) []) → violL g = vs.flatMap F) ?_ ?_ g hs
  · intro _ vs _ hm _
    have : vs = [] := List.eq_nil_iff_forall_not_mem.2 fun v hv => by obtain ⟨k, hk, _⟩ := (hm v).1 hv; cases hk
    subst this; rfl
  · intro k r hs hg ih hv vs ha hm hF
    have hk : k.key ∈ vs := (hm _).2 ⟨k, by simp, rfl⟩
    cases vs with
    | nil => cases hk
    | cons v0 vs' =>
      obtain ⟨a1, a2⟩ := List.pairwise_cons.1 ha
      -- the first key
      have hv0 : v0 = k.key := by
        rcases List.mem_cons.1 hk with h | h
        · exact h.symm
        · have h1 := a1 _ h
          obtain ⟨x, hx, hxk⟩ := (hm v0).1 (by simp)
          rw [hg.eq] at hx
          rcases List.mem_append.1 hx with hx | hx
          · rw [← hxk]; exact hg.same x hx
          · have h2 := hg.rest x hx
            rw [hxk] at h2
            have := cmpVs_ord.anti v0 k.key
            omega
      subst hv0
      have hne : ∀ x ∈ r.dropWhile (sameK k), x.key ≠ k.key := fun x hx e => by
        have := hg.rest x hx
        rw [e, cmpVs_ord.refl] at this
        exact absurd this (by decide)
      have hA : (k :: r).filter (atK k.key) = k :: r.takeWhile (sameK k) := by
        rw [hg.eq, List.filter_append, filter_all (fun x hx => by simp only [atK, decide_eq_true_eq]; exact hg.same x hx), filter_none (fun x hx => by simp only [atK, decide_eq_false_iff_not]; exact hne x hx), List.append_nil]
      have hva : ∀ x ∈ k :: r.takeWhile (sameK k), x.t.p.lo < x.t.p.hi := fun x hx => hv x (by rw [hg.eq]; exact List.mem_append_left _ hx)
      have hvb : ∀ x ∈ r.dropWhile (sameK k), x.t.p.lo < x.t.p.hi := fun x hx => hv x (by rw [hg.eq]; exact List.mem_append_right _ hx)
      have h1 : F k.key = if 2 ≤ (k :: r.takeWhile (sameK k)).length then confl (k :: r.takeWhile (sameK k)) else [] := by
        rw [hF _ (by simp), hA]
        split
        · rw [confl_sweep hg.asc hva]
        · rename_i h; exact sweep_few h _ _
      have hm' : ∀ v, v ∈ vs' ↔ ∃ x ∈ r.dropWhile (sameK k), x.key = v := by
        intro v
        constructor
        · intro hv'
          obtain ⟨x, hx, hxv⟩ := (hm v).1 (by simp [hv'])
          rw [hg.eq] at hx
          rcases List.mem_append.1 hx with hx | hx
          · have := a1 v hv'
            rw [← hxv, hg.same x hx, cmpVs_ord.refl] at this
            exact absurd this (by decide)
          · exact ⟨x, hx, hxv⟩
        · rintro ⟨x, hx, rfl⟩
          have : x.key ∈ k.key :: vs' := (hm _).2 ⟨x, by rw [hg.eq]; exact List.mem_append_right _ hx, rfl⟩
          rcases List.mem_cons.1 this with h | h
          · exact absurd h (hne x hx)
          · exact h
      have hF' : ∀ v ∈ vs', F v = sweepG ((r.dropWhile (sameK k)).filter (atK v)) (points ((r.dropWhile (sameK k)).filter (atK v))) [] := by
        intro v hv'
        have hnv : k.key ≠ v := fun e => by
          have := a1 v hv'
          rw [e, cmpVs_ord.refl] at this
          exact absurd this (by decide)
        rw [hF v (by simp [hv']), hg.eq, List.filter_append, filter_none (l := k :: r.takeWhile (sameK k)) (fun x hx => by simp only [atK, decide_eq_false_iff_not]; rw [hg.same x hx]; exact hnv), List.nil_append]
      rw [violL_cons, List.flatMap_cons, ih hvb vs' a2 hm' hF', h1]
theorem byKey_at (l : List Tup) (cols : List Int) (v : List Val) : ((byKeyL l cols).filter (atK v)).map (·.t) = withK l cols v := by
  induction l with
  | nil => rfl
  | cons t l ih =>
    simp only [byKeyL, withK, List.filter_cons] at ih ⊢
    by_cases hp : pOk t.p = true
    · rw [if_pos hp, List.map_cons, List.filter_cons]
      by_cases hk : keyVals t.vals cols = v
      · rw [if_pos (by simpa [atK] using hk), List.map_cons, ih, if_pos (by rw [hp, hk, cmpVs_ord.refl]; rfl)]
      · rw [if_neg (by simpa [atK] using hk), ih, if_neg (by rw [Bool.and_eq_true, decide_eq_true_eq, cmpVs_zero]; exact fun h => hk h.2)]
    · rw [if_neg hp, ih, if_neg (by rw [Bool.and_eq_true]; exact fun h => hp h.1)]
theorem viol_ref {l : List Tup} {cols : List Int} {g : List Kd} {vs : List (List Val)} (hp : g.Perm (byKeyL l cols)) (hs : sortedK g) (ha : ascV vs) (hm : ∀ v, v ∈ vs ↔ ∃ k ∈ byKeyL l cols, k.key = v) : violL g = vs.flatMap (keyV l cols) := by
  have hok : ∀ x ∈ g, pOk x.t.p = true := fun x hx => by
    have := hp.mem_iff.1 hx
    simp only [byKeyL, List.mem_map, List.mem_filter] at this
    obtain ⟨t, ⟨-, h⟩, rfl⟩ := this
    exact h
  refine viol_keys hs (fun x hx => (pOk_iff.1 (hok x hx)).2.1) vs ha (fun v => ?_) fun v _ => ?_
  · rw [hm]
    constructor
    · rintro ⟨k, h1, h2⟩; exact ⟨k, hp.mem_iff.2 h1, h2⟩
    · rintro ⟨k, h1, h2⟩; exact ⟨k, hp.mem_iff.1 h1, h2⟩
  · have hv : ∀ x ∈ g.filter (atK v), pOk x.t.p = true := fun x hx => hok x (List.mem_filter.1 hx).1
    have hpp : ((g.filter (atK v)).map (·.t)).Perm (withK l cols v) := by
      rw [← byKey_at]
      exact (hp.filter _).map _
    rw [keyV, sweep_same hv hpp, points_at hv hpp]
/- any two sorted orders give the same violations -/
theorem viol_same {l : List Tup} {cols : List Int} {g g' : List Kd} {vs : List (List Val)} (hp : g.Perm (byKeyL l cols)) (hs : sortedK g) (hp' : g'.Perm (byKeyL l cols)) (hs' : sortedK g') (ha : ascV vs) (hm : ∀ v, v ∈ vs ↔ ∃ k ∈ byKeyL l cols, k.key = v) : violL g = violL g' := by
  rw [viol_ref hp hs ha hm, viol_ref hp' hs' ha hm]
end Go.Vc
/- Normal forms of period sets. -/
namespace Go.Vc
open Go Go.Proofs Go.Shelf
def an90 : Ann where
  res := fun _ => none
  lend := fun _ => false
  sch := fun | 3 => (tk [0, 1, 2, 3, 4, 5, 6, 7, 8, 9, 10, 11, 12, 13] .done) | 6 => (tk [0, 1, 2, 3, 4, 5, 6, 7, 8, 9, 10, 11, 12, 13] .done) | 7 => (tk [0, 1, 2, 3, 4, 5, 6, 7, 8] (.alt 9 .done .fin)) | 8 => (tk [0, 1, 2, 3, 4, 5, 6, 7, 8] (.alt 9 .done .fin)) | 10 => (tk [0, 1, 4, 5, 6] (.alt 2 (.alt 3 (.alt 7 (tk [8] .done) .fin) .fin) .fin)) | _ => .done
  lt := fun | 3 => [.slot 5 false [.row 72 51], .slot 6 false [.int .i64]] | 6 => [.slot 6 false [.int .i64], .box 3 51 [.int .i64, .int .i64]] | _ => []
  tup := tups

theorem vc90 (P : Program) (H : Heap) (sA : Option Addr) (sN sC : Nat) (p1From : Int) (p1To : Int) (post : Option Addr → Nat → Nat → Heap → Prop) :
  vcFn P tab an90 Tryz.f90 [.slice sA sN sC, .agg #[.int .i64 p1From, .int .i64 p1To]] 1 H ⟨false, [(false, [.sl])]⟩ post =
  (  ∃ (inv0 : Nat → List Value → Int → Heap → Prop), ∃ (m1 : Nat → List Value → Int → Nat), inv0 0 [] (0 : Int) H ∧ ∀ (H2 : Heap), Heap.le H H2 → ∀ (n4 : Nat) (xs5 : List Value) (n6 : Int),
  inv0 n4 xs5 n6 H2 → (decide (n6 < (↑sN : Int)) = true → someA sA ∧ (0 : Int) ≤ n6 ∧ n6 < (↑sN : Int) ∧ ∃ (n9 : Int), Cells H2 sA (Int.toNat n6 * 2 + 1) [.int .i64 n9] ∧ (decide (n9 <
  p1From) = true → someA sA ∧ (0 : Int) ≤ n6 ∧ n6 < (↑sN : Int) ∧ ∃ (n11 : Int), ∃ (n12 : Int), Cells H2 sA (Int.toNat n6 * 2) [.int .i64 n11, .int .i64 n12] ∧ (n4 + 1) * 16 ≤ 140737488355328
  ∧ rng .i64 (n6 + (1 : Int)) ∧ inv0 (n4 + 1) (xs5 ++ [.int .i64 n11, .int .i64 n12]) (n6 + (1 : Int)) H2 ∧ m1 (n4 + 1) (xs5 ++ [.int .i64 n11, .int .i64 n12]) (n6 + (1 : Int)) < m1 n4 xs5
  n6) ∧ (decide (n9 < p1From) = false → ∃ (inv14 : Int → Int → Int → Heap → Prop), ∃ (m15 : Int → Int → Int → Nat), inv14 n6 p1From p1To H2 ∧ ∀ (H16 : Heap), Heap.le H2 H16 → ∀ (n18 n19 n20 :
  Int), inv14 n18 n19 n20 H16 → (decide (n18 < (↑sN : Int)) = true → someA sA ∧ (0 : Int) ≤ n18 ∧ n18 < (↑sN : Int) ∧ ∃ (n23 : Int), Cells H16 sA (Int.toNat n18 * 2 + 0) [.int .i64 n23] ∧
  (decide (n23 ≤ n20) = true → someA sA ∧ (0 : Int) ≤ n18 ∧ n18 < (↑sN : Int) ∧ ∃ (n25 : Int), Cells H16 sA (Int.toNat n18 * 2 + 0) [.int .i64 n25] ∧ someA sA ∧ (0 : Int) ≤ n18 ∧ n18 < (↑sN :
  Int) ∧ ∃ (n26 : Int), Cells H16 sA (Int.toNat n18 * 2 + 1) [.int .i64 n26] ∧ rng .i64 (n18 + (1 : Int)) ∧ inv14 (n18 + (1 : Int)) (min n19 n25) (max n20 n26) H16 ∧ m15 (n18 + (1 : Int))
  (min n19 n25) (max n20 n26) < m15 n18 n19 n20) ∧ (decide (n23 ≤ n20) = false → (0 : Int) ≤ n18 ∧ n18 ≤ (↑sN : Int) ∧ (↑sN : Int) ≤ (↑sC : Int) ∧ ∀ (A28 : Option Addr), A28 = subA sA sC
  (Int.toNat n18) 2 → (n4 + 1) * 16 ≤ 140737488355328 ∧ ∃ (ys30 : List Value), Cells H16 A28 0 ys30 ∧ List.length ys30 = (Int.toNat (↑sN : Int) - Int.toNat n18) * 2 ∧ (n4 + 1 + (Int.toNat
  (↑sN : Int) - Int.toNat n18)) * 16 ≤ 140737488355328 ∧ ∀ (A31 : Option Addr) (c32 : Nat) (H33 : Heap), Heap.le H16 H33 → Cells H33 A31 0 (xs5 ++ [.int .i64 n19, .int .i64 n20] ++ ys30) → n4
  + 1 + (Int.toNat (↑sN : Int) - Int.toNat n18) ≤ c32 → post A31 (n4 + 1 + (Int.toNat (↑sN : Int) - Int.toNat n18)) c32 H33)) ∧ (decide (n18 < (↑sN : Int)) = false → (0 : Int) ≤ n18 ∧ n18 ≤
  (↑sN : Int) ∧ (↑sN : Int) ≤ (↑sC : Int) ∧ ∀ (A38 : Option Addr), A38 = subA sA sC (Int.toNat n18) 2 → (n4 + 1) * 16 ≤ 140737488355328 ∧ ∃ (ys40 : List Value), Cells H16 A38 0 ys40 ∧
  List.length ys40 = (Int.toNat (↑sN : Int) - Int.toNat n18) * 2 ∧ (n4 + 1 + (Int.toNat (↑sN : Int) - Int.toNat n18)) * 16 ≤ 140737488355328 ∧ ∀ (A41 : Option Addr) (c42 : Nat) (H43 : Heap),
  Heap.le H16 H43 → Cells H43 A41 0 (xs5 ++ [.int .i64 n19, .int .i64 n20] ++ ys40) → n4 + 1 + (Int.toNat (↑sN : Int) - Int.toNat n18) ≤ c42 → post A41 (n4 + 1 + (Int.toNat (↑sN : Int) -
  Int.toNat n18)) c42 H43))) ∧ (decide (n6 < (↑sN : Int)) = false → ∃ (inv48 : Int → Int → Int → Heap → Prop), ∃ (m49 : Int → Int → Int → Nat), inv48 n6 p1From p1To H2 ∧ ∀ (H50 : Heap),
  Heap.le H2 H50 → ∀ (n52 n53 n54 : Int), inv48 n52 n53 n54 H50 → (decide (n52 < (↑sN : Int)) = true → someA sA ∧ (0 : Int) ≤ n52 ∧ n52 < (↑sN : Int) ∧ ∃ (n57 : Int), Cells H50 sA (Int.toNat
  n52 * 2 + 0) [.int .i64 n57] ∧ (decide (n57 ≤ n54) = true → someA sA ∧ (0 : Int) ≤ n52 ∧ n52 < (↑sN : Int) ∧ ∃ (n59 : Int), Cells H50 sA (Int.toNat n52 * 2 + 0) [.int .i64 n59] ∧ someA sA ∧
  (0 : Int) ≤ n52 ∧ n52 < (↑sN : Int) ∧ ∃ (n60 : Int), Cells H50 sA (Int.toNat n52 * 2 + 1) [.int .i64 n60] ∧ rng .i64 (n52 + (1 : Int)) ∧ inv48 (n52 + (1 : Int)) (min n53 n59) (max n54 n60)
  H50 ∧ m49 (n52 + (1 : Int)) (min n53 n59) (max n54 n60) < m49 n52 n53 n54) ∧ (decide (n57 ≤ n54) = false → (0 : Int) ≤ n52 ∧ n52 ≤ (↑sN : Int) ∧ (↑sN : Int) ≤ (↑sC : Int) ∧ ∀ (A62 : Option
  Addr), A62 = subA sA sC (Int.toNat n52) 2 → (n4 + 1) * 16 ≤ 140737488355328 ∧ ∃ (ys64 : List Value), Cells H50 A62 0 ys64 ∧ List.length ys64 = (Int.toNat (↑sN : Int) - Int.toNat n52) * 2 ∧
  (n4 + 1 + (Int.toNat (↑sN : Int) - Int.toNat n52)) * 16 ≤ 140737488355328 ∧ ∀ (A65 : Option Addr) (c66 : Nat) (H67 : Heap), Heap.le H50 H67 → Cells H67 A65 0 (xs5 ++ [.int .i64 n53, .int
  .i64 n54] ++ ys64) → n4 + 1 + (Int.toNat (↑sN : Int) - Int.toNat n52) ≤ c66 → post A65 (n4 + 1 + (Int.toNat (↑sN : Int) - Int.toNat n52)) c66 H67)) ∧ (decide (n52 < (↑sN : Int)) = false →
  (0 : Int) ≤ n52 ∧ n52 ≤ (↑sN : Int) ∧ (↑sN : Int) ≤ (↑sC : Int) ∧ ∀ (A72 : Option Addr), A72 = subA sA sC (Int.toNat n52) 2 → (n4 + 1) * 16 ≤ 140737488355328 ∧ ∃ (ys74 : List Value), Cells
  H50 A72 0 ys74 ∧ List.length ys74 = (Int.toNat (↑sN : Int) - Int.toNat n52) * 2 ∧ (n4 + 1 + (Int.toNat (↑sN : Int) - Int.toNat n52)) * 16 ≤ 140737488355328 ∧ ∀ (A75 : Option Addr) (c76 :
  Nat) (H77 : Heap), Heap.le H50 H77 → Cells H77 A75 0 (xs5 ++ [.int .i64 n53, .int .i64 n54] ++ ys74) → n4 + 1 + (Int.toNat (↑sN : Int) - Int.toNat n52) ≤ c76 → post A75 (n4 + 1 + (Int.toNat
  (↑sN : Int) - Int.toNat n52)) c76 H77))) := by kernel_rfl
theorem ref1_insert {H : Heap} {A : Option Addr} {n c : Nat} {l : List Per} {lo hi : Int} (hs : Sl H A n c l) (hlo : rng .i64 lo) (hhi : rng .i64 hi) (hb : (l.length + 1) * 16 ≤ 140737488355328) :
    ConT Tryz.prog 90 [.slice A n c, .agg ⟨[.int .i64 lo, .int .i64 hi]⟩] H shS (fun A' n' c' H' => Sl H' A' n' c' (ins ⟨lo, hi⟩ l)) := by
  refine con_of_vc (an := an90) (fn := Tryz.f90) mix tabOK Tryz.func90 (by kernel_rfl) (extra := 1) ?_
  rw [vc90]
  have b1 := hs.bn; have b2 := hs.len; have b3 := hs.cap
  have htot := ins_length ⟨lo, hi⟩ l
  refine ⟨fun m xs i H' => 0 ≤ i ∧ i ≤ n ∧ ∃ out : List Per, Row H' xs out ∧ out.length = m ∧ m = i.toNat ∧ ins ⟨lo, hi⟩ l = out ++ ins ⟨lo, hi⟩ (l.drop i.toNat), fun _ _ i => n - i.toNat, ⟨by omega, by omega, [], rfl, rfl, rfl, rfl⟩, ?_⟩
  rintro H2 l2 m xs i ⟨h0, h1, out, hr, hm, hmi, he⟩
  have tail : ∀ {H2 : Heap}, Heap.le H H2 → Row H2 xs out → ins ⟨lo, hi⟩ l = out ++ ins2 lo hi (l.drop i.toNat) →
      ∃ (inv14 : Int → Int → Int → Heap → Prop), ∃ (m15 : Int → Int → Int → Nat), inv14 i lo hi H2 ∧ ∀ (H16 : Heap), Heap.le H2 H16 → ∀ (n18 n19 n20 : Int), inv14 n18 n19 n20 H16 →
        (decide (n18 < (n : Int)) = true → someA A ∧ 0 ≤ n18 ∧ n18 < (n : Int) ∧ ∃ n23 : Int, Cells H16 A (n18.toNat * 2 + 0) [.int .i64 n23] ∧
          (decide (n23 ≤ n20) = true → someA A ∧ 0 ≤ n18 ∧ n18 < (n : Int) ∧ ∃ n25 : Int, Cells H16 A (n18.toNat * 2 + 0) [.int .i64 n25] ∧ someA A ∧ 0 ≤ n18 ∧ n18 < (n : Int) ∧ ∃ n26 : Int, Cells H16 A (n18.toNat * 2 + 1) [.int .i64 n26] ∧
            rng .i64 (n18 + 1) ∧ inv14 (n18 + 1) (min n19 n25) (max n20 n26) H16 ∧ m15 (n18 + 1) (min n19 n25) (max n20 n26) < m15 n18 n19 n20) ∧
          (decide (n23 ≤ n20) = false → 0 ≤ n18 ∧ n18 ≤ (n : Int) ∧ (n : Int) ≤ (c : Int) ∧ ∀ A28 : Option Addr, A28 = subA A c n18.toNat 2 → (m + 1) * 16 ≤ 140737488355328 ∧ ∃ ys30 : List Value, Cells H16 A28 0 ys30 ∧ ys30.length = ((n : Int).toNat - n18.toNat) * 2 ∧
            (m + 1 + ((n : Int).toNat - n18.toNat)) * 16 ≤ 140737488355328 ∧ ∀ (A31 : Option Addr) (c32 : Nat) (H33 : Heap), Heap.le H16 H33 → Cells H33 A31 0 (xs ++ [.int .i64 n19, .int .i64 n20] ++ ys30) → m + 1 + ((n : Int).toNat - n18.toNat) ≤ c32 →
              Sl H33 A31 (m + 1 + ((n : Int).toNat - n18.toNat)) c32 (ins ⟨lo, hi⟩ l))) ∧
        (decide (n18 < (n : Int)) = false → 0 ≤ n18 ∧ n18 ≤ (n : Int) ∧ (n : Int) ≤ (c : Int) ∧ ∀ A28 : Option Addr, A28 = subA A c n18.toNat 2 → (m + 1) * 16 ≤ 140737488355328 ∧ ∃ ys30 : List Value, Cells H16 A28 0 ys30 ∧ ys30.length = ((n : Int).toNat - n18.toNat) * 2 ∧
            (m + 1 + ((n : Int).toNat - n18.toNat)) * 16 ≤ 140737488355328 ∧ ∀ (A31 : Option Addr) (c32 : Nat) (H33 : Heap), Heap.le H16 H33 → Cells H33 A31 0 (xs ++ [.int .i64 n19, .int .i64 n20] ++ ys30) → m + 1 + ((n : Int).toNat - n18.toNat) ≤ c32 →
              Sl H33 A31 (m + 1 + ((n : Int).toNat - n18.toNat)) c32 (ins ⟨lo, hi⟩ l)) := by
    intro H2 l2 hr he
    refine ⟨fun j u v _ => i ≤ j ∧ j ≤ n ∧ rng .i64 u ∧ rng .i64 v ∧ ins2 lo hi (l.drop i.toNat) = ins2 u v (l.drop j.toNat), fun j _ _ => n - j.toNat, ⟨by omega, by omega, hlo, hhi, rfl⟩, ?_⟩
    rintro H3 l3 j u v ⟨j0, j1, ru, rv, hj⟩
    have L3 := hle_trans l2 l3
    have fin : ins2 u v (l.drop j.toNat) = ⟨u, v⟩ :: l.drop j.toNat → 0 ≤ j ∧ j ≤ (n : Int) ∧ (n : Int) ≤ (c : Int) ∧ ∀ A28 : Option Addr, A28 = subA A c j.toNat 2 → (m + 1) * 16 ≤ 140737488355328 ∧ ∃ ys30 : List Value, Cells H3 A28 0 ys30 ∧ ys30.length = ((n : Int).toNat - j.toNat) * 2 ∧
            (m + 1 + ((n : Int).toNat - j.toNat)) * 16 ≤ 140737488355328 ∧ ∀ (A31 : Option Addr) (c32 : Nat) (H33 : Heap), Heap.le H3 H33 → Cells H33 A31 0 (xs ++ [.int .i64 u, .int .i64 v] ++ ys30) → m + 1 + ((n : Int).toNat - j.toNat) ≤ c32 →
              Sl H33 A31 (m + 1 + ((n : Int).toNat - j.toNat)) c32 (ins ⟨lo, hi⟩ l) := by
      intro hfin
      have hR : ins ⟨lo, hi⟩ l = out ++ [⟨u, v⟩] ++ l.drop j.toNat := by rw [he, hj, hfin]; simp
      have hRl := congrArg List.length hR
      simp only [List.length_append, List.length_cons, List.length_nil, List.length_drop] at hRl
      refine ⟨by omega, j1, by omega, ?_⟩
      rintro A28 rfl
      have hsub := (hs.mono L3).sub (j := j.toNat) (k := n) (by omega) (by omega)
      rw [List.take_of_length_le (by omega)] at hsub
      obtain ⟨ys, y1, y2⟩ := hsub.row
      have y3 := y2.length
      rw [List.length_drop] at y3
      refine ⟨by omega, ys, y1, by rw [y3, b2, Int.toNat_natCast]; rfl, by omega, ?_⟩
      intro A31 c32 H33 l33 hc33 hn33
      rw [hR]
      have hrow : Row H3 (xs ++ [.int .i64 u, .int .i64 v] ++ ys) (out ++ [⟨u, v⟩] ++ l.drop j.toNat) := ((hr.mono l3).append (Row.one (t := (⟨u, v⟩ : Per)) ⟨rfl, ru, rv⟩)).append y2
      refine hrow.sl l33 hc33 ?_ hn33 (by show _ * 16 ≤ _; omega) (by omega)
      simp only [List.length_append, List.length_cons, List.length_nil, List.length_drop]; omega
    refine ⟨fun hlt => ?_, fun hge => fin (by rw [drop_end (of_decide_eq_false hge) b2]; rfl)⟩
    have hlt := of_decide_eq_true hlt
    obtain ⟨hi', hA, _, hc, ⟨rfl, r1, r2⟩⟩ := hs.at L3 (i := j) (by omega) hlt
    refine ⟨hA, by omega, hlt, _, hc.at1 (k := 0) rfl, fun hle => ?_, fun hgt => ?_⟩
    · have hle := of_decide_eq_true hle
      refine ⟨hA, by omega, hlt, _, hc.at1 (k := 0) rfl, hA, by omega, hlt, _, hc.at1 (k := 1) rfl, by simp only [rng]; omega, ⟨by omega, by omega, by simp only [rng] at ru r1 ⊢; omega, by simp only [rng] at rv r2 ⊢; omega, ?_⟩, by dsimp only; omega⟩
      rw [hj, drop_at (by omega) hi', ins2, if_pos hle]
    · have hgt := of_decide_eq_false hgt
      exact fin (by rw [drop_at (by omega) hi', ins2, if_neg hgt])
  refine ⟨fun hlt => ?_, fun hge => ?_⟩
  · have hlt := of_decide_eq_true hlt
    obtain ⟨hi', hA, _, hc, ⟨rfl, r1, r2⟩⟩ := hs.at l2 h0 hlt
    refine ⟨hA, h0, hlt, _, hc.at1 (k := 1) rfl, fun hl => ?_, fun hg => ?_⟩
    · have hl := of_decide_eq_true hl
      refine ⟨hA, h0, hlt, _, _, hc, by omega, by simp only [rng]; omega, ⟨by omega, by omega, out ++ [l[i.toNat]], hr.append (Row.one ⟨rfl, r1, r2⟩), by simp; omega, by omega, ?_⟩, by dsimp only; omega⟩
      rw [he, drop_at h0 hi', ins, if_pos hl]; simp
    · have hg := of_decide_eq_false hg
      exact tail l2 hr (by rw [he, drop_at h0 hi', ins, if_neg hg])
  · have hge := of_decide_eq_false hge
    have hd := drop_end hge b2
    exact tail l2 hr (by rw [he, hd]; rfl)
def an61 : Ann where
  res := fun _ => none
  lend := fun | 15 => true | _ => false
  sch := fun _ => .done
  lt := fun | 3 => [.slot 3 false [.sl], .slot 4 false [.int .i64]] | _ => []
  tup := tups

theorem vc61 (P : Program) (H : Heap) (sA : Option Addr) (sN sC : Nat) (post : Option Addr → Nat → Nat → Heap → Prop) :
  vcFn P tab an61 Tryz.f61 [.slice sA sN sC] 0 H ⟨false, [(false, [.sl])]⟩ post =
  (  ∃ (inv0 : Option Addr → Nat → Nat → Int → Heap → Prop), ∃ (m1 : Option Addr → Nat → Nat → Int → Nat), inv0 none 0 0 (0 : Int) H ∧ ∀ (H2 : Heap), Heap.le H H2 → ∀ (A4 : Option Addr) (n5 c6 :
  Nat) (n7 : Int), inv0 A4 n5 c6 n7 H2 → (decide (n7 < (↑sN : Int)) = true → someA sA ∧ (0 : Int) ≤ n7 ∧ n7 < (↑sN : Int) ∧ ∃ (n10 : Int), ∃ (n11 : Int), Cells H2 sA (Int.toNat n7 * 2) [.int
  .i64 n10, .int .i64 n11] ∧ ∃ (post12 : Bool → Heap → Prop), ConT P 46 [.agg ⟨[.int .i64 n10, .int .i64 n11]⟩] H2 ⟨false, [(false, [.bool])]⟩ post12 ∧ ∀ (H13 : Heap), Heap.le H2 H13 → ∀ (b15
  : Bool), post12 b15 H13 → (b15 = true → someA sA ∧ (0 : Int) ≤ n7 ∧ n7 < (↑sN : Int) ∧ ∃ (n18 : Int), ∃ (n19 : Int), Cells H13 sA (Int.toNat n7 * 2) [.int .i64 n18, .int .i64 n19] ∧ ∃
  (post20 : Option Addr → Nat → Nat → Heap → Prop), ConT P 90 [.slice A4 n5 c6, .agg ⟨[.int .i64 n18, .int .i64 n19]⟩] H13 ⟨false, [(false, [.sl])]⟩ post20 ∧ ∀ (H21 : Heap), Heap.le H13 H21 →
  ∀ (A23 : Option Addr) (n24 c25 : Nat), post20 A23 n24 c25 H21 → rng .i64 (n7 + (1 : Int)) ∧ inv0 A23 n24 c25 (n7 + (1 : Int)) H21 ∧ m1 A23 n24 c25 (n7 + (1 : Int)) < m1 A4 n5 c6 n7) ∧ (b15
  = false → rng .i64 (n7 + (1 : Int)) ∧ inv0 A4 n5 c6 (n7 + (1 : Int)) H13 ∧ m1 A4 n5 c6 (n7 + (1 : Int)) < m1 A4 n5 c6 n7)) ∧ (decide (n7 < (↑sN : Int)) = false → post A4 n5 c6 H2)) := by kernel_rfl
theorem ref1_Normalize {H : Heap} {A : Option Addr} {n c : Nat} {l : List Per} (hs : Sl H A n c l) : ConT Tryz.prog 61 [.slice A n c] H shS (fun A' n' c' H' => Sl H' A' n' c' (norm l)) := by
  refine con_of_vc (an := an61) (fn := Tryz.f61) mix tabOK Tryz.func61 (by kernel_rfl) (extra := 0) ?_
  rw [vc61]
  have b1 := hs.bn; have b2 := hs.len; have b3 := hs.bnd
  replace b3 : n * 16 ≤ 140737488355328 := b3
  refine ⟨fun A' n' c' i H' => 0 ≤ i ∧ i ≤ n ∧ ∃ acc : List Per, Sl H' A' n' c' acc ∧ acc.length ≤ i.toNat ∧ norm l = nrmFrom acc (l.drop i.toNat), fun _ _ _ i => n - i.toNat, ⟨by omega, by omega, [], Sl.nil, by simp, rfl⟩, ?_⟩
  rintro H2 l2 A' n' c' i ⟨h0, h1, acc, ha, hal, he⟩
  refine ⟨fun hlt => ?_, fun hge => ?_⟩
  · have hlt := of_decide_eq_true hlt
    obtain ⟨hi', hA, _, hc, ⟨rfl, r1, r2⟩⟩ := hs.at l2 h0 hlt
    rw [drop_at h0 hi', nrmFrom] at he
    refine ⟨hA, h0, hlt, _, _, hc, _, ref1_Valid, ?_⟩
    rintro H3 l3 _ rfl
    refine ⟨fun ht => ⟨hA, h0, hlt, _, _, hc.mono l3, _, ref1_insert (ha.mono l3) r1 r2 (by omega), ?_⟩, fun hf => ⟨by simp only [rng]; omega, ⟨by omega, by omega, acc, ha.mono l3, by omega, ?_⟩, by dsimp only; omega⟩⟩
    · intro H4 l4 A4 n4 c4 h4
      have := ins_length ⟨l[i.toNat].lo, l[i.toNat].hi⟩ acc
      refine ⟨by simp only [rng]; omega, ⟨by omega, by omega, _, h4, by omega, ?_⟩, by dsimp only; omega⟩
      rw [he, if_pos ht]
    · rw [he, if_neg (by rw [hf]; simp)]
  · rw [drop_end (of_decide_eq_false hge) b2, nrmFrom] at he
    rw [he]; exact ha
def an59 : Ann where
  res := fun _ => none
  lend := fun | 9 => true | _ => false
  sch := fun _ => .done
  lt := fun _ => []
  tup := tups

theorem vc59 (P : Program) (H : Heap) (aFrom : Int) (aTo : Int) (bFrom : Int) (bTo : Int) (post : Int → Heap → Prop) :
  vcFn P tab an59 Tryz.f59 [.agg #[.int .i64 aFrom, .int .i64 aTo], .agg #[.int .i64 bFrom, .int .i64 bTo]] 0 H ⟨false, [(false, [.int .i64])]⟩ post =
  (  ∃ (post0 : Int → Heap → Prop), ConT P 60 [.int .i64 aFrom, .int .i64 bFrom] H ⟨false, [(false, [.int .i64])]⟩ post0 ∧ ∀ (H1 : Heap), Heap.le H H1 → ∀ (n3 : Int), post0 n3 H1 → post n3 H1) := by kernel_rfl
theorem periodset_Normalize1 {a b c d : Int} {H : Heap} : ConT Tryz.prog 59 [.agg ⟨[.int .i64 a, .int .i64 b]⟩, .agg ⟨[.int .i64 c, .int .i64 d]⟩] H shI (fun r _ => r = cmpI a c) := by
  refine con_of_vc (an := an59) (fn := Tryz.f59) mix tabOK Tryz.func59 (by kernel_rfl) (extra := 0) ?_
  rw [vc59]
  exact ⟨_, cmp_Compare, fun _ _ _ h => h⟩
def sortLay_Per_ren : Go.Shelf.Ren := ⟨fun | 6 => 58 | 15 => 88 | 14 => 87 | 28 => 119 | 29 => 120 | 20 => 111 | 21 => 112 | 22 => 113 | 23 => 114 | 24 => 115 | 25 => 116 | 26 => 117 | 27 => 118 | 46 => 155 | 47 => 156 | 48 => 157 | 49 => 158 | 50 => 159 | 57 => 177 | n => n, fun | 22 => 30 | 24 => 51 | 25 => 98 | 3 => 3 | 39 => 124 | 0 => 0 | 53 => 160 | 55 => 162 | 4 => 4 | 46 => 154 | 45 => 153 | 50 => 91 | 5 => 5 | 9 => 9 | 66 => 187 | 70 => 191 | 76 => 206 | 77 => 207 | n => n, fun n => n⟩
theorem sortLay_Per : SlLaysF0.n6 Tryz.prog sortLay_Per_ren where
  mixed := by kernel_rfl
  f6 := ⟨Tryz.f58.name, by kernel_rfl, Tryz.func58.trans (congrArg some (by kernel_rfl))⟩
  f14 := ⟨Tryz.f87.name, by kernel_rfl, Tryz.func87.trans (congrArg some (by kernel_rfl))⟩
  f15 := Tryz.func88.trans (congrArg some (by kernel_rfl))
  f20 := ⟨Tryz.f111.name, by kernel_rfl, Tryz.func111.trans (congrArg some (by kernel_rfl))⟩
  f21 := ⟨Tryz.f112.name, by kernel_rfl, Tryz.func112.trans (congrArg some (by kernel_rfl))⟩
  f22 := ⟨Tryz.f113.name, by kernel_rfl, Tryz.func113.trans (congrArg some (by kernel_rfl))⟩
  f23 := ⟨Tryz.f114.name, by kernel_rfl, Tryz.func114.trans (congrArg some (by kernel_rfl))⟩
  f24 := ⟨Tryz.f115.name, by kernel_rfl, Tryz.func115.trans (congrArg some (by kernel_rfl))⟩
  f25 := ⟨Tryz.f116.name, by kernel_rfl, Tryz.func116.trans (congrArg some (by kernel_rfl))⟩
  f26 := ⟨Tryz.f117.name, by kernel_rfl, Tryz.func117.trans (congrArg some (by kernel_rfl))⟩
  f27 := ⟨Tryz.f118.name, by kernel_rfl, Tryz.func118.trans (congrArg some (by kernel_rfl))⟩
  f28 := Tryz.func119.trans (congrArg some (by kernel_rfl))
  f29 := Tryz.func120.trans (congrArg some (by kernel_rfl))
  f46 := ⟨Tryz.f155.name, by kernel_rfl, Tryz.func155.trans (congrArg some (by kernel_rfl))⟩
  f47 := Tryz.func156.trans (congrArg some (by kernel_rfl))
  f48 := Tryz.func157.trans (congrArg some (by kernel_rfl))
  f49 := ⟨Tryz.f158.name, by kernel_rfl, Tryz.func158.trans (congrArg some (by kernel_rfl))⟩
  f50 := ⟨Tryz.f159.name, by kernel_rfl, Tryz.func159.trans (congrArg some (by kernel_rfl))⟩
  f57 := ⟨Tryz.f177.name, by kernel_rfl, Tryz.func177.trans (congrArg some (by kernel_rfl))⟩
  t0 := Tryz.underlying0
  a0 := Tryz.isAgg0
  z0 := Tryz.sizeOf0
  v0 := Tryz.zeroValue0
  t3 := Tryz.underlying3
  a3 := Tryz.isAgg3
  z3 := Tryz.sizeOf3
  v3 := Tryz.zeroValue3
  t4 := Tryz.underlying4
  a4 := Tryz.isAgg4
  z4 := Tryz.sizeOf4
  v4 := Tryz.zeroValue4
  t5 := Tryz.underlying5
  a5 := Tryz.isAgg5
  z5 := Tryz.sizeOf5
  v5 := Tryz.zeroValue5
  t9 := Tryz.underlying9
  a9 := Tryz.isAgg9
  z9 := Tryz.sizeOf9
  v9 := Tryz.zeroValue9
  t22 := Tryz.underlying30
  a22 := Tryz.isAgg30
  z22 := Tryz.sizeOf30
  v22 := Tryz.zeroValue30
  t25 := Tryz.underlying98
  a25 := Tryz.isAgg98
  z25 := Tryz.sizeOf98
  v25 := Tryz.zeroValue98
  t39 := Tryz.underlying124
  a39 := Tryz.isAgg124
  z39 := Tryz.sizeOf124
  v39 := Tryz.zeroValue124
  t45 := Tryz.underlying153
  a45 := Tryz.isAgg153
  z45 := Tryz.sizeOf153
  v45 := Tryz.zeroValue153
  t46 := Tryz.underlying154
  a46 := Tryz.isAgg154
  z46 := Tryz.sizeOf154
  v46 := Tryz.zeroValue154
  t50 := Tryz.underlying91
  a50 := Tryz.isAgg91
  z50 := Tryz.sizeOf91
  v50 := Tryz.zeroValue91
  t53 := Tryz.underlying160
  a53 := Tryz.isAgg160
  z53 := Tryz.sizeOf160
  v53 := Tryz.zeroValue160
  t55 := Tryz.underlying162
  a55 := Tryz.isAgg162
  z55 := Tryz.sizeOf162
  v55 := Tryz.zeroValue162
  t66 := Tryz.underlying187
  a66 := Tryz.isAgg187
  z66 := Tryz.sizeOf187
  v66 := Tryz.zeroValue187
  t70 := Tryz.underlying191
  a70 := Tryz.isAgg191
  z70 := Tryz.sizeOf191
  v70 := Tryz.zeroValue191
  t76 := Tryz.underlying206
  a76 := Tryz.isAgg206
  z76 := Tryz.sizeOf206
  v76 := Tryz.zeroValue206
  t77 := Tryz.underlying207
  a77 := Tryz.isAgg207
  z77 := Tryz.sizeOf207
  v77 := Tryz.zeroValue207
theorem sortL_Per : SrtL Tryz.prog sortLay_Per_ren 2 := ⟨sortLay_Per, Tryz.isAgg51, Tryz.sizeOf51, by kernel_rfl⟩
theorem cmpI_lt {x y : Int} : cmpI x y < 0 ↔ x < y := by unfold cmpI; split <;> (try split) <;> omega
theorem swo_cmpI {T : Type} (f : T → Int) : Sort.SWO (ltOf fun x y : T => cmpI (f x) (f y)) where
  irrefl x := by simp [ltOf, cmpI_lt]
  trans x y z h1 h2 := by simp only [ltOf, decide_eq_true_eq, cmpI_lt] at *; omega
  ntrans x y z h1 h2 := by simp only [ltOf, decide_eq_false_iff_not, cmpI_lt] at *; omega
theorem SortFunc_Per {H : Heap} {n : Nat} {xs : List Value} {l : List Per} (hr : Row H xs l) (hl : l.length = n) (hn : n ≤ 140737488355328) :
    ConM Tryz.prog 58 [.slice none 0 0, .func (.func 59) #[] #[]] 0 51 n xs true H ⟨true, []⟩ (fun ys (H' : Heap) => ∃ m : List Per, Row H' ys m ∧ m.Perm l ∧ m.Pairwise (fun a b => a.lo ≤ b.lo)) := by
  have h := sort_con sortL_Per hr hl hn (f := 59) (cap := []) (cf := fun x y : Per => cmpI x.lo y.lo) ⟨_, Tryz.func59, rfl, by kernel_rfl⟩ (swo_cmpI fun p : Per => p.lo)
    (fun H' vs us s t _ h1 h2 => by
      obtain ⟨rfl, -, -⟩ := h1
      obtain ⟨rfl, -, -⟩ := h2
      exact periodset_Normalize1)
  have e : (fun ys (H' : Heap) => ∃ m : List Per, Row H' ys m ∧ m.Perm l ∧ m.Pairwise (fun a b => ¬ cmpI b.lo a.lo < 0)) = (fun ys (H' : Heap) => ∃ m : List Per, Row H' ys m ∧ m.Perm l ∧ m.Pairwise (fun a b => a.lo ≤ b.lo)) := by
    funext ys H'
    simp only [cmpI_lt, Int.not_lt]
  rw [e] at h
  exact h
def mrgInv (m out : List Per) (i : Int) : Prop := match out.getLast? with
  | none => mrgAll m = mrgAll (m.drop i.toNat)
  | some q => mrgAll m = out.dropLast ++ mrg q (m.drop i.toNat)
def an33 : Ann where
  res := fun _ => none
  lend := fun | 17 => true | _ => false
  mt := fun | 58 => some true | _ => none
  sch := fun | 13 => (tk [0, 1, 2, 3, 4, 5, 6, 7] (.alt 8 (tk [9] (.alt 10 (tk [11, 12] .done) .fin)) .fin)) | 14 => (tk [0, 1, 2, 3, 4, 5, 9, 10] (.alt 6 (tk [7] (.alt 8 (tk [11] (.alt 12 (tk [13] (.alt 14 .done .fin)) .fin)) .fin)) .fin)) | _ => .done
  lt := fun | 3 => [.slot 3 false [.row 66 51], .slot 12 false [.int .i64]] | 10 => [.slot 4 false [.row 67 51], .slot 27 false [.int .i64]] | _ => []
  tup := tups

theorem vc33 (P : Program) (H : Heap) (sA : Option Addr) (sN sC : Nat) (post : Option Addr → Nat → Nat → Heap → Prop) :
  vcFn P tab an33 Tryz.f33 [.slice sA sN sC] 2 H ⟨false, [(false, [.sl])]⟩ post =
  (  ∃ (inv0 : Nat → List Value → Int → Heap → Prop), ∃ (m1 : Nat → List Value → Int → Nat), inv0 0 [] (0 : Int) H ∧ ∀ (H2 : Heap), Heap.le H H2 → ∀ (n4 : Nat) (xs5 : List Value) (n6 : Int),
  inv0 n4 xs5 n6 H2 → (decide (n6 < (↑sN : Int)) = true → someA sA ∧ (0 : Int) ≤ n6 ∧ n6 < (↑sN : Int) ∧ ∃ (n9 : Int), ∃ (n10 : Int), Cells H2 sA (Int.toNat n6 * 2) [.int .i64 n9, .int .i64
  n10] ∧ ∃ (post11 : Bool → Heap → Prop), ConT P 50 [.agg ⟨[.int .i64 n9, .int .i64 n10]⟩] H2 ⟨false, [(false, [.bool])]⟩ post11 ∧ ∀ (H12 : Heap), Heap.le H2 H12 → ∀ (b14 : Bool), post11 b14
  H12 → (b14 = true → (n4 + 1) * 16 ≤ 140737488355328 ∧ rng .i64 (n6 + (1 : Int)) ∧ inv0 (n4 + 1) (xs5 ++ [.int .i64 n9, .int .i64 n10]) (n6 + (1 : Int)) H12 ∧ m1 (n4 + 1) (xs5 ++ [.int .i64
  n9, .int .i64 n10]) (n6 + (1 : Int)) < m1 n4 xs5 n6) ∧ (b14 = false → rng .i64 (n6 + (1 : Int)) ∧ inv0 n4 xs5 (n6 + (1 : Int)) H12 ∧ m1 n4 xs5 (n6 + (1 : Int)) < m1 n4 xs5 n6)) ∧ (decide
  (n6 < (↑sN : Int)) = false → ∃ (post19 : List Value → Heap → Prop), ConM P 58 [.slice none 0 0, .func (.func 59) ⟨[]⟩ ⟨[]⟩] 0 51 n4 xs5 true H2 ⟨true, []⟩ post19 ∧ ∀ (H20 : Heap), Heap.le
  H2 H20 → ∀ (ys22 : List Value), post19 ys22 H20 → ∃ (inv24 : Nat → List Value → Int → Heap → Prop), ∃ (m25 : Nat → List Value → Int → Nat), inv24 0 [] (0 : Int) H20 ∧ ∀ (H26 : Heap),
  Heap.le H20 H26 → ∀ (n28 : Nat) (xs29 : List Value) (n30 : Int), inv24 n28 xs29 n30 H26 → (decide (n30 < (↑n4 : Int)) = true → (0 : Int) ≤ n30 ∧ n30 < (↑n4 : Int) ∧ ∃ (n33 : Int), ∃ (n34 :
  Int), win ys22 (Int.toNat n30 * 2) 2 = [.int .i64 n33, .int .i64 n34] ∧ (decide ((0 : Int) < (↑n28 : Int)) = true → rng .i64 ((↑n28 : Int) - (1 : Int)) ∧ (0 : Int) ≤ (↑n28 : Int) - (1 :
  Int) ∧ (↑n28 : Int) - (1 : Int) < (↑n28 : Int) ∧ ∃ (n36 : Int), win xs29 (Int.toNat ((↑n28 : Int) - (1 : Int)) * 2 + 1) 1 = [.int .i64 n36] ∧ (decide (n33 ≤ n36) = true → rng .i64 ((↑n28 :
  Int) - (1 : Int)) ∧ rng .i64 ((↑n28 : Int) - (1 : Int)) ∧ (0 : Int) ≤ (↑n28 : Int) - (1 : Int) ∧ (↑n28 : Int) - (1 : Int) < (↑n28 : Int) ∧ ∃ (n38 : Int), win xs29 (Int.toNat ((↑n28 : Int) -
  (1 : Int)) * 2 + 1) 1 = [.int .i64 n38] ∧ (0 : Int) ≤ (↑n28 : Int) - (1 : Int) ∧ (↑n28 : Int) - (1 : Int) < (↑n28 : Int) ∧ Int.toNat ((↑n28 : Int) - (1 : Int)) * 2 + 1 + 1 ≤ List.length
  xs29 ∧ rng .i64 (n30 + (1 : Int)) ∧ inv24 n28 (splice xs29 (Int.toNat ((↑n28 : Int) - (1 : Int)) * 2 + 1) [.int .i64 (max n38 n34)]) (n30 + (1 : Int)) H26 ∧ m25 n28 (splice xs29 (Int.toNat
  ((↑n28 : Int) - (1 : Int)) * 2 + 1) [.int .i64 (max n38 n34)]) (n30 + (1 : Int)) < m25 n28 xs29 n30) ∧ (decide (n33 ≤ n36) = false → (n28 + 1) * 16 ≤ 140737488355328 ∧ rng .i64 (n30 + (1 :
  Int)) ∧ inv24 (n28 + 1) (xs29 ++ [.int .i64 n33, .int .i64 n34]) (n30 + (1 : Int)) H26 ∧ m25 (n28 + 1) (xs29 ++ [.int .i64 n33, .int .i64 n34]) (n30 + (1 : Int)) < m25 n28 xs29 n30)) ∧
  (decide ((0 : Int) < (↑n28 : Int)) = false → (n28 + 1) * 16 ≤ 140737488355328 ∧ rng .i64 (n30 + (1 : Int)) ∧ inv24 (n28 + 1) (xs29 ++ [.int .i64 n33, .int .i64 n34]) (n30 + (1 : Int)) H26 ∧
  m25 (n28 + 1) (xs29 ++ [.int .i64 n33, .int .i64 n34]) (n30 + (1 : Int)) < m25 n28 xs29 n30)) ∧ (decide (n30 < (↑n4 : Int)) = false → ∀ (A42 : Option Addr) (c43 : Nat) (H44 : Heap), Heap.le
  H26 H44 → Cells H44 A42 0 xs29 → n28 ≤ c43 → post A42 n28 c43 H44))) := by kernel_rfl
theorem periodset_Normalize {H : Heap} {A : Option Addr} {n c : Nat} {l : List Per} (hs : Sl H A n c l) : ConT Tryz.prog 33 [.slice A n c] H shS (fun A' n' c' H' => Sl H' A' n' c' (norm l)) := by
  refine con_of_vc (an := an33) (fn := Tryz.f33) mix tabOK Tryz.func33 (by kernel_rfl) (extra := 2) ?_
  rw [vc33]
  have b1 := hs.bn; have b2 := hs.len; have b3 := hs.bnd
  replace b3 : n * 16 ≤ 140737488355328 := b3
  refine ⟨fun m xs i H' => 0 ≤ i ∧ i ≤ n ∧ ∃ out : List Per, Row H' xs out ∧ out.length = m ∧ m ≤ i.toNat ∧ l.filter pOk = out ++ (l.drop i.toNat).filter pOk, fun _ _ i => n - i.toNat, ⟨by omega, by omega, [], rfl, rfl, by simp, by simp⟩, ?_⟩
  rintro H2 l2 m xs i ⟨h0, h1, out, hr, hm, hmi, he⟩
  refine ⟨fun hlt => ?_, fun hge => ?_⟩
  · have hlt := of_decide_eq_true hlt
    obtain ⟨hi', hA, _, hc, ⟨rfl, r1, r2⟩⟩ := hs.at l2 h0 hlt
    rw [drop_at h0 hi', List.filter_cons] at he
    refine ⟨hA, h0, hlt, _, _, hc, _, period_Valid, ?_⟩
    rintro H3 l3 _ rfl
    refine ⟨fun ht => ⟨by omega, by simp only [rng]; omega, ⟨by omega, by omega, out ++ [l[i.toNat]], (hr.mono l3).append (Row.one ⟨rfl, r1, r2⟩), by simp; omega, by omega, ?_⟩, by dsimp only; omega⟩,
      fun hf => ⟨by simp only [rng]; omega, ⟨by omega, by omega, out, hr.mono l3, hm, by omega, ?_⟩, by dsimp only; omega⟩⟩
    · rw [he, if_pos ht]; simp
    · rw [he, if_neg (by rw [hf]; simp)]
  · rw [drop_end (of_decide_eq_false hge) b2, List.filter_nil, List.append_nil] at he
    refine ⟨_, SortFunc_Per hr hm (by omega), ?_⟩
    rintro H3 l3 ys ⟨s, hsr, hperm, hsorted⟩
    have hsl : s.length = m := by rw [hperm.length_eq, hm]
    rw [← he] at hperm
    have hfin := mrgAll_norm hperm hsorted
    have hok : ∀ p ∈ s, rng .i64 p.lo ∧ rng .i64 p.hi := fun p hp => by
      have := pOk_iff.1 (List.mem_filter.1 (hperm.mem_iff.1 hp)).2
      have hmx : maxT = 1099511627776 := rfl
      simp only [rng]; omega
    refine ⟨fun k zs j H' => 0 ≤ j ∧ j ≤ m ∧ ∃ o : List Per, Row H' zs o ∧ o.length = k ∧ k ≤ j.toNat ∧ mrgInv s o j, fun _ _ j => m - j.toNat, ⟨by omega, by omega, [], rfl, rfl, by simp, rfl⟩, ?_⟩
    rintro H4 l4 k zs j ⟨j0, j1, o, ho, hk, hkj, hinv⟩
    refine ⟨fun hlt => ?_, fun hge => ?_⟩
    · have hlt := of_decide_eq_true hlt
      have hj : j.toNat < s.length := by omega
      have hw := (hsr.mono l4).getw hj
      obtain ⟨hw, w1, w2⟩ := hw
      have hlast : o.getLast? = o[k - 1]? := by rw [List.getLast?_eq_getElem?, hk]
      refine ⟨j0, hlt, _, _, hw, fun hk0 => ?_, fun hk0 => ?_⟩
      · have hk0 := of_decide_eq_true hk0
        have hk1 : k - 1 < o.length := by omega
        have hkt : ((k : Int) - 1).toNat = k - 1 := by omega
        obtain ⟨vs, ⟨rfl, v1, v2⟩, g1, g2⟩ := ho.getf hk1
        rw [mrgInv, hlast, List.getElem?_eq_getElem hk1] at hinv
        simp only at hinv
        rw [drop_at j0 hj, mrg] at hinv
        rw [hkt]
        refine ⟨by simp only [rng]; omega, by omega, by omega, _, g1 1 1 (by decide), fun hle => ?_, fun hgt => ?_⟩
        · have hle := of_decide_eq_true hle
          rw [if_pos hle] at hinv
          have hrow := g2 1 [.int .i64 (max o[k - 1].hi s[j.toNat].hi)] ⟨o[k - 1].lo, max o[k - 1].hi s[j.toNat].hi⟩ (by show 1 + 1 ≤ 2; decide) ⟨rfl, v1, by simp only [rng] at v2 w2 ⊢; omega⟩
          have hzl := ho.length
          refine ⟨by simp only [rng]; omega, by simp only [rng]; omega, by omega, by omega, _, g1 1 1 (by decide), by omega, by omega, ?_, by simp only [rng]; omega, ⟨by omega, by omega, _, hrow, by simpa using hk, by omega, ?_⟩, by dsimp only; omega⟩
          · rw [hzl, hk]; show (k - 1) * 2 + 1 + 1 ≤ k * 2; omega
          · rw [mrgInv, List.getLast?_eq_getElem?, List.length_set, hk, List.getElem?_set_self hk1]
            simp only
            rw [hinv]
            congr 1
            rw [List.dropLast_eq_take, List.dropLast_eq_take, List.length_set, hk, List.take_set_of_le (by omega)]
        · have hgt := of_decide_eq_false hgt
          rw [if_neg hgt] at hinv
          refine ⟨by omega, by simp only [rng]; omega, ⟨by omega, by omega, o ++ [s[j.toNat]], ho.append (Row.one ⟨rfl, w1, w2⟩), by simp; omega, by omega, ?_⟩, by dsimp only; omega⟩
          rw [mrgInv, List.getLast?_concat]
          simp only
          rw [hinv, List.dropLast_concat]
          have hne : o ≠ [] := by rintro rfl; simp at hk; omega
          have : o = o.dropLast ++ [o[k - 1]] := by
            conv => lhs; rw [← List.dropLast_concat_getLast hne]
            congr 2
            rw [List.getLast_eq_getElem]; congr 1; omega
          conv => rhs; rw [this]
          simp
      · have hk0 := of_decide_eq_false hk0
        have h00 : k = 0 := by omega
        have ho0 : o = [] := List.eq_nil_of_length_eq_zero (by omega)
        rw [ho0, mrgInv] at hinv
        simp only [List.getLast?_nil] at hinv
        rw [drop_at j0 hj, mrgAll] at hinv
        refine ⟨by omega, by simp only [rng]; omega, ⟨by omega, by omega, o ++ [s[j.toNat]], ho.append (Row.one ⟨rfl, w1, w2⟩), by simp; omega, by omega, ?_⟩, by dsimp only; omega⟩
        rw [mrgInv, List.getLast?_concat]
        simp only
        rw [hinv, ho0]; rfl
    · have hd : s.drop j.toNat = [] := drop_end (of_decide_eq_false hge) hsl
      intro A5 c5 H5 l5 hc5 hn5
      have hres : norm l = o := by
        rw [← hfin]
        rw [mrgInv, hd] at hinv
        cases hol : o.getLast? with
        | none =>
          rw [hol] at hinv
          rw [List.getLast?_eq_none_iff] at hol
          rw [hol]; exact hinv
        | some q =>
          rw [hol] at hinv
          simp only [mrg] at hinv
          rw [hinv]
          obtain ⟨ys, rfl⟩ := List.getLast?_eq_some_iff.1 hol
          simp
      rw [hres]
      exact ho.sl l5 hc5 hk hn5 (by show k * 16 ≤ _; omega) (by omega)
end Go.Vc
/- Gaps: plain law. -/
namespace Go.Vc
open Go
def covT (l : List Tup) (cols : List Int) (key : List Val) : List Tup := l.filter fun t => decide (cmpVs (keyVals t.vals cols) key = 0)
def covL (l : List Tup) (cols : List Int) (key : List Val) : List Per := norm ((covT l cols key).map (·.p))
theorem covT_succ {l : List Tup} {cols : List Int} {key : List Val} {i : Nat} (hi : i < l.length) : covT (l.take (i + 1)) cols key = covT (l.take i) cols key ++ (if decide (cmpVs (keyVals l[i].vals cols) key = 0) then [l[i]] else []) := by
  rw [covT, List.take_succ_eq_append_getElem hi, List.filter_append]
  congr 1
  rw [List.filter_cons]; rfl
theorem cov_withK (l : List Tup) (cols : List Int) (key : List Val) : norm ((withK l cols key).map (·.p)) = covL l cols key := by
  refine norm_congr fun t => ?_
  unfold withK covT
  induction l with
  | nil => rfl
  | cons x r ih =>
    rw [List.filter_cons, List.filter_cons]
    by_cases h1 : cmpVs (keyVals x.vals cols) key = 0
    · by_cases h2 : pOk x.p = true
      · simp only [h1, h2, decide_true, Bool.and_self, if_true, List.map_cons, inSet_cons, ih]
      · have h2 : pOk x.p = false := by simpa using h2
        have h3 : pIn x.p t = false := by simp [pIn, h2]
        simp only [h1, h2, decide_true, Bool.false_and, if_true, List.map_cons, inSet_cons, ← ih, h3, Bool.false_or, Bool.false_eq_true, if_false]
    · simp only [h1, decide_false, Bool.and_false]
      exact ih
def touch (g : Per) (t : Tup) : Bool := decide (t.p.hi = g.lo) || decide (t.p.lo = g.hi)
def gapV (own : List Tup) (g : Per) : Vio := ⟨g, canon (tlins (own.filter (touch g)))⟩
def gapsGo (own : List Tup) : List Per → List Vio
  | a :: b :: r => gapV own ⟨a.hi, b.lo⟩ :: gapsGo own (b :: r)
  | _ => []
theorem gapsGo_len (own : List Tup) : ∀ s : List Per, (gapsGo own s).length ≤ s.length
  | [] => Nat.le_refl _
  | [_] => Nat.zero_le _
  | _ :: b :: r => by
    have := gapsGo_len own (b :: r)
    simp only [gapsGo, List.length_cons] at this ⊢; omega
def gapsK (l : List Tup) (cols : List Int) (v : List Val) : List Vio := gapsGo (withK l cols v) (covL l cols v)
theorem covL_len (l : List Tup) (cols : List Int) (v : List Val) : (covL l cols v).length ≤ l.length := by
  have h1 := norm_length ((covT l cols v).map (·.p))
  have h2 : (covT l cols v).length ≤ l.length := List.length_filter_le _ _
  rw [List.length_map] at h1
  exact Nat.le_trans h1 h2
theorem gapsK_len (l : List Tup) (cols : List Int) (v : List Val) : (gapsK l cols v).length ≤ l.length := Nat.le_trans (gapsGo_len _ _) (covL_len l cols v)
theorem gapsFlat_len (l : List Tup) (cols : List Int) : ∀ vs : List (List Val), (vs.flatMap (gapsK l cols)).length ≤ vs.length * l.length
  | [] => by simp
  | v :: vs => by
    have h1 := gapsK_len l cols v; have h2 := gapsFlat_len l cols vs
    simp only [List.flatMap_cons, List.length_append, List.length_cons, Nat.succ_mul]; omega
theorem gaps_at {own : List Tup} {s : List Per} {k : Nat} (h0 : 1 ≤ k) (h : k < s.length) : gapsGo own (s.drop (k - 1)) = gapV own ⟨(s[k - 1]'(by omega)).hi, s[k].lo⟩ :: gapsGo own (s.drop k) := by
  have e : s.drop (k - 1) = (s[k - 1]'(by omega)) :: s.drop k := by
    have := List.drop_eq_getElem_cons (l := s) (i := k - 1) (by omega)
    rwa [show k - 1 + 1 = k from by omega] at this
  rw [e, List.drop_eq_getElem_cons h, gapsGo]
theorem gaps_end {own : List Tup} {s : List Per} {k : Nat} (h : s.length ≤ k) (h0 : 1 ≤ k) : gapsGo own (s.drop (k - 1)) = [] := by
  rcases hd : s.drop (k - 1) with _ | ⟨a, _ | ⟨b, r⟩⟩
  · rfl
  · rfl
  · have := congrArg List.length hd
    simp only [List.length_drop, List.length_cons] at this; omega
theorem gaps_few {own : List Tup} {s : List Per} (h : s.length < 2) : gapsGo own s = [] := by
  rcases s with _ | ⟨a, _ | ⟨b, r⟩⟩
  · rfl
  · rfl
  · simp only [List.length_cons] at h; omega
theorem gaps_none {own : List Tup} {s : List Per} (h : gapsGo own s = []) : s.length < 2 := by
  rcases s with _ | ⟨a, _ | ⟨b, r⟩⟩
  · simp
  · simp
  · simp [gapsGo] at h
/- lists of keys in ascending order are alike when their members are -/
theorem ascV_unique : ∀ {vs us : List (List Val)}, ascV vs → ascV us → (∀ v, v ∈ vs ↔ v ∈ us) → vs = us
  | [], [], _, _, _ => rfl
  | [], u :: us, _, _, h => absurd ((h u).2 (by simp)) (by simp)
  | v :: vs, [], _, _, h => absurd ((h v).1 (by simp)) (by simp)
  | v :: vs, u :: us, hv, hu, h => by
    obtain ⟨v1, v2⟩ := List.pairwise_cons.1 hv
    obtain ⟨u1, u2⟩ := List.pairwise_cons.1 hu
    have e : v = u := by
      rcases List.mem_cons.1 ((h v).1 (by simp)) with h1 | h1
      · exact h1
      · rcases List.mem_cons.1 ((h u).2 (by simp)) with h2 | h2
        · exact h2.symm
        · have a := v1 _ h2; have b := u1 _ h1
          have := cmpVs_ord.anti v u
          omega
    subst e
    congr 1
    refine ascV_unique v2 u2 fun x => ?_
    have hx := h x
    simp only [List.mem_cons] at hx
    constructor
    · intro h1
      rcases hx.1 (.inr h1) with e | h2
      · subst e
        have := v1 _ h1; rw [cmpVs_ord.refl] at this; exact absurd this (by decide)
      · exact h2
    · intro h1
      rcases hx.2 (.inr h1) with e | h2
      · subst e
        have := u1 _ h1; rw [cmpVs_ord.refl] at this; exact absurd this (by decide)
      · exact h2
/- sorted lists without doubles ascend -/
theorem ascV_of_sorted {vs : List (List Val)} (h : vs.Pairwise (fun a b => ¬ cmpVs b a < 0)) (hn : vs.Nodup) : ascV vs := by
  refine (h.and hn).imp fun {a b} hab => ?_
  obtain ⟨h1, h2⟩ := hab
  have e1 := cmpVs_ord.anti a b; have e2 := cmpVs_ord.sign a b
  have e3 : cmpVs a b ≠ 0 := fun e => h2 (cmpVs_zero.1 e)
  omega
/- the keys of tuples, each once -/
def KeysOf (vs : List (List Val)) (l : List Tup) (cols : List Int) : Prop := ∀ v, v ∈ vs ↔ ∃ k ∈ byKeyL l cols, k.key = v
theorem byKey_mem {l : List Tup} {cols : List Int} {v : List Val} : (∃ k ∈ byKeyL l cols, k.key = v) ↔ ∃ t ∈ l, pOk t.p = true ∧ keyVals t.vals cols = v := by
  simp only [byKeyL, List.mem_map, List.mem_filter]
  constructor
  · rintro ⟨k, ⟨t, ⟨h1, h2⟩, rfl⟩, rfl⟩; exact ⟨t, h1, h2, rfl⟩
  · rintro ⟨t, h1, h2, rfl⟩; exact ⟨_, ⟨t, ⟨h1, h2⟩, rfl⟩, rfl⟩
theorem nodup_le {T : Type} [DecidableEq T] : ∀ {vs us : List T}, vs.Nodup → (∀ v ∈ vs, v ∈ us) → vs.length ≤ us.length
  | [], _, _, _ => Nat.zero_le _
  | v :: vs, us, hn, h => by
    obtain ⟨h1, h2⟩ := List.nodup_cons.1 hn
    have hv := h v (by simp)
    have := nodup_le (vs := vs) (us := us.erase v) h2 fun x hx => (List.mem_erase_of_ne (fun e => h1 (by rw [← e]; exact hx))).2 (h x (by simp [hx]))
    rw [List.length_erase_of_mem hv] at this
    have hp : 0 < us.length := List.length_pos_of_mem hv
    rw [List.length_cons]; omega
theorem keys_len {vs : List (List Val)} {l : List Tup} {cols : List Int} (hn : vs.Nodup) (h : KeysOf vs l cols) : vs.length ≤ l.length := by
  have h1 : vs.length ≤ ((byKeyL l cols).map (·.key)).length := by
    refine nodup_le hn fun v hv => ?_
    obtain ⟨k, hk, rfl⟩ := (h v).1 hv
    exact List.mem_map_of_mem hk
  rw [List.length_map] at h1
  exact Nat.le_trans h1 (byKeyL_len l cols)
theorem ascV_nodup {vs : List (List Val)} (h : ascV vs) : vs.Nodup := h.imp fun {a b} hab e => by
  subst e; rw [cmpVs_ord.refl] at hab; exact absurd hab (by decide)
end Go.Vc
