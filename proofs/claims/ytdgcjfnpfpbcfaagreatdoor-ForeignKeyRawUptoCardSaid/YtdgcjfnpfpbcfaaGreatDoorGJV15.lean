/- Tuples by key, their boundaries, merged lineages. -/
import Derived.Test.YtdgcjfnpfpbcfaaGreatDoorGJV13
import Derived.Test.YtdgcjfnpfpbcfaaGreatDoorGJV14
import Derived.Test.YtdgcjfnpfpbcfaaGreatDoorGJV10
set_option linter.unusedSectionVars false
set_option linter.unusedSimpArgs false
set_option linter.unusedVariables false
namespace Go.Vc
open Go Go.Proofs Go.Shelf
def byKeyL (l : List Tup) (cols : List Int) : List Kd := (l.filter fun t => pOk t.p).map fun t => ⟨keyVals t.vals cols, t⟩
theorem byKeyL_succ {l : List Tup} {cols : List Int} {i : Nat} (hi : i < l.length) : byKeyL (l.take (i + 1)) cols = byKeyL (l.take i) cols ++ (if pOk l[i].p then [⟨keyVals l[i].vals cols, l[i]⟩] else []) := by
  rw [List.take_succ_eq_append_getElem hi]
  simp only [byKeyL, List.filter_append, List.map_append, List.filter_cons, List.filter_nil]
  split <;> simp
theorem byKeyL_len (l : List Tup) (cols : List Int) : (byKeyL l cols).length ≤ l.length := by
  simp only [byKeyL, List.length_map]; exact List.length_filter_le _ _
def sortI (l : List Int) : List Int := l.mergeSort fun x y => decide (x ≤ y)
def ends (l : List Kd) : List Int := l.flatMap fun k => [k.t.p.lo, k.t.p.hi]
def points (l : List Kd) : List Int := Lib.compact (sortI (ends l))
theorem ends_succ {l : List Kd} {i : Nat} (hi : i < l.length) : ends (l.take (i + 1)) = ends (l.take i) ++ [l[i].t.p.lo, l[i].t.p.hi] := by
  rw [List.take_succ_eq_append_getElem hi, ends, List.flatMap_append]; simp [ends]
theorem ends_len : ∀ l : List Kd, (ends l).length = 2 * l.length
  | [] => rfl
  | k :: l => by
    have := ends_len l
    simp only [ends, List.flatMap_cons, List.length_append, List.length_cons, List.length_nil] at *
    omega
theorem compact_len (l : List Int) : (Lib.compact l).length ≤ l.length := (compact_sub l).length_le
theorem sortI_len (l : List Int) : (sortI l).length = l.length := by simp [sortI]
def growL_Int_ren : Go.Shelf.Ren := ⟨fun | 4 => 182 | n => n, fun | 22 => 23 | 25 => 3 | 3 => 3 | 4 => 4 | 9 => 9 | 20 => 20 | 0 => 0 | n => n, fun n => n⟩
theorem growL_Int : Lays8.n4 Tryz.prog growL_Int_ren where
  mixed := by kernel_rfl
  f4 := ⟨Tryz.f182.name, by kernel_rfl, Tryz.func182.trans (congrArg some (by kernel_rfl))⟩
  t0 := Tryz.underlying0
  a0 := Tryz.isAgg0
  z0 := Tryz.sizeOf0
  v0 := Tryz.zeroValue0
  t3 := Tryz.underlying3
  a3 := Tryz.isAgg3
  z3 := Tryz.sizeOf3
  v3 := Tryz.zeroValue3
  t4 := Tryz.underlying4
  a4 := Tryz.isAgg4
  z4 := Tryz.sizeOf4
  v4 := Tryz.zeroValue4
  t9 := Tryz.underlying9
  a9 := Tryz.isAgg9
  z9 := Tryz.sizeOf9
  v9 := Tryz.zeroValue9
  t20 := Tryz.underlying20
  a20 := Tryz.isAgg20
  z20 := Tryz.sizeOf20
  v20 := Tryz.zeroValue20
  t22 := Tryz.underlying23
  a22 := Tryz.isAgg23
  z22 := Tryz.sizeOf23
  v22 := Tryz.zeroValue23
theorem Grow_Int {n : Int} {r : Nat} {H : Heap} (h0 : 0 ≤ n) (hb : n * 8 ≤ 140737488355328) :
    ConT Tryz.prog 182 [.slice none 0 0, .int .i64 n] H ⟨false, [(false, [.row r 3])]⟩ (fun m xs _ => m = 0 ∧ xs = []) := by
  have h := grow_con (Γ := tab) tabOK growL_Int (j := (tab 3).get rfl) rfl (by decide) (by decide) (n := n.toNat) (r := r) (H := H) (by show n.toNat * 8 ≤ _; omega)
  rw [Int.toNat_of_nonneg h0] at h
  exact h
def an169 : Ann where
  res := fun | 24 => some ⟨false, [(false, [.row 36 3])]⟩ | _ => none
  lend := fun _ => false
  sch := fun _ => .done
  lt := fun | 3 => [.slot 3 false [.int .i64], .slot 11 false [.int .i64]] | 11 => [.slot 6 false [.row 37 3], .slot 27 false [.int .i64]] | _ => []
  tup := tups

theorem vc169 (P : Program) (H : Heap) (slicesA : Option Addr) (slicesN slicesC : Nat) (ri0 : Nat) (post : Nat → List Value → Heap → Prop) :
  vcFn P tab an169 Tryz.f169 [.slice slicesA slicesN slicesC] 2 H ⟨false, [(false, [.row ri0 3])]⟩ post =
  (  ∃ (inv0 : Int → Int → Heap → Prop), ∃ (m1 : Int → Int → Nat), inv0 (0 : Int) (0 : Int) H ∧ ∀ (H2 : Heap), Heap.le H H2 → ∀ (n4 n5 : Int), inv0 n4 n5 H2 → (decide (n5 < (↑slicesN : Int)) =
  true → someA slicesA ∧ (0 : Int) ≤ n5 ∧ n5 < (↑slicesN : Int) ∧ ∃ (A8 : Option Addr), ∃ (n9 : Nat), ∃ (c10 : Nat), Cells H2 slicesA (Int.toNat n5 * 1) [.slice A8 n9 c10] ∧ rng .i64 (n4 +
  (↑n9 : Int)) ∧ (decide (n4 + (↑n9 : Int) < (0 : Int)) = true → False) ∧ (decide (n4 + (↑n9 : Int) < (0 : Int)) = false → rng .i64 (n5 + (1 : Int)) ∧ inv0 (n4 + (↑n9 : Int)) (n5 + (1 : Int))
  H2 ∧ m1 (n4 + (↑n9 : Int)) (n5 + (1 : Int)) < m1 n4 n5)) ∧ (decide (n5 < (↑slicesN : Int)) = false → ∃ (post14 : Nat → List Value → Heap → Prop), ConT P 182 [.slice none 0 0, .int .i64 n4]
  H2 ⟨false, [(false, [.row 36 3])]⟩ post14 ∧ ∀ (H15 : Heap), Heap.le H2 H15 → ∀ (n17 : Nat) (xs18 : List Value), post14 n17 xs18 H15 → ∃ (inv20 : Nat → List Value → Int → Heap → Prop), ∃
  (m21 : Nat → List Value → Int → Nat), inv20 n17 xs18 (0 : Int) H15 ∧ ∀ (H22 : Heap), Heap.le H15 H22 → ∀ (n24 : Nat) (xs25 : List Value) (n26 : Int), inv20 n24 xs25 n26 H22 → (decide (n26 <
  (↑slicesN : Int)) = true → someA slicesA ∧ (0 : Int) ≤ n26 ∧ n26 < (↑slicesN : Int) ∧ ∃ (A29 : Option Addr), ∃ (n30 : Nat), ∃ (c31 : Nat), Cells H22 slicesA (Int.toNat n26 * 1) [.slice A29
  n30 c31] ∧ ∃ (ys32 : List Value), Cells H22 A29 0 ys32 ∧ List.length ys32 = n30 * 1 ∧ (n24 + n30) * 8 ≤ 140737488355328 ∧ rng .i64 (n26 + (1 : Int)) ∧ inv20 (n24 + n30) (xs25 ++ ys32) (n26
  + (1 : Int)) H22 ∧ m21 (n24 + n30) (xs25 ++ ys32) (n26 + (1 : Int)) < m21 n24 xs25 n26) ∧ (decide (n26 < (↑slicesN : Int)) = false → post n24 xs25 H22))) := by kernel_rfl
theorem Concat_Int {H : Heap} {A : Option Addr} {n c r : Nat} {ls : List (List Int)} (hs : Sl H A n c ls) (hb : ls.flatten.length * 8 ≤ 140737488355328) :
    ConT Tryz.prog 169 [.slice A n c] H ⟨false, [(false, [.row r 3])]⟩ (fun m xs H' => m = ls.flatten.length ∧ Row H' xs ls.flatten) := by
  refine con_of_vc (an := an169) (fn := Tryz.f169) mix tabOK Tryz.func169 (by kernel_rfl) (extra := 2) ?_
  rw [vc169]
  have b1 := hs.bn; have b2 := hs.len
  have hle0 : ∀ k, (ls.take k).flatten.length ≤ ls.flatten.length := fun k => by
    have : ls.flatten.length = (ls.take k).flatten.length + (ls.drop k).flatten.length := by rw [← List.length_append, ← List.flatten_append, List.take_append_drop]
    omega
  have hsucc : ∀ {i : Int} (h0 : 0 ≤ i) (hi : i.toNat < ls.length), (ls.take (i + 1).toNat).flatten = (ls.take i.toNat).flatten ++ ls[i.toNat] := fun {i} h0 hi => by
    rw [show (i + 1).toNat = i.toNat + 1 by omega, List.take_succ_eq_append_getElem hi, List.flatten_append]; simp
  refine ⟨fun m i _ => 0 ≤ i ∧ i ≤ n ∧ m = (ls.take i.toNat).flatten.length, fun _ i => n - i.toNat, ⟨by omega, by omega, by simp⟩, ?_⟩
  rintro H2 l2 m i ⟨h0, h1, rfl⟩
  refine ⟨fun hlt => ?_, fun hge => ?_⟩
  · have hlt := of_decide_eq_true hlt
    obtain ⟨hi, hA, _, hc, ⟨A3, n3, c3, rfl, hs3⟩⟩ := hs.at l2 h0 hlt
    have e3 := hs3.len
    have k1 := hle0 (i + 1).toNat
    have k2 := congrArg List.length (hsucc h0 hi)
    rw [List.length_append, e3] at k2
    refine ⟨hA, h0, hlt, _, _, _, hc, by simp only [rng]; omega, fun hf => ?_, fun _ => ⟨by simp only [rng]; omega, ⟨by omega, by omega, by omega⟩, by dsimp only; omega⟩⟩
    have := of_decide_eq_true hf
    omega
  · have hge := of_decide_eq_false hge
    have hall : (ls.take i.toNat).flatten = ls.flatten := by rw [List.take_of_length_le (by omega)]
    rw [hall]
    refine ⟨_, Grow_Int (by omega) (by omega), ?_⟩
    rintro H3 l3 _ _ ⟨rfl, rfl⟩
    refine ⟨fun m xs i H' => 0 ≤ i ∧ i ≤ n ∧ m = (ls.take i.toNat).flatten.length ∧ Row H' xs (ls.take i.toNat).flatten, fun _ _ i => n - i.toNat, ⟨by omega, by omega, by simp, by simp [Row]⟩, ?_⟩
    rintro H4 l4 _ xs j ⟨j0, j1, rfl, hr⟩
    refine ⟨fun hlt => ?_, fun hge => ?_⟩
    · have hlt := of_decide_eq_true hlt
      obtain ⟨hi, hA, _, hc, ⟨A3, n3, c3, rfl, hs3⟩⟩ := hs.at (hle_trans l2 (hle_trans l3 l4)) j0 hlt
      have e3 := hs3.len
      have k1 := hle0 (j + 1).toNat
      have k2 := congrArg List.length (hsucc j0 hi)
      rw [List.length_append, e3] at k2
      obtain ⟨ys, y1, y2⟩ := hs3.row
      refine ⟨hA, j0, hlt, _, _, _, hc, ys, y1, by rw [y2.length, e3]; rfl, by omega, by simp only [rng]; omega, ⟨by omega, by omega, by omega, ?_⟩, by dsimp only; omega⟩
      rw [hsucc j0 hi]
      exact hr.append y2
    · have hge := of_decide_eq_false hge
      have hall : (ls.take j.toNat).flatten = ls.flatten := by rw [List.take_of_length_le (by omega)]
      rw [hall] at hr
      rw [hall]
      exact ⟨rfl, hr⟩
def mergeLin (a b : List Int) : List Int := Lib.compact (sortI (a ++ b))
def an136 : Ann where
  res := fun | 9 => some ⟨false, [(false, [.row 14 3])]⟩ | 13 => some ⟨false, [(false, [.row 15 3])]⟩ | _ => none
  lend := fun _ => false
  mt := fun | 79 => some true | 98 => some false | _ => none
  sch := fun _ => .done
  lt := fun _ => []
  tup := tups

theorem vc136 (P : Program) (H : Heap) (aA : Option Addr) (aN aC : Nat) (bA : Option Addr) (bN bC : Nat) (ri0 : Nat) (post : Nat → List Value → Heap → Prop) :
  vcFn P tab an136 Tryz.f136 [.slice aA aN aC, .slice bA bN bC] 2 H ⟨false, [(false, [.row ri0 3])]⟩ post =
  (  ∀ (A0 : Option Addr) (c1 : Nat) (H2 : Heap), Heap.le H H2 → Cells H2 A0 0 [.slice aA aN aC, .slice bA bN bC] → 2 ≤ c1 → ∃ (post6 : Nat → List Value → Heap → Prop), ConT P 169 [.slice A0 2
  c1] H2 ⟨false, [(false, [.row 14 3])]⟩ post6 ∧ ∀ (H7 : Heap), Heap.le H2 H7 → ∀ (n9 : Nat) (xs10 : List Value), post6 n9 xs10 H7 → ∃ (post12 : List Value → Heap → Prop), ConM P 79 [.slice
  none 0 0] 0 3 n9 xs10 true H7 ⟨true, []⟩ post12 ∧ ∀ (H13 : Heap), Heap.le H7 H13 → ∀ (ys15 : List Value), post12 ys15 H13 → ∃ (post17 : List Value → Nat → List Value → Heap → Prop), ConM P
  98 [.slice none 0 0] 0 3 n9 ys15 false H13 ⟨false, [(false, [.row 15 3])]⟩ post17 ∧ ∀ (H18 : Heap), Heap.le H13 H18 → ∀ (ys20 : List Value) (n21 : Nat) (xs22 : List Value), post17 ys20 n21
  xs22 H18 → post n21 xs22 H18) := by kernel_rfl
theorem bag_MergeLineage {H : Heap} {A B : Option Addr} {n c m d r : Nat} {a b : List Int} (hs : Sl H A n c a) (ht : Sl H B m d b) (hb : (n + m) * 8 ≤ 140737488355328) :
    ConT Tryz.prog 136 [.slice A n c, .slice B m d] H ⟨false, [(false, [.row r 3])]⟩ (fun k xs H' => k = (mergeLin a b).length ∧ Row H' xs (mergeLin a b)) := by
  refine con_of_vc (an := an136) (fn := Tryz.f136) mix tabOK Tryz.func136 (by kernel_rfl) (extra := 2) ?_
  rw [vc136]
  intro A0 c0 H2 l2 hc hn
  have h0 : Sl H2 A0 2 c0 [a, b] := Row.sl (H := H2) (T := List Int) (l := [a, b]) ⟨[_], [_], rfl, ⟨A, n, c, rfl, hs.mono l2⟩, [_], [], rfl, ⟨B, m, d, rfl, ht.mono l2⟩, rfl⟩ (hle_refl H2) hc rfl hn (by decide) (by decide)
  have hl := hs.len; have hm := ht.len
  have e : [a, b].flatten = a ++ b := by simp
  have hlen : (a ++ b).length = n + m := by rw [List.length_append, hl, hm]
  refine ⟨_, Concat_Int h0 (by rw [e, hlen]; exact hb), ?_⟩
  rw [e]
  rintro H3 l3 k xs ⟨rfl, h3⟩
  refine ⟨_, Sort_Int h3 rfl (by omega), ?_⟩
  intro H4 l4 ys h4
  have h4 : Row H4 ys (sortI (a ++ b)) := h4
  refine ⟨_, Compact_Int h4 (sortI_len _) (by omega), ?_⟩
  rintro H5 l5 zs k5 xs5 h5
  exact h5
def lins (l : List Kd) : List Int := l.flatMap fun k => k.t.lin
theorem lins_succ {l : List Kd} {i : Nat} (hi : i < l.length) : lins (l.take (i + 1)) = lins (l.take i) ++ l[i].t.lin := by
  rw [List.take_succ_eq_append_getElem hi, lins, List.flatMap_append]; simp [lins]
theorem lins_take (l : List Kd) (i : Nat) : (lins (l.take i)).length ≤ (lins l).length := by
  have : lins l = lins (l.take i) ++ lins (l.drop i) := by rw [lins, lins, lins, ← List.flatMap_append, List.take_append_drop]
  rw [this, List.length_append]; omega
def mergedL (l : List Kd) : List Int := mergeLin (lins l) []
end Go.Vc
/- Violations of one key: extending, the active tuples. -/
namespace Go.Vc
open Go Go.Proofs Go.Shelf
def an71 : Ann where
  res := fun _ => none
  lend := fun _ => false
  sch := fun | 6 => (tk [0, 1, 2, 3, 4, 5, 6, 7, 8] .done) | _ => .done
  lt := fun | 4 => [.slot 13 false [.int .i64]] | _ => []
  tup := tups

theorem vc71 (P : Program) (H : Heap) (s1A : Option Addr) (s1N s1C : Nat) (s2A : Option Addr) (s2N s2C : Nat) (post : Bool → Heap → Prop) :
  vcFn P tab an71 Tryz.f71 [.slice s1A s1N s1C, .slice s2A s2N s2C] 0 H ⟨false, [(false, [.bool])]⟩ post =
  (  ((!decide ((↑s1N : Int) = (↑s2N : Int))) = true → post false H) ∧ ((!decide ((↑s1N : Int) = (↑s2N : Int))) = false → ∃ (inv2 : Int → Heap → Prop), ∃ (m3 : Int → Nat), inv2 (0 : Int) H ∧ ∀
  (H4 : Heap), Heap.le H H4 → ∀ (n6 : Int), inv2 n6 H4 → (decide (n6 < (↑s1N : Int)) = true → someA s1A ∧ (0 : Int) ≤ n6 ∧ n6 < (↑s1N : Int) ∧ ∃ (n9 : Int), Cells H4 s1A (Int.toNat n6 * 1)
  [.int .i64 n9] ∧ someA s2A ∧ (0 : Int) ≤ n6 ∧ n6 < (↑s2N : Int) ∧ ∃ (n10 : Int), Cells H4 s2A (Int.toNat n6 * 1) [.int .i64 n10] ∧ ((!decide (n9 = n10)) = true → post false H4) ∧ ((!decide
  (n9 = n10)) = false → rng .i64 (n6 + (1 : Int)) ∧ inv2 (n6 + (1 : Int)) H4 ∧ m3 (n6 + (1 : Int)) < m3 n6)) ∧ (decide (n6 < (↑s1N : Int)) = false → post true H4))) := by kernel_rfl
theorem Equal_Int {H : Heap} {A B : Option Addr} {n c m d : Nat} {a b : List Int} (hs : Sl H A n c a) (ht : Sl H B m d b) :
    ConT Tryz.prog 71 [.slice A n c, .slice B m d] H shB (fun r _ => r = decide (a = b)) := by
  refine con_of_vc (an := an71) (fn := Tryz.f71) mix tabOK Tryz.func71 (by kernel_rfl) (extra := 0) ?_
  rw [vc71]
  have hl := hs.len; have hm := ht.len; have hb := hs.bn
  refine ⟨fun hne => ?_, fun he => ?_⟩
  · have : ¬ a = b := fun e => by subst e; simp at hne; omega
    simp [this]
  have hnm' : (n : Int) = m := by simpa using he
  have hnm : n = m := by omega
  refine ⟨fun i _ => 0 ≤ i ∧ i ≤ n ∧ (a = b ↔ a.drop i.toNat = b.drop i.toNat), fun i => n - i.toNat, ⟨by omega, by omega, by simp⟩, ?_⟩
  rintro H2 hle i ⟨h0, h1, h2⟩
  refine ⟨fun hlt => ?_, fun hge => ?_⟩
  · have hlt := of_decide_eq_true hlt
    obtain ⟨hi, hA, _, hc, ⟨rfl, q⟩⟩ := hs.at hle h0 hlt
    obtain ⟨hj, hB, _, hd, ⟨rfl, q'⟩⟩ := ht.at hle h0 (by omega)
    rw [drop_at h0 hi, drop_at h0 hj] at h2
    refine ⟨hA, h0, hlt, _, hc, hB, h0, by omega, _, hd, fun hne => ?_, fun he => ⟨by simp only [rng]; omega, ⟨by omega, by omega, ?_⟩, by dsimp only; omega⟩⟩
    · have : ¬ a = b := fun e => by
        have := h2.1 e
        simp only [List.cons.injEq] at this
        simp [this.1] at hne
      simp [this]
    · have he : a[i.toNat] = b[i.toNat] := by simpa using he
      rw [h2, he]; simp
  · have hge := of_decide_eq_false hge
    rw [drop_end hge hl, List.drop_eq_nil_of_le (by omega)] at h2
    simp [h2.2 rfl]
theorem set_last {T : Type} {l : List T} {x : T} (h : 0 < l.length) : l.set (l.length - 1) x = l.dropLast ++ [x] := by
  rw [List.set_eq_take_append_cons_drop, if_pos (by omega), List.dropLast_eq_take, show l.length - 1 + 1 = l.length by omega, List.drop_length]
def extV (l : List Vio) (v : Vio) : List Vio := match l.getLast? with
  | some u => if u.p.hi = v.p.lo ∧ u.ids = v.ids then l.dropLast ++ [⟨⟨u.p.lo, v.p.hi⟩, u.ids⟩] else l ++ [v]
  | none => l ++ [v]
theorem idxOf_spec {T : Type} (p : T → Bool) : ∀ (l : List T) (i : Int), 0 ≤ i → (idxOf p i l = -1 ∧ l.filter (fun x => !p x) = l) ∨ (∃ k : Nat, idxOf p i l = i + k ∧ k < l.length ∧ (l.take (k + 1)).filter (fun x => !p x) = l.take k)
  | [], i, h => .inl ⟨rfl, rfl⟩
  | x :: r, i, h => by
    by_cases hp : p x = true
    · exact .inr ⟨0, by simp [idxOf, hp], by simp, by simp [hp]⟩
    · have hp' : p x = false := by simpa using hp
      rcases idxOf_spec p r (i + 1) (by omega) with ⟨h1, h2⟩ | ⟨k, h1, h2, h3⟩
      · exact .inl ⟨by simp [idxOf, hp', h1], by simp [hp', h2]⟩
      · refine .inr ⟨k + 1, by simp [idxOf, hp', h1]; omega, by simp; omega, ?_⟩
        rw [List.take_succ_cons, List.filter_cons, if_pos (by simp [hp']), h3, List.take_succ_cons]
theorem Row.take {T : Type} [Rep T] {H : Heap} : ∀ {xs : List Value} {l : List T} (i : Nat), Row H xs l → Row H (xs.take (i * Rep.sz T)) (l.take i)
  | xs, [], i, h => by rw [show xs = [] from h]; simp [Row]
  | xs, t :: l, 0, h => by simp [Row]
  | xs, t :: l, i + 1, ⟨vs, ys, h1, h2, h3⟩ => by
    have hl := Rep.len h2
    refine ⟨vs, ys.take (i * Rep.sz T), ?_, h2, Row.take i h3⟩
    rw [h1, Nat.succ_mul, List.take_append, List.take_of_length_le (by omega), hl, Nat.add_sub_cancel]
/- the head of a row behind which cells were written -/
theorem cut_splice {T : Type} [Rep T] {H : Heap} {ys Z : List Value} {cur : List T} {n i : Nat} (hr : Row H ys cur) (hl : cur.length = n) (hi : i ≤ n) (hZ : Z.length = (n - i) * Rep.sz T) :
    Row H (List.take (List.length (splice ys (i * Rep.sz T) Z) / n * (i - 0)) (splice ys (i * Rep.sz T) Z)) (cur.take i) := by
  have hy := hr.length
  rw [hl] at hy
  have hle : i * Rep.sz T ≤ n * Rep.sz T := Nat.mul_le_mul_right _ hi
  have hsub : (n - i) * Rep.sz T = n * Rep.sz T - i * Rep.sz T := Nat.sub_mul _ _ _
  have hlen : (splice ys (i * Rep.sz T) Z).length = n * Rep.sz T := by
    simp only [splice, List.length_append, List.length_take, List.length_drop]; omega
  have hk : (splice ys (i * Rep.sz T) Z).length / n * (i - 0) = i * Rep.sz T := by
    rw [hlen, Nat.sub_zero]
    rcases Nat.eq_zero_or_pos n with h0 | h0
    · have : i = 0 := by omega
      subst this; simp
    · rw [Nat.mul_div_cancel_left _ h0, Nat.mul_comm]
  rw [hk]
  have : List.take (i * Rep.sz T) (splice ys (i * Rep.sz T) Z) = ys.take (i * Rep.sz T) := by
    simp only [splice]
    rw [List.append_assoc, List.take_append_of_le_length (by rw [List.length_take]; omega), List.take_take, Nat.min_self]
  rw [this]
  exact hr.take i
theorem filter_take_succ {T : Type} (p : T → Bool) {l : List T} {j : Nat} (hj : j < l.length) : (l.take (j + 1)).filter (fun x => !p x) = (l.take j).filter (fun x => !p x) ++ (if p l[j] then [] else [l[j]]) := by
  rw [List.take_succ_eq_append_getElem hj, List.filter_append]
  by_cases h : p l[j] <;> simp [h]
end Go.Vc
/- Violations of one key: the program's sweep. -/
namespace Go.Vc
open Go Go.Proofs Go.Shelf
def stepA (f : Int) (act rest : List Kd) : List Kd := act.filter (fun x => !decide (x.t.p.hi ≤ f)) ++ rest.takeWhile (fun x => decide (x.t.p.lo = f))
def stepR (f : Int) (rest : List Kd) : List Kd := rest.dropWhile (fun x => decide (x.t.p.lo = f))
def confGo : List Int → List Kd → List Kd → List Vio → List Vio
  | f :: t :: ps, act, rest, out => confGo (t :: ps) (stepA f act rest) (stepR f rest) (if 2 ≤ (stepA f act rest).length then extV out ⟨⟨f, t⟩, mergedL (stepA f act rest)⟩ else out)
  | _, _, _, out => out
def confl (g : List Kd) : List Vio := confGo (points g) [] g []
theorem lins_sub {a b : List Kd} (h : a.Sublist b) : (lins a).length ≤ (lins b).length := by
  induction h with
  | slnil => exact Nat.le_refl _
  | cons x _ ih => simp only [lins, List.flatMap_cons, List.length_append] at *; omega
  | cons_cons x _ ih => simp only [lins, List.flatMap_cons, List.length_append] at *; omega
theorem extV_len (l : List Vio) (v : Vio) : (extV l v).length ≤ l.length + 1 := by
  unfold extV
  split
  · split
    · simp only [List.length_append, List.length_dropLast, List.length_cons, List.length_nil]; omega
    · simp
  · simp
end Go.Vc
/- keys.Violations and keys.Holds (fewer than twenty tuples). -/
namespace Go.Vc
open Go Go.Proofs Go.Shelf
def sameK (k x : Kd) : Bool := decide (cmpVs x.key k.key = 0)
def violGo : Nat → List Kd → List Vio
  | 0, _ => []
  | _ + 1, [] => []
  | f + 1, k :: r => (if 2 ≤ (k :: r.takeWhile (sameK k)).length then confl (k :: r.takeWhile (sameK k)) else []) ++ violGo f (r.dropWhile (sameK k))
def violL (g : List Kd) : List Vio := violGo g.length g
theorem dropWhile_le {T : Type} (p : T → Bool) : ∀ l : List T, (l.dropWhile p).length ≤ l.length
  | [] => Nat.le_refl _
  | x :: l => by
    rw [List.dropWhile_cons]
    split
    · have := dropWhile_le p l; simp only [List.length_cons]; omega
    · exact Nat.le_refl _
theorem violGo_fuel : ∀ (f f' : Nat) (g : List Kd), g.length ≤ f → g.length ≤ f' → violGo f g = violGo f' g
  | 0, f', g, h, _ => by
    have : g = [] := List.eq_nil_of_length_eq_zero (by omega)
    subst this
    cases f' <;> rfl
  | f + 1, 0, g, _, h => by
    have : g = [] := List.eq_nil_of_length_eq_zero (by omega)
    subst this; rfl
  | f + 1, f' + 1, [], _, _ => rfl
  | f + 1, f' + 1, k :: r, h, h' => by
    have := dropWhile_le (sameK k) r
    simp only [List.length_cons] at h h'
    rw [violGo, violGo, violGo_fuel f f' _ (by omega) (by omega)]
theorem violL_cons (k : Kd) (r : List Kd) : violL (k :: r) = (if 2 ≤ (k :: r.takeWhile (sameK k)).length then confl (k :: r.takeWhile (sameK k)) else []) ++ violL (r.dropWhile (sameK k)) := by
  unfold violL
  have := dropWhile_le (sameK k) r
  rw [List.length_cons, violGo, violGo_fuel r.length _ _ this (Nat.le_refl _)]
theorem confGo_len : ∀ (ps : List Int) (act rest : List Kd) (out : List Vio), (confGo ps act rest out).length ≤ out.length + ps.length
  | [], _, _, out => by simp [confGo]
  | [x], _, _, out => by simp [confGo]
  | f :: t :: ps, act, rest, out => by
    rw [confGo]
    have h := confGo_len (t :: ps) (stepA f act rest) (stepR f rest) (if 2 ≤ (stepA f act rest).length then extV out ⟨⟨f, t⟩, mergedL (stepA f act rest)⟩ else out)
    have h2 : (if 2 ≤ (stepA f act rest).length then extV out ⟨⟨f, t⟩, mergedL (stepA f act rest)⟩ else out).length ≤ out.length + 1 := by
      split
      · exact extV_len _ _
      · omega
    simp only [List.length_cons] at h ⊢
    omega
theorem confl_len (g : List Kd) : (confl g).length ≤ 2 * g.length := by
  have h := confGo_len (points g) [] g []
  have b1 := compact_len (sortI (ends g))
  rw [sortI_len, ends_len] at b1
  have : (points g).length ≤ 2 * g.length := b1
  unfold confl
  simp only [List.length_nil] at h
  omega
def tlins (l : List Tup) : List Int := l.flatMap fun t => t.lin
theorem lins_byKey : ∀ (l : List Tup) (cols : List Int), (lins (byKeyL l cols)).length ≤ (tlins l).length
  | [], _ => by simp [lins, byKeyL, tlins]
  | t :: l, cols => by
    have ih := lins_byKey l cols
    simp only [lins, byKeyL, tlins, List.filter_cons, List.flatMap_cons, List.length_append] at *
    split
    · simp only [List.map_cons, List.flatMap_cons, List.length_append]; omega
    · omega
theorem lins_perm {a b : List Kd} (h : a.Perm b) : (lins a).length = (lins b).length := (h.flatMap_right _).length_eq
end Go.Vc
/- Plain laws of the violations of one key: in ascending order, separated or with other IDs. -/
namespace Go.Vc
open Go
def apartV (u v : Vio) : Prop := u.p.hi ≤ v.p.lo ∧ ¬ (u.p.hi = v.p.lo ∧ u.ids = v.ids)
def chainV : List Vio → Prop
  | [] => True
  | [_] => True
  | u :: v :: r => apartV u v ∧ chainV (v :: r)
theorem chainV_snoc : ∀ (l : List Vio) (v : Vio), chainV (l ++ [v]) ↔ chainV l ∧ ∀ u, l.getLast? = some u → apartV u v
  | [], v => by simp [chainV]
  | [u], v => by simp [chainV]
  | u :: w :: r, v => by
    have ih := chainV_snoc (w :: r) v
    simp only [List.cons_append, chainV] at ih ⊢
    rw [ih, and_assoc]
    simp [List.getLast?_cons_cons]
theorem chainV_get : ∀ (l : List Vio), chainV l → ∀ i (h : i + 1 < l.length), apartV l[i] l[i + 1]
  | [], _, i, h => by simp at h
  | [_], _, i, h => by simp at h
  | u :: v :: r, hc, 0, h => hc.1
  | u :: v :: r, hc, i + 1, h => by
    have := chainV_get (v :: r) hc.2 i (by simpa using h)
    simpa using this
theorem extV_chain {l : List Vio} {v : Vio} (hc : chainV l) (hl : ∀ u, l.getLast? = some u → u.p.hi ≤ v.p.lo) : chainV (extV l v) ∧ ∀ u, (extV l v).getLast? = some u → u.p.hi = v.p.hi := by
  unfold extV
  split
  · rename_i u hu
    obtain ⟨l', rfl⟩ : ∃ l', l = l' ++ [u] := by
      rw [List.getLast?_eq_some_iff] at hu
      exact hu
    rw [List.dropLast_concat]
    obtain ⟨h1, h2⟩ := (chainV_snoc l' u).1 hc
    split
    · rename_i h
      refine ⟨(chainV_snoc _ _).2 ⟨h1, fun w hw => ?_⟩, fun w hw => ?_⟩
      · have := h2 w hw
        exact this
      · simp at hw; subst hw; rfl
    · rename_i h
      refine ⟨(chainV_snoc _ _).2 ⟨hc, fun w hw => ?_⟩, fun w hw => ?_⟩
      · simp at hw; subst hw
        exact ⟨hl u (by simp), h⟩
      · simp at hw; subst hw; rfl
  · rename_i h
    refine ⟨(chainV_snoc _ _).2 ⟨hc, fun w hw => ?_⟩, fun w hw => ?_⟩
    · rw [h] at hw; cases hw
    · simp at hw; subst hw; rfl
theorem confGo_chain : ∀ (ps : List Int) (act rest : List Kd) (out : List Vio), ps.Pairwise (fun a b => a < b) → chainV out → (∀ u f, out.getLast? = some u → ps.head? = some f → u.p.hi ≤ f) → chainV (confGo ps act rest out)
  | [], _, _, out, _, hc, _ => by simpa [confGo] using hc
  | [x], _, _, out, _, hc, _ => by simpa [confGo] using hc
  | f :: t :: ps, act, rest, out, hp, hc, hl => by
    rw [confGo]
    have hft : f < t := (List.pairwise_cons.1 hp).1 t (by simp)
    obtain ⟨h1, h2⟩ := extV_chain (v := ⟨⟨f, t⟩, mergedL (stepA f act rest)⟩) hc (fun u hu => hl u f hu rfl)
    refine confGo_chain (t :: ps) _ _ _ (List.pairwise_cons.1 hp).2 ?_ ?_
    · split
      · exact h1
      · exact hc
    · intro u g hu hg
      simp at hg; subst hg
      split at hu
      · rw [h2 u hu]; exact Int.le_refl _
      · have := hl u f hu rfl; omega
end Go.Vc
/- Plain laws: dropping neighbours that are equal, out of an ascending list. -/
namespace Go.Vc
open Go
theorem snoc_ind {T : Type} {p : List T → Prop} (h0 : p []) (h1 : ∀ l x, p l → p (l ++ [x])) (l : List T) : p l := by
  have key : ∀ r : List T, p r.reverse := by
    intro r
    induction r with
    | nil => exact h0
    | cons x r ih => rw [List.reverse_cons]; exact h1 _ _ ih
  have := key l.reverse
  rwa [List.reverse_reverse] at this
theorem compact_last (l : List Int) : (Lib.compact l).getLast? = l.getLast? := by
  refine snoc_ind (p := fun l => (Lib.compact l).getLast? = l.getLast?) rfl (fun l x ih => ?_) l
  rw [compact_snoc]
  split
  · rename_i h
    rw [List.append_nil, ih, h]; simp
  · simp
theorem compact_mem (l : List Int) (y : Int) : y ∈ Lib.compact l ↔ y ∈ l := by
  refine snoc_ind (p := fun l => y ∈ Lib.compact l ↔ y ∈ l) (by simp [show Lib.compact ([] : List Int) = [] from rfl]) (fun l x ih => ?_) l
  rw [compact_snoc]
  split
  · rename_i h
    have hx : x ∈ l := List.mem_of_getLast? h
    rw [List.append_nil, ih]
    simp only [List.mem_append, List.mem_singleton]
    exact ⟨.inl, fun h => h.elim id (fun e => e ▸ hx)⟩
  · simp [ih]
theorem compact_asc (l : List Int) (h : l.Pairwise (fun a b => a ≤ b)) : (Lib.compact l).Pairwise (fun a b => a < b) := by
  revert h
  refine snoc_ind (p := fun l => l.Pairwise (fun a b => a ≤ b) → (Lib.compact l).Pairwise (fun a b => a < b)) (fun _ => by simp [show Lib.compact ([] : List Int) = [] from rfl]) (fun l x ih => ?_) l
  intro h
  obtain ⟨h1, -, h2⟩ := List.pairwise_append.1 h
  have h2 : ∀ a ∈ l, a ≤ x := fun a ha => h2 a ha x (by simp)
  rw [compact_snoc]
  split
  · rw [List.append_nil]; exact ih h1
  · rename_i hne
    refine List.pairwise_append.2 ⟨ih h1, by simp, fun a ha b hb => ?_⟩
    simp at hb; subst hb
    -- a is below the last, which is below x
    obtain ⟨z, hz⟩ : ∃ z, (Lib.compact l).getLast? = some z := by
      cases hl : (Lib.compact l).getLast? with
      | none => rw [List.getLast?_eq_none_iff] at hl; rw [hl] at ha; cases ha
      | some z => exact ⟨z, rfl⟩
    have hzl : l.getLast? = some z := by rw [← compact_last]; exact hz
    have hzx : z ≠ b := fun e => hne (by rw [hzl, e])
    have hz1 := h2 z (List.mem_of_getLast? hzl)
    obtain ⟨l', hl'⟩ := List.getLast?_eq_some_iff.1 hz
    have hp := ih h1
    rw [hl'] at hp ha
    rcases List.mem_append.1 ha with ha | ha
    · have := (List.pairwise_append.1 hp).2.2 a ha z (by simp)
      omega
    · simp at ha; subst ha; omega
theorem sortI_asc (l : List Int) : (sortI l).Pairwise (fun a b => a ≤ b) := by
  have h1 := List.pairwise_mergeSort (le := fun x y : Int => decide (x ≤ y)) (fun a b c h1 h2 => by simp only [decide_eq_true_eq] at *; omega) (fun a b => by simp only [Bool.or_eq_true, decide_eq_true_eq]; omega) l
  exact h1.imp fun h => by simpa using h
theorem points_asc (g : List Kd) : (points g).Pairwise (fun a b => a < b) := compact_asc _ (sortI_asc _)
theorem confl_chain (g : List Kd) : chainV (confl g) := confGo_chain _ _ _ _ (points_asc g) trivial (fun u f h => by cases h)
end Go.Vc
/- Plain laws: which days the violations of one key cover. -/
namespace Go.Vc
open Go
def inV (v : Vio) (d : Int) : Prop := v.p.lo ≤ d ∧ d < v.p.hi
def covV (l : List Vio) (d : Int) : Prop := ∃ v ∈ l, inV v d
theorem extV_cov {l : List Vio} {v : Vio} {d : Int} (hl : ∀ u, l.getLast? = some u → u.p.lo < u.p.hi) (hv : v.p.lo < v.p.hi) :
    (covV (extV l v) d ↔ covV l d ∨ inV v d) ∧ ∀ u, (extV l v).getLast? = some u → u.p.lo < u.p.hi := by
  unfold extV
  split
  · rename_i u hu
    have hu0 := hl u hu
    obtain ⟨l', rfl⟩ := List.getLast?_eq_some_iff.1 hu
    rw [List.dropLast_concat]
    split
    · rename_i h
      refine ⟨?_, fun w hw => by simp at hw; subst hw; show u.p.lo < v.p.hi; omega⟩
      simp only [covV, List.mem_append, List.mem_singleton, inV]
      constructor
      · rintro ⟨w, hw | rfl, h1, h2⟩
        · exact .inl ⟨w, .inl hw, h1, h2⟩
        · have h1 : u.p.lo ≤ d := h1
          have h2 : d < v.p.hi := h2
          by_cases hd : d < u.p.hi
          · exact .inl ⟨u, .inr rfl, h1, hd⟩
          · exact .inr ⟨by omega, h2⟩
      · rintro (⟨w, hw | rfl, h1, h2⟩ | ⟨h1, h2⟩)
        · exact ⟨w, .inl hw, h1, h2⟩
        · exact ⟨_, .inr rfl, h1, by show d < v.p.hi; omega⟩
        · exact ⟨_, .inr rfl, by show u.p.lo ≤ d; omega, h2⟩
    · refine ⟨?_, fun w hw => by simp at hw; subst hw; exact hv⟩
      simp only [covV, List.mem_append, List.mem_singleton]
      constructor
      · rintro ⟨w, hw | rfl, h⟩
        · exact .inl ⟨w, hw, h⟩
        · exact .inr h
      · rintro (⟨w, hw, h⟩ | h)
        · exact ⟨w, .inl hw, h⟩
        · exact ⟨v, .inr rfl, h⟩
  · rename_i h
    have : l = [] := List.getLast?_eq_none_iff.1 h
    subst this
    refine ⟨?_, fun w hw => by simp at hw; subst hw; exact hv⟩
    simp [covV]
/- the days of the steps at which two or more tuples hold -/
def covGo : List Int → List Kd → List Kd → Int → Prop
  | f :: t :: ps, act, rest, d => ((f ≤ d ∧ d < t) ∧ 2 ≤ (stepA f act rest).length) ∨ covGo (t :: ps) (stepA f act rest) (stepR f rest) d
  | _, _, _, _ => False
theorem confGo_cov : ∀ (ps : List Int) (act rest : List Kd) (out : List Vio) (d : Int), ps.Pairwise (fun a b => a < b) → (∀ u, out.getLast? = some u → u.p.lo < u.p.hi) → (covV (confGo ps act rest out) d ↔ covV out d ∨ covGo ps act rest d)
  | [], _, _, out, d, _, _ => by simp [confGo, covGo]
  | [x], _, _, out, d, _, _ => by simp [confGo, covGo]
  | f :: t :: ps, act, rest, out, d, hp, hl => by
    rw [confGo, covGo]
    have hft : f < t := (List.pairwise_cons.1 hp).1 t (by simp)
    obtain ⟨h1, h2⟩ := extV_cov (d := d) (v := ⟨⟨f, t⟩, mergedL (stepA f act rest)⟩) hl hft
    by_cases h : 2 ≤ (stepA f act rest).length
    · rw [if_pos h, confGo_cov (t :: ps) _ _ _ d (List.pairwise_cons.1 hp).2 h2, h1, or_assoc]
      simp only [inV, h, and_true]
    · rw [if_neg h, confGo_cov (t :: ps) _ _ _ d (List.pairwise_cons.1 hp).2 hl]
      simp only [h, and_false, false_or]
theorem confl_cov (g : List Kd) (d : Int) : covV (confl g) d ↔ covGo (points g) [] g d := by
  unfold confl
  rw [confGo_cov _ _ _ _ d (points_asc g) (fun u h => by cases h)]
  simp [covV]
end Go.Vc
/- Plain laws: the tuples that the sweep holds active are those that hold on the day. -/
namespace Go.Vc
open Go
theorem tw_mem {T : Type} {p : T → Bool} : ∀ {l : List T} {x : T}, x ∈ l.takeWhile p → p x = true
  | [], x, h => by cases h
  | y :: l, x, h => by
    rw [List.takeWhile_cons] at h
    split at h
    · rcases List.mem_cons.1 h with rfl | h
      · assumption
      · exact tw_mem h
    · cases h
def atD (d : Int) (x : Kd) : Bool := decide (x.t.p.lo ≤ d) && decide (d < x.t.p.hi)
/- no end of a tuple of g lies strictly between f and t -/
theorem atD_same {x : Kd} {f t d : Int} (h1 : f ≤ d) (h2 : d < t) (ha : x.t.p.lo ≤ f ∨ t ≤ x.t.p.lo) (hb : x.t.p.hi ≤ f ∨ t ≤ x.t.p.hi) : atD d x = atD f x := by
  unfold atD
  rw [Bool.eq_iff_iff]
  simp only [Bool.and_eq_true, decide_eq_true_eq]
  omega
def ascK (l : List Kd) : Prop := l.Pairwise (fun a b => a.t.p.lo ≤ b.t.p.lo)
def lateK (f : Int) (l : List Kd) : List Kd := l.filter (fun x => !decide (x.t.p.hi ≤ f))
theorem rest_take {f : Int} : ∀ {rest : List Kd}, ascK rest → (∀ x ∈ rest, f ≤ x.t.p.lo ∧ x.t.p.lo < x.t.p.hi) →
    rest.filter (atD f) = rest.takeWhile (fun x => decide (x.t.p.lo = f)) ∧ (∀ x ∈ stepR f rest, f < x.t.p.lo)
  | [], _, _ => ⟨rfl, fun x h => by cases h⟩
  | x :: r, hs, h => by
    obtain ⟨h1, h2⟩ := List.pairwise_cons.1 hs
    obtain ⟨a1, a2⟩ := h x (by simp)
    obtain ⟨i1, i2⟩ := rest_take h2 (fun y hy => h y (by simp [hy]))
    by_cases e : x.t.p.lo = f
    · have ha : atD f x = true := by simp only [atD, Bool.and_eq_true, decide_eq_true_eq]; omega
      rw [List.filter_cons, if_pos ha, List.takeWhile_cons, if_pos (by simpa using e), i1]
      refine ⟨rfl, ?_⟩
      unfold stepR
      rw [List.dropWhile_cons, if_pos (by simpa using e)]
      exact i2
    · have ha : ∀ y ∈ x :: r, f < y.t.p.lo := by
        intro y hy
        rcases List.mem_cons.1 hy with rfl | hy
        · omega
        · have := h1 y hy; omega
      refine ⟨?_, ?_⟩
      · rw [List.takeWhile_cons, if_neg (by simpa using e)]
        refine List.filter_eq_nil_iff.2 fun y hy => ?_
        have := ha y hy
        simp only [atD, Bool.and_eq_true, decide_eq_true_eq]; omega
      · unfold stepR
        rw [List.dropWhile_cons, if_neg (by simpa using e)]
        exact ha
theorem step_at {f : Int} {pre act rest : List Kd} (hp : ∀ x ∈ pre, x.t.p.lo < f) (ha : lateK f act = lateK f pre) (hs : ascK rest) (hr : ∀ x ∈ rest, f ≤ x.t.p.lo ∧ x.t.p.lo < x.t.p.hi) :
    stepA f act rest = (pre ++ rest).filter (atD f) ∧ lateK f (stepA f act rest) = lateK f (pre ++ rest.takeWhile (fun x => decide (x.t.p.lo = f))) := by
  obtain ⟨h1, h2⟩ := rest_take hs hr
  have e0 : lateK f pre = pre.filter (atD f) := by
    refine List.filter_congr fun x hx => ?_
    have := hp x hx
    rw [Bool.eq_iff_iff]
    simp only [atD, Bool.and_eq_true, decide_eq_true_eq, Bool.not_eq_true', decide_eq_false_iff_not]; omega
  have e1 : stepA f act rest = (pre ++ rest).filter (atD f) := by
    rw [List.filter_append, h1, ← e0, ← ha]; rfl
  refine ⟨e1, ?_⟩
  have : stepA f act rest = lateK f act ++ rest.takeWhile (fun x => decide (x.t.p.lo = f)) := rfl
  rw [this, ha]
  simp only [lateK, List.filter_append, List.filter_filter, Bool.and_self]
theorem late_late {f t : Int} (h : f < t) (l : List Kd) : lateK t (lateK f l) = lateK t l := by
  simp only [lateK, List.filter_filter]
  refine List.filter_congr fun x _ => ?_
  rw [Bool.eq_iff_iff]
  simp only [Bool.and_eq_true, Bool.not_eq_true', decide_eq_false_iff_not]; omega
/- the sweep with the tuples that hold at each point -/
def sweepG (g : List Kd) : List Int → List Vio → List Vio
  | f :: t :: ps, out => sweepG g (t :: ps) (if 2 ≤ (g.filter (atD f)).length then extV out ⟨⟨f, t⟩, mergedL (g.filter (atD f))⟩ else out)
  | _, out => out
theorem confGo_sweep : ∀ (ps : List Int) (f : Int) (pre act rest : List Kd) (out : List Vio), (f :: ps).Pairwise (fun a b => a < b) → (∀ x ∈ pre, x.t.p.lo < f) → lateK f act = lateK f pre → ascK rest →
    (∀ x ∈ rest, x.t.p.lo ∈ f :: ps ∧ x.t.p.lo < x.t.p.hi) → confGo (f :: ps) act rest out = sweepG (pre ++ rest) (f :: ps) out
  | [], f, pre, act, rest, out, _, _, _, _, _ => rfl
  | t :: ps, f, pre, act, rest, out, hp, h1, h2, h3, h4 => by
    obtain ⟨p1, p2⟩ := List.pairwise_cons.1 hp
    have hft : f < t := p1 t (by simp)
    have hge : ∀ x ∈ rest, f ≤ x.t.p.lo ∧ x.t.p.lo < x.t.p.hi := by
      intro x hx
      obtain ⟨a, b⟩ := h4 x hx
      rcases List.mem_cons.1 a with a | a
      · omega
      · have := p1 _ a; omega
    obtain ⟨s1, s2⟩ := step_at h1 h2 h3 hge
    obtain ⟨-, r2⟩ := rest_take h3 hge
    have hsub : (stepR f rest).Sublist rest := List.dropWhile_sublist _
    have hsplit : rest.takeWhile (fun x => decide (x.t.p.lo = f)) ++ stepR f rest = rest := List.takeWhile_append_dropWhile
    rw [confGo, sweepG, confGo_sweep ps t (pre ++ rest.takeWhile (fun x => decide (x.t.p.lo = f))) _ _ _ p2 ?_ ?_ ?_ ?_, List.append_assoc, hsplit, s1]
    · intro x hx
      rcases List.mem_append.1 hx with hx | hx
      · have := h1 x hx; omega
      · have := tw_mem hx
        have := of_decide_eq_true this
        omega
    · rw [← late_late hft (stepA f act rest), s2, late_late hft]
    · exact List.Pairwise.sublist hsub h3
    · intro x hx
      have a := h4 x (hsub.subset hx)
      have b := r2 x hx
      refine ⟨?_, a.2⟩
      rcases List.mem_cons.1 a.1 with e | e
      · omega
      · exact e
theorem ends_mem {g : List Kd} {x : Kd} (hx : x ∈ g) : x.t.p.lo ∈ points g ∧ x.t.p.hi ∈ points g := by
  have hm : ∀ y, y ∈ ends g → y ∈ points g := fun y hy => by
    rw [points, compact_mem, sortI, List.mem_mergeSort]; exact hy
  exact ⟨hm _ (List.mem_flatMap.2 ⟨x, hx, by simp⟩), hm _ (List.mem_flatMap.2 ⟨x, hx, by simp⟩)⟩
theorem mem_points {g : List Kd} {y : Int} : y ∈ points g ↔ ∃ x ∈ g, y = x.t.p.lo ∨ y = x.t.p.hi := by
  rw [points, compact_mem, sortI, List.mem_mergeSort, ends, List.mem_flatMap]
  simp
theorem confl_sweep {g : List Kd} (hs : ascK g) (hv : ∀ x ∈ g, x.t.p.lo < x.t.p.hi) : confl g = sweepG g (points g) [] := by
  unfold confl
  have ha := points_asc g
  have hm : ∀ x ∈ g, x.t.p.lo ∈ points g := fun x hx => (ends_mem hx).1
  revert ha hm
  generalize points g = ps
  intro ha hm
  cases ps with
  | nil => rfl
  | cons f ps => exact confGo_sweep ps f [] [] g [] ha (fun x h => by cases h) rfl hs fun x hx => ⟨hm x hx, hv x hx⟩
/- the days of the steps at which two or more tuples hold -/
theorem sweep_cov : ∀ (ps : List Int) (g : List Kd) (out : List Vio) (f d : Int), (f :: ps).Pairwise (fun a b => a < b) → (∀ u, out.getLast? = some u → u.p.lo < u.p.hi) →
    (∀ x ∈ g, (x.t.p.lo ∈ f :: ps ∨ x.t.p.lo ≤ f) ∧ (x.t.p.hi ∈ f :: ps ∨ x.t.p.hi ≤ f)) → (covV (sweepG g (f :: ps) out) d ↔ covV out d ∨ (f ≤ d ∧ 2 ≤ (g.filter (atD d)).length))
  | [], g, out, f, d, hp, hl, hg => by
    show covV out d ↔ _
    constructor
    · exact .inl
    · rintro (h | ⟨h1, h2⟩)
      · exact h
      · have : g.filter (atD d) = [] := List.filter_eq_nil_iff.2 fun x hx => by
          have := (hg x hx).2
          simp only [List.mem_singleton] at this
          simp only [atD, Bool.and_eq_true, decide_eq_true_eq]; omega
        rw [this] at h2
        simp at h2
  | t :: ps, g, out, f, d, hp, hl, hg => by
    obtain ⟨p1, p2⟩ := List.pairwise_cons.1 hp
    have hft : f < t := p1 t (by simp)
    have hend : ∀ y, (y ∈ f :: t :: ps ∨ y ≤ f) → (y ≤ f ∨ t ≤ y) ∧ (y ∈ t :: ps ∨ y ≤ t) := by
      intro y hy
      rcases hy with hy | hy
      · rcases List.mem_cons.1 hy with hy | hy
        · exact ⟨by omega, .inr (by omega)⟩
        · refine ⟨.inr ?_, .inl hy⟩
          rcases List.mem_cons.1 hy with hy | hy
          · omega
          · have := (List.pairwise_cons.1 p2).1 _ hy; omega
      · exact ⟨.inl hy, .inr (by omega)⟩
    have hg' : ∀ x ∈ g, (x.t.p.lo ∈ t :: ps ∨ x.t.p.lo ≤ t) ∧ (x.t.p.hi ∈ t :: ps ∨ x.t.p.hi ≤ t) := fun x hx => ⟨(hend _ (hg x hx).1).2, (hend _ (hg x hx).2).2⟩
    have hsame : f ≤ d → d < t → g.filter (atD d) = g.filter (atD f) := fun h1 h2 => List.filter_congr fun x hx => atD_same h1 h2 (hend _ (hg x hx).1).1 (hend _ (hg x hx).2).1
    obtain ⟨c1, c2⟩ := extV_cov (d := d) (v := ⟨⟨f, t⟩, mergedL (g.filter (atD f))⟩) hl hft
    rw [sweepG]
    by_cases h : 2 ≤ (g.filter (atD f)).length
    · rw [if_pos h, sweep_cov ps g _ t d p2 c2 hg', c1]
      simp only [inV]
      constructor
      · rintro ((h1 | h1) | h1)
        · exact .inl h1
        · exact .inr ⟨h1.1, by rw [hsame h1.1 h1.2]; exact h⟩
        · exact .inr ⟨by omega, h1.2⟩
      · rintro (h1 | h1)
        · exact .inl (.inl h1)
        · by_cases hd : d < t
          · exact .inl (.inr ⟨h1.1, hd⟩)
          · exact .inr ⟨by omega, h1.2⟩
    · rw [if_neg h, sweep_cov ps g _ t d p2 hl hg']
      constructor
      · rintro (h1 | h1)
        · exact .inl h1
        · exact .inr ⟨by omega, h1.2⟩
      · rintro (h1 | h1)
        · exact .inl h1
        · by_cases hd : d < t
          · rw [hsame h1.1 hd] at h1; exact absurd h1.2 h
          · exact .inr ⟨by omega, h1.2⟩
theorem confl_days {g : List Kd} (hs : ascK g) (hv : ∀ x ∈ g, x.t.p.lo < x.t.p.hi) (d : Int) : covV (confl g) d ↔ 2 ≤ (g.filter (atD d)).length := by
  rw [confl_sweep hs hv]
  have ha := points_asc g
  have hm : ∀ x ∈ g, x.t.p.lo ∈ points g ∧ x.t.p.hi ∈ points g := fun x hx => ends_mem hx
  revert ha hm
  generalize points g = ps
  intro ha hm
  cases ps with
  | nil =>
    cases g with
    | nil => simp [sweepG, covV]
    | cons x r => exact absurd (hm x (by simp)).1 (by simp)
  | cons f ps =>
    rw [sweep_cov ps g [] f d ha (fun u h => by cases h) fun x hx => ⟨.inl (hm x hx).1, .inl (hm x hx).2⟩]
    constructor
    · rintro (⟨v, h, _⟩ | h)
      · cases h
      · exact h.2
    · intro h
      refine .inr ⟨?_, h⟩
      obtain ⟨x, hx⟩ : ∃ x, x ∈ g.filter (atD d) := by
        cases hf : g.filter (atD d) with
        | nil => rw [hf] at h; simp at h
        | cons x r => exact ⟨x, by simp⟩
      obtain ⟨h1, h2⟩ := List.mem_filter.1 hx
      have := (hm x h1).1
      simp only [atD, Bool.and_eq_true, decide_eq_true_eq] at h2
      rcases List.mem_cons.1 this with e | e
      · omega
      · have := (List.pairwise_cons.1 ha).1 _ e; omega
end Go.Vc
/- Plain laws: the groups of equal key values; which days the violations of a key cover. -/
namespace Go.Vc
open Go
def sortedK (g : List Kd) : Prop := g.Pairwise (fun a b => ¬ cmpKd b a < 0)
theorem cmpVs_zero {a b : List Val} : cmpVs a b = 0 ↔ a = b := ⟨fun h => cmpVs_ord.eq _ _ h, fun h => h ▸ cmpVs_ord.refl _⟩
theorem sameK_iff {k x : Kd} : sameK k x = true ↔ x.key = k.key := by
  unfold sameK
  rw [decide_eq_true_eq]
  exact cmpVs_zero
theorem cmpKd_same {a b : Kd} (h : a.key = b.key) : cmpKd a b = cmpI a.t.p.lo b.t.p.lo := by
  rw [cmpKd_eq, cmpKL]
  exact if_neg (by simp only [kdKey, h]; simp [cmpVs_ord.refl])
theorem cmpKd_diff {a b : Kd} (h : a.key ≠ b.key) : cmpKd a b = cmpVs a.key b.key := by
  rw [cmpKd_eq, cmpKL]
  exact if_pos (fun e => h (cmpVs_zero.1 e))
theorem same_asc {l : List Kd} {k : List Val} (hk : ∀ x ∈ l, x.key = k) (hs : sortedK l) : ascK l := by
  refine List.Pairwise.imp_of_mem (fun {a b} ha hb h => ?_) hs
  rw [cmpKd_same ((hk b hb).trans (hk a ha).symm)] at h
  unfold cmpI at h
  split at h
  · exact absurd (by decide) h
  · omega
structure Grp (k : Kd) (r : List Kd) : Prop where
  same : ∀ x ∈ k :: r.takeWhile (sameK k), x.key = k.key
  asc : ascK (k :: r.takeWhile (sameK k))
  rest : ∀ x ∈ r.dropWhile (sameK k), cmpVs k.key x.key = -1
  sorted : sortedK (r.dropWhile (sameK k))
  eq : k :: r = (k :: r.takeWhile (sameK k)) ++ r.dropWhile (sameK k)
theorem grp {k : Kd} {r : List Kd} (hs : sortedK (k :: r)) : Grp k r := by
  have hsplit : r.takeWhile (sameK k) ++ r.dropWhile (sameK k) = r := List.takeWhile_append_dropWhile
  have hsame : ∀ x ∈ k :: r.takeWhile (sameK k), x.key = k.key := by
    intro x hx
    rcases List.mem_cons.1 hx with rfl | hx
    · rfl
    · exact sameK_iff.1 (tw_mem hx)
  have h1 : sortedK (k :: r.takeWhile (sameK k)) := List.Pairwise.sublist (List.Sublist.cons_cons _ (List.takeWhile_sublist _)) hs
  have h2 : sortedK (r.dropWhile (sameK k)) := List.Pairwise.sublist (List.dropWhile_sublist _) (List.pairwise_cons.1 hs).2
  refine ⟨hsame, same_asc hsame h1, ?_, h2, by rw [List.cons_append, hsplit]⟩
  have hk : ∀ x ∈ r.dropWhile (sameK k), ¬ cmpKd x k < 0 := fun x hx => (List.pairwise_cons.1 hs).1 x ((List.dropWhile_sublist _).subset hx)
  revert h2 hk
  cases hd : r.dropWhile (sameK k) with
  | nil => intro _ _ x hx; cases hx
  | cons y s =>
    intro h2 hk x hx
    have hy : ¬ sameK k y = true := by
      have := List.head?_dropWhile_not (sameK k) r
      rw [hd] at this
      simpa using this
    have hy : y.key ≠ k.key := fun e => hy (sameK_iff.2 e)
    have hyk := hk y (by simp)
    rw [cmpKd_diff hy] at hyk
    have sy := cmpVs_ord.sign y.key k.key
    have ay := cmpVs_ord.anti y.key k.key
    have : cmpVs y.key k.key ≠ 0 := fun e => hy (cmpVs_zero.1 e)
    have hky : cmpVs k.key y.key = -1 := by omega
    rcases List.mem_cons.1 hx with rfl | hx
    · exact hky
    · have hxy := (List.pairwise_cons.1 h2).1 x hx
      by_cases e : x.key = y.key
      · rw [e]; exact hky
      · rw [cmpKd_diff e] at hxy
        have sx := cmpVs_ord.sign x.key y.key
        have ax := cmpVs_ord.anti x.key y.key
        have : cmpVs x.key y.key ≠ 0 := fun h => e (cmpVs_zero.1 h)
        exact cmpVs_ord.trans _ _ _ hky (by omega)
theorem viol_ind {p : List Kd → Prop} (h0 : p []) (h1 : ∀ k r, sortedK (k :: r) → Grp k r → p (r.dropWhile (sameK k)) → p (k :: r)) (g : List Kd) (hs : sortedK g) : p g := by
  have key : ∀ (n : Nat) (g : List Kd), g.length ≤ n → sortedK g → p g := by
    intro n
    induction n with
    | zero =>
      intro g hl _
      cases g with
      | nil => exact h0
      | cons k r => simp at hl
    | succ n ih =>
      intro g hl hs
      cases g with
      | nil => exact h0
      | cons k r =>
        have hg := grp hs
        refine h1 k r hs hg (ih _ ?_ hg.sorted)
        have := dropWhile_le (sameK k) r
        simp only [List.length_cons] at hl
        omega
  exact key g.length g (Nat.le_refl _) hs
theorem nodup_const {T S : Type} {f : T → S} {c : S} : ∀ {l : List T}, (∀ x ∈ l, f x = c) → ((l.map f).Nodup ↔ ¬ 2 ≤ l.length)
  | [], _ => by simp
  | [x], _ => by simp
  | x :: y :: l, h => by
    have h1 := h x (by simp); have h2 := h y (by simp)
    simp [h1, h2]
theorem covV_append {a b : List Vio} {d : Int} : covV (a ++ b) d ↔ covV a d ∨ covV b d := by
  simp only [covV, List.mem_append]
  constructor
  · rintro ⟨v, h | h, hv⟩
    · exact .inl ⟨v, h, hv⟩
    · exact .inr ⟨v, h, hv⟩
  · rintro (⟨v, h, hv⟩ | ⟨v, h, hv⟩)
    · exact ⟨v, .inl h, hv⟩
    · exact ⟨v, .inr h, hv⟩
theorem viol_days {g : List Kd} (hs : sortedK g) (hv : ∀ x ∈ g, x.t.p.lo < x.t.p.hi) (d : Int) : covV (violL g) d ↔ ¬ ((g.filter (atD d)).map (fun x => x.key)).Nodup := by
  revert hv
  refine viol_ind (p := fun g => (∀ x ∈ g, x.t.p.lo < x.t.p.hi) → (covV (violL g) d ↔ ¬ ((g.filter (atD d)).map (fun x => x.key)).Nodup)) ?_ ?_ g hs
  · intro _
    simp [violL, violGo, covV]
  · intro k r hs hg ih hv
    have hvr : ∀ x ∈ r.dropWhile (sameK k), x.t.p.lo < x.t.p.hi := fun x hx => hv x (List.mem_cons_of_mem _ ((List.dropWhile_sublist _).subset hx))
    have hva : ∀ x ∈ k :: r.takeWhile (sameK k), x.t.p.lo < x.t.p.hi := fun x hx => hv x (by rw [hg.eq]; exact List.mem_append_left _ hx)
    have ih := ih hvr
    rw [violL_cons, covV_append, ih, hg.eq]
    have hA : covV (if 2 ≤ (k :: r.takeWhile (sameK k)).length then confl (k :: r.takeWhile (sameK k)) else []) d ↔ 2 ≤ ((k :: r.takeWhile (sameK k)).filter (atD d)).length := by
      split
      · exact confl_days hg.asc hva d
      · rename_i h
        have := List.length_filter_le (atD d) (k :: r.takeWhile (sameK k))
        constructor
        · rintro ⟨v, hv, _⟩; cases hv
        · intro; omega
    rw [hA, List.filter_append, List.map_append, List.nodup_append, nodup_const (c := k.key) (fun x hx => hg.same x ((List.mem_filter.1 hx).1))]
    have hdis : ∀ a ∈ ((k :: r.takeWhile (sameK k)).filter (atD d)).map (fun x => x.key), ∀ b ∈ ((r.dropWhile (sameK k)).filter (atD d)).map (fun x => x.key), a ≠ b := by
      intro a ha b hb e
      obtain ⟨x, hx, rfl⟩ := List.mem_map.1 ha
      obtain ⟨y, hy, rfl⟩ := List.mem_map.1 hb
      have h1 := hg.same x ((List.mem_filter.1 hx).1)
      have h2 := hg.rest y ((List.mem_filter.1 hy).1)
      rw [h1] at e
      rw [e, cmpVs_ord.refl] at h2
      exact absurd h2 (by decide)
    constructor
    · rintro (h | h) ⟨h1, h2, -⟩
      · exact h1 h
      · exact h h2
    · intro h
      by_cases h1 : 2 ≤ ((k :: r.takeWhile (sameK k)).filter (atD d)).length
      · exact .inl h1
      · by_cases h2 : (((r.dropWhile (sameK k)).filter (atD d)).map (fun x => x.key)).Nodup
        · exact absurd ⟨h1, h2, hdis⟩ h
        · exact .inr h2
end Go.Vc
/- The laws' data; the sanity check; the reference's key values. -/
namespace Go.Vc
open Go Go.Proofs Go.Shelf
abbrev shV : RSh := ⟨false, [(true, [.int .i64, .int .i64, .str])]⟩
def txt (r : Int) : ByteArray := if r = 0 then ⟨#[]⟩ else if r = 1 then ⟨#[97]⟩ else ⟨#[98, 39]⟩
def lv0 (x : Int) : Val := if x.tmod 7 = 6 then val0 else ⟨1, x.tmod 3 - 1, ⟨#[]⟩⟩
def lv1 (x : Int) : Val := if x.tmod 7 = 6 then val0 else ⟨2, 0, txt (x.tmod 3)⟩
theorem tmod3 {x : Int} (h : 0 ≤ x) : x.tmod 3 = 0 ∨ x.tmod 3 = 1 ∨ x.tmod 3 = 2 := by
  have h1 := Int.tmod_eq_emod_of_nonneg h (b := 3)
  omega
def an74 : Ann where
  res := fun _ => none
  lend := fun _ => false
  sch := fun _ => .done
  lt := fun _ => []
  tup := tups

theorem vc74 (P : Program) (H : Heap) (n : Int) (post : Int → Int → ByteArray → Heap → Prop) :
  vcFn P tab an74 Tryz.f74 [.int .i64 n] 0 H ⟨false, [(true, [.int .i64, .int .i64, .str])]⟩ post =
  (  post (1 : Int) n ⟨⟨[]⟩⟩ H) := by kernel_rfl
theorem law0_IntValue {n : Int} {H : Heap} : ConT Tryz.prog 74 [.int .i64 n] H shV (fun k m s _ => k = 1 ∧ m = n ∧ s = ⟨#[]⟩) := by
  refine con_of_vc (an := an74) (fn := Tryz.f74) mix tabOK Tryz.func74 (by kernel_rfl) (extra := 0) ?_
  rw [vc74]
  exact ⟨rfl, rfl, rfl⟩
def an41 : Ann where
  res := fun _ => none
  lend := fun _ => false
  sch := fun _ => .done
  lt := fun _ => []
  tup := tups

theorem vc41 (P : Program) (H : Heap) (col : Int) (x : Int) (post : Int → Int → ByteArray → Heap → Prop) :
  vcFn P tab an41 Tryz.f41 [.int .i64 col, .int .u16 x] 0 H ⟨false, [(true, [.int .i64, .int .i64, .str])]⟩ post =
  (  (7 : Int) ≠ (0 : Int) ∧ (decide (Int.tmod x (7 : Int) = (6 : Int)) = true → post (0 : Int) (0 : Int) ⟨⟨[]⟩⟩ H) ∧ (decide (Int.tmod x (7 : Int) = (6 : Int)) = false → (2 : Int) ≠ (0 : Int) ∧
  (decide (Int.tmod col (2 : Int) = (0 : Int)) = true → (3 : Int) ≠ (0 : Int) ∧ ∃ (e3 : Int), IntKind.wrap IntKind.i64 (Int.tmod x (3 : Int)) = e3 ∧ rng .i64 (e3 - (1 : Int)) ∧ ∃ (post4 : Int
  → Int → ByteArray → Heap → Prop), ConT P 74 [.int .i64 (e3 - (1 : Int))] H ⟨false, [(true, [.int .i64, .int .i64, .str])]⟩ post4 ∧ ∀ (H5 : Heap), Heap.le H H5 → ∀ (n7 n8 : Int) (s9 :
  ByteArray), post4 n7 n8 s9 H5 → post n7 n8 s9 H5) ∧ (decide (Int.tmod col (2 : Int) = (0 : Int)) = false → (3 : Int) ≠ (0 : Int) ∧ (0 : Int) ≤ Int.tmod x (3 : Int) ∧ Int.tmod x (3 : Int) <
  (↑3 : Int) ∧ ∃ (s12 : ByteArray), win [.string ⟨⟨[]⟩⟩, .string { data := ⟨[(97 : UInt8)]⟩ }, .string { data := ⟨[(98 : UInt8), (39 : UInt8)]⟩ }] (Int.toNat (Int.tmod x (3 : Int)) * 1) 1 =
  [.string s12] ∧ post (2 : Int) (0 : Int) s12 H))) := by kernel_rfl
theorem law0_Value0 {x : Int} {H : Heap} (hx : 0 ≤ x) : ConT Tryz.prog 41 [.int .i64 0, .int .u16 x] H shV (fun k n s _ => (⟨k, n, s⟩ : Val) = lv0 x) := by
  refine con_of_vc (an := an41) (fn := Tryz.f41) mix tabOK Tryz.func41 (by kernel_rfl) (extra := 0) ?_
  rw [vc41]
  refine ⟨by decide, fun h => ?_, fun h => ⟨by decide, fun _ => ⟨by decide, ?_⟩, fun h => absurd h (by decide)⟩⟩
  · have h := of_decide_eq_true h
    simp [lv0, h, val0]
  · have h := of_decide_eq_false h
    rcases tmod3 hx with e | e | e <;> rw [e] <;> refine ⟨_, rfl, by decide, _, law0_IntValue, ?_⟩ <;> rintro H5 _ _ _ _ ⟨rfl, rfl, rfl⟩ <;> simp only [lv0, if_neg h, e] <;> rfl
theorem law0_Value1 {x : Int} {H : Heap} (hx : 0 ≤ x) : ConT Tryz.prog 41 [.int .i64 1, .int .u16 x] H shV (fun k n s _ => (⟨k, n, s⟩ : Val) = lv1 x) := by
  refine con_of_vc (an := an41) (fn := Tryz.f41) mix tabOK Tryz.func41 (by kernel_rfl) (extra := 0) ?_
  rw [vc41]
  refine ⟨by decide, fun h => ?_, fun h => ⟨by decide, fun h => absurd h (by decide), fun _ => ⟨by decide, ?_⟩⟩⟩
  · have h := of_decide_eq_true h
    simp [lv1, h, val0]
  · have h := of_decide_eq_false h
    rcases tmod3 hx with e | e | e <;> rw [e] <;> refine ⟨by decide, by decide, _, rfl, ?_⟩ <;> simp only [lv1, if_neg h, e] <;> rfl
theorem val_eta {k n : Int} {s : ByteArray} {v : Val} (h : (⟨k, n, s⟩ : Val) = v) : k = v.kind ∧ n = v.n ∧ s = v.s := by subst h; exact ⟨rfl, rfl, rfl⟩
theorem lv0_ok {x : Int} (hx : 0 ≤ x) : rng .i64 (lv0 x).kind ∧ rng .i64 (lv0 x).n ∧ str (lv0 x).s := by
  unfold lv0
  split
  · exact ⟨by decide, by decide, by unfold str val0; decide⟩
  · refine ⟨(by decide : rng .i64 1), ?_, (by unfold str; decide : str ⟨#[]⟩)⟩
    rcases tmod3 hx with e | e | e <;> simp only [e] <;> decide
theorem lv1_ok {x : Int} (hx : 0 ≤ x) : rng .i64 (lv1 x).kind ∧ rng .i64 (lv1 x).n ∧ str (lv1 x).s := by
  unfold lv1
  split
  · exact ⟨by decide, by decide, by unfold str val0; decide⟩
  · refine ⟨(by decide : rng .i64 2), (by decide : rng .i64 0), ?_⟩
    rcases tmod3 hx with e | e | e <;> simp only [e] <;> unfold str txt <;> decide
def an20 : Ann where
  res := fun _ => none
  lend := fun _ => false
  sch := fun _ => .done
  lt := fun _ => []
  tup := tups

theorem vc20 (P : Program) (H : Heap) (x : Int) (y : Int) (post : Option Addr → Nat → Nat → Heap → Prop) :
  vcFn P tab an20 Tryz.f20 [.int .u16 x, .int .u16 y] 0 H ⟨false, [(false, [.sl])]⟩ post =
  (  ∃ (post0 : Int → Int → ByteArray → Heap → Prop), ConT P 41 [.int .i64 (0 : Int), .int .u16 x] H ⟨false, [(true, [.int .i64, .int .i64, .str])]⟩ post0 ∧ ∀ (H1 : Heap), Heap.le H H1 → ∀ (n3
  n4 : Int) (s5 : ByteArray), post0 n3 n4 s5 H1 → ∃ (post7 : Int → Int → ByteArray → Heap → Prop), ConT P 41 [.int .i64 (1 : Int), .int .u16 y] H1 ⟨false, [(true, [.int .i64, .int .i64,
  .str])]⟩ post7 ∧ ∀ (H8 : Heap), Heap.le H1 H8 → ∀ (n10 n11 : Int) (s12 : ByteArray), post7 n10 n11 s12 H8 → ∀ (A14 : Option Addr) (c15 : Nat) (H16 : Heap), Heap.le H8 H16 → Cells H16 A14 0
  [.int .i64 n3, .int .i64 n4, .string s5, .int .i64 n10, .int .i64 n11, .string s12] → 2 ≤ c15 → post A14 2 c15 H16) := by kernel_rfl
theorem law0_Vals {x y : Int} {H : Heap} (hx : 0 ≤ x) (hy : 0 ≤ y) : ConT Tryz.prog 20 [.int .u16 x, .int .u16 y] H shS (fun A n c H' => Sl H' A n c [lv0 x, lv1 y]) := by
  refine con_of_vc (an := an20) (fn := Tryz.f20) mix tabOK Tryz.func20 (by kernel_rfl) (extra := 0) ?_
  rw [vc20]
  refine ⟨_, law0_Value0 hx, ?_⟩
  intro H1 l1 k n s h
  obtain ⟨rfl, rfl, rfl⟩ := val_eta h
  refine ⟨_, law0_Value1 hy, ?_⟩
  intro H2 l2 k n s h
  obtain ⟨rfl, rfl, rfl⟩ := val_eta h
  intro A c H3 l3 hc hn
  exact Row.sl (H := H3) (T := Val) (l := [lv0 x, lv1 y]) ⟨[_, _, _], [_, _, _], rfl, ⟨rfl, lv0_ok hx⟩, [_, _, _], [], rfl, ⟨rfl, lv1_ok hy⟩, rfl⟩ (hle_refl H3) hc rfl hn (by decide) (by decide)
def awA : Tup := ⟨[lv0 0, lv1 0], ⟨0, 5⟩, [1]⟩
def awB : Tup := ⟨[lv0 0, lv1 1], ⟨3, 9⟩, [2]⟩
theorem perm_two {T : Type} {x y : T} {g : List T} (h : g.Perm [x, y]) : g = [x, y] ∨ g = [y, x] := by
  match g, h.length_eq with
  | [u, v], _ =>
    have hu : u = x ∨ u = y := by have := h.subset (a := u) (by simp); simpa using this
    rcases hu with rfl | rfl
    · have := (List.perm_cons u).1 h
      have := List.perm_singleton.1 this
      left; rw [this]
    · have h2 : [u, v].Perm [u, x] := h.trans (List.Perm.swap _ _ _)
      have := (List.perm_cons u).1 h2
      have := List.perm_singleton.1 this
      right; rw [this]
theorem aw_sorted {g : List Kd} {cols : List Int} (h1 : g.Perm (byKeyL [awA, awB] cols)) (h2 : g.Pairwise (fun a b => ¬ cmpKd b a < 0)) (hc : cmpKd ⟨keyVals awA.vals cols, awA⟩ ⟨keyVals awB.vals cols, awB⟩ < 0) : g = byKeyL [awA, awB] cols := by
  have e : byKeyL [awA, awB] cols = [⟨keyVals awA.vals cols, awA⟩, ⟨keyVals awB.vals cols, awB⟩] := rfl
  rw [e] at h1 ⊢
  rcases perm_two h1 with rfl | rfl
  · rfl
  · simp only [List.pairwise_cons, List.mem_singleton] at h2
    exact absurd hc (h2.1 _ rfl)
theorem sortI_eq {l m : List Int} (hp : m.Perm l) (hs : m.Pairwise (fun a b => a ≤ b)) : sortI l = m := by
  have h1 := List.pairwise_mergeSort (le := fun x y : Int => decide (x ≤ y)) (fun a b c h1 h2 => by simp only [decide_eq_true_eq] at *; omega) (fun a b => by simp only [Bool.or_eq_true, decide_eq_true_eq]; omega) l
  refine List.Perm.eq_of_pairwise (le := fun a b : Int => a ≤ b) (fun a b _ _ h h' => by omega) (h1.imp fun h => by simpa using h) hs ?_
  exact (List.mergeSort_perm l _).trans hp.symm
end Go.Vc
/- The laws' drawn tuples; comparing lists of ints. -/
namespace Go.Vc
open Go Go.Proofs Go.Shelf
theorem wrap_i64 {e : Int} (h0 : 0 ≤ e) (h1 : e < 100000) : IntKind.wrap .i64 e = e := by
  simp [IntKind.wrap, IntKind.bits, IntKind.signed]; omega
theorem tmod_bd {x : Int} (h : 0 ≤ x) {m : Int} (hm : 0 < m) : 0 ≤ x.tmod m ∧ x.tmod m < m := by
  rw [Int.tmod_eq_emod_of_nonneg h]
  exact ⟨Int.emod_nonneg _ (by omega), Int.emod_lt_of_pos _ hm⟩
def lPer (a b : Int) : Per := ⟨a.tmod 40, if b.tmod 11 = 0 then 1000000 else a.tmod 40 + 1 + b.tmod 15⟩
theorem lPer_ok {a b : Int} (ha : 0 ≤ a) (hb : 0 ≤ b) : 0 ≤ (lPer a b).lo ∧ (lPer a b).lo < 40 ∧ (lPer a b).lo < (lPer a b).hi ∧ (lPer a b).hi ≤ 1000000 := by
  have h1 := tmod_bd ha (m := 40) (by decide)
  have h2 := tmod_bd hb (m := 15) (by decide)
  unfold lPer
  split <;> simp only <;> omega
def an73 : Ann where
  res := fun _ => none
  lend := fun _ => false
  sch := fun _ => .done
  lt := fun _ => []
  tup := tups

theorem vc73 (P : Program) (H : Heap) (from0 : Int) (length : Int) (post : Int → Int → Heap → Prop) :
  vcFn P tab an73 Tryz.f73 [.int .u16 from0, .int .u16 length] 0 H ⟨false, [(true, [.int .i64, .int .i64])]⟩ post =
  (  (40 : Int) ≠ (0 : Int) ∧ ∃ (e0 : Int), IntKind.wrap IntKind.i64 (Int.tmod from0 (40 : Int)) = e0 ∧ (11 : Int) ≠ (0 : Int) ∧ (decide (Int.tmod length (11 : Int) = (0 : Int)) = true → post e0
  (1000000 : Int) H) ∧ (decide (Int.tmod length (11 : Int) = (0 : Int)) = false → rng .i64 (e0 + (1 : Int)) ∧ (15 : Int) ≠ (0 : Int) ∧ ∃ (e3 : Int), IntKind.wrap IntKind.i64 (Int.tmod length
  (15 : Int)) = e3 ∧ rng .i64 (e0 + (1 : Int) + e3) ∧ post e0 (e0 + (1 : Int) + e3) H)) := by kernel_rfl
theorem law0_Period {a b : Int} {H : Heap} (ha : 0 ≤ a) (hb : 0 ≤ b) : ConT Tryz.prog 73 [.int .u16 a, .int .u16 b] H ⟨false, [(true, [.int .i64, .int .i64])]⟩ (fun x y _ => (⟨x, y⟩ : Per) = lPer a b) := by
  refine con_of_vc (an := an73) (fn := Tryz.f73) mix tabOK Tryz.func73 (by kernel_rfl) (extra := 0) ?_
  rw [vc73]
  have h1 := tmod_bd ha (m := 40) (by decide)
  have h2 := tmod_bd hb (m := 15) (by decide)
  refine ⟨by decide, _, wrap_i64 h1.1 (by omega), by decide, fun h => ?_, fun h => ⟨by simp only [rng]; omega, by decide, _, wrap_i64 h2.1 (by omega), by simp only [rng]; omega, ?_⟩⟩
  · have h := of_decide_eq_true h
    simp [lPer, h]
  · have h := of_decide_eq_false h
    simp [lPer, h]
structure U5 where
  a : Int
  b : Int
  c : Int
  d : Int
  e : Int
instance : Rep U5 where
  sz := 5
  byt := 10
  rel _ vs v := vs = [.int .u16 v.a, .int .u16 v.b, .int .u16 v.c, .int .u16 v.d, .int .u16 v.e] ∧ rng .u16 v.a ∧ rng .u16 v.b ∧ rng .u16 v.c ∧ rng .u16 v.d ∧ rng .u16 v.e
  mono _ h := h
  len h := by simp [h.1]
  pos := by decide
  bpos := by decide
  one h := by rw [h.1]; simp [Value.oneCell']
def lTup (x : U5) : Tup := ⟨[lv0 x.c, lv1 x.d], lPer x.a x.b, [1 + x.e.tmod 5]⟩
def an176 : Ann where
  res := fun _ => none
  lend := fun _ => false
  sch := fun | 4 => (tk [0, 1, 2, 3, 4, 5, 6, 7, 8] .done) | 6 => (tk [0, 1, 2, 3, 4, 5, 6, 7, 8] .done) | _ => .done
  lt := fun | 2 => [.slot 5 false [.int .i64]] | _ => []
  tup := tups

theorem vc176 (P : Program) (H : Heap) (aA : Option Addr) (aN aC : Nat) (bA : Option Addr) (bN bC : Nat) (post : Int → Heap → Prop) :
  vcFn P tab an176 Tryz.f176 [.slice aA aN aC, .slice bA bN bC] 0 H ⟨false, [(false, [.int .i64])]⟩ post =
  (  ∃ (inv0 : Int → Heap → Prop), ∃ (m1 : Int → Nat), inv0 (0 : Int) H ∧ ∀ (H2 : Heap), Heap.le H H2 → ∀ (n4 : Int), inv0 n4 H2 → (decide (n4 < (↑aN : Int)) = true → (decide (n4 < (↑bN : Int))
  = true → someA aA ∧ (0 : Int) ≤ n4 ∧ n4 < (↑aN : Int) ∧ ∃ (n8 : Int), Cells H2 aA (Int.toNat n4 * 1) [.int .i64 n8] ∧ someA bA ∧ (0 : Int) ≤ n4 ∧ n4 < (↑bN : Int) ∧ ∃ (n9 : Int), Cells H2
  bA (Int.toNat n4 * 1) [.int .i64 n9] ∧ (decide (n8 < n9) = true → post (-1 : Int) H2) ∧ (decide (n8 < n9) = false → someA aA ∧ (0 : Int) ≤ n4 ∧ n4 < (↑aN : Int) ∧ ∃ (n12 : Int), Cells H2 aA
  (Int.toNat n4 * 1) [.int .i64 n12] ∧ someA bA ∧ (0 : Int) ≤ n4 ∧ n4 < (↑bN : Int) ∧ ∃ (n13 : Int), Cells H2 bA (Int.toNat n4 * 1) [.int .i64 n13] ∧ (decide (n13 < n12) = true → post (1 :
  Int) H2) ∧ (decide (n13 < n12) = false → rng .i64 (n4 + (1 : Int)) ∧ inv0 (n4 + (1 : Int)) H2 ∧ m1 (n4 + (1 : Int)) < m1 n4))) ∧ (decide (n4 < (↑bN : Int)) = false → (decide ((↑aN : Int) <
  (↑bN : Int)) = true → post (-1 : Int) H2) ∧ (decide ((↑aN : Int) < (↑bN : Int)) = false → (decide ((↑bN : Int) < (↑aN : Int)) = true → post (1 : Int) H2) ∧ (decide ((↑bN : Int) < (↑aN :
  Int)) = false → post (0 : Int) H2)))) ∧ (decide (n4 < (↑aN : Int)) = false → (decide ((↑aN : Int) < (↑bN : Int)) = true → post (-1 : Int) H2) ∧ (decide ((↑aN : Int) < (↑bN : Int)) = false →
  (decide ((↑bN : Int) < (↑aN : Int)) = true → post (1 : Int) H2) ∧ (decide ((↑bN : Int) < (↑aN : Int)) = false → post (0 : Int) H2)))) := by kernel_rfl
theorem ref6_CompareInts {H : Heap} {A B : Option Addr} {n c m d : Nat} {a b : List Int} (hs : Sl H A n c a) (ht : Sl H B m d b) :
    ConT Tryz.prog 176 [.slice A n c, .slice B m d] H shI (fun r _ => r = lexI cmpI a b) := by
  refine con_of_vc (an := an176) (fn := Tryz.f176) mix tabOK Tryz.func176 (by kernel_rfl) (extra := 0) ?_
  rw [vc176]
  refine ⟨fun i _ => 0 ≤ i ∧ i ≤ n ∧ i ≤ m ∧ lexI cmpI a b = lexI cmpI (a.drop i.toNat) (b.drop i.toNat), fun i => n - i.toNat, ⟨by omega, by omega, by omega, rfl⟩, ?_⟩
  rintro H2 hle i ⟨h0, h1, h1', h2⟩
  have hb := hs.bn; have hl := hs.len; have hm := ht.len
  refine ⟨fun hlt => ?_, fun hge => ?_⟩
  · have hlt := of_decide_eq_true hlt
    refine ⟨fun hmb => ?_, fun hmb => ?_⟩
    · have hmb := of_decide_eq_true hmb
      obtain ⟨hi, hA, _, hc, ⟨rfl, q⟩⟩ := hs.at hle h0 hlt
      obtain ⟨hj, hB, _, hd, ⟨rfl, q'⟩⟩ := ht.at hle h0 (by omega)
      rw [lexI_step hi hj] at h2
      have e0 : cmpI a[i.toNat] b[i.toNat] = if a[i.toNat] < b[i.toNat] then -1 else if b[i.toNat] < a[i.toNat] then 1 else 0 := rfl
      refine ⟨hA, h0, hlt, _, hc, hB, h0, by omega, _, hd, fun hx => ?_, fun hx => ⟨hA, h0, hlt, _, hc, hB, h0, by omega, _, hd, fun hy => ?_, fun hy => ⟨by simp only [rng]; omega, ⟨by omega, by omega, by omega, ?_⟩, by dsimp only; omega⟩⟩⟩
      · have hx := of_decide_eq_true hx
        rw [h2, e0, if_pos hx]; rfl
      · have hx := of_decide_eq_false hx; have hy := of_decide_eq_true hy
        rw [h2, e0, if_neg hx, if_pos hy]; rfl
      · have hx := of_decide_eq_false hx; have hy := of_decide_eq_false hy
        rw [h2, e0, if_neg hx, if_neg hy, show (i + 1).toNat = i.toNat + 1 by omega]; rfl
    · have hmb := of_decide_eq_false hmb
      rw [lexI_endb (by omega) (by omega)] at h2
      exact ⟨fun h => by have := of_decide_eq_true h; omega, fun h => ⟨fun _ => h2.symm, fun h => by have := of_decide_eq_false h; omega⟩⟩
  · have hge := of_decide_eq_false hge
    rw [lexI_enda (by omega)] at h2
    refine ⟨fun h => ?_, fun h => ⟨fun h' => ?_, fun h' => ?_⟩⟩
    · have := of_decide_eq_true h
      rw [h2, if_pos (by omega)]
    · have := of_decide_eq_false h; have := of_decide_eq_true h'; omega
    · have := of_decide_eq_false h; have := of_decide_eq_false h'
      rw [h2, if_neg (by omega)]
end Go.Vc
/- The laws' drawn tuples, all of them. -/
namespace Go.Vc
open Go Go.Proofs Go.Shelf
abbrev shT : RSh := ⟨false, [(true, [.sl, .int .i64, .int .i64, .sl])]⟩
def an40 : Ann where
  res := fun _ => none
  lend := fun _ => false
  sch := fun | 1 => (tk [0, 1, 2, 3, 5, 6, 7, 8, 10, 11, 12, 13, 14] (.alt 4 (.alt 9 (.alt 15 (tk [16] (.alt 17 .done .fin)) .fin) (.alt 15 (.alt 9 (tk [16] (.alt 17 .done .fin)) .fin) .fin)) (.alt 15 (.alt 4 (.alt 9 (tk [16] (.alt 17 .done .fin)) .fin) .fin) .fin))) | _ => .done
  lt := fun _ => []
  tup := tups

theorem vc40 (P : Program) (H : Heap) (x0 : Int) (x1 : Int) (x2 : Int) (x3 : Int) (x4 : Int) (post : Option Addr → Nat → Nat → Int → Int → Option Addr → Nat → Nat → Heap → Prop) :
  vcFn P tab an40 Tryz.f40 [.agg #[.int .u16 x0, .int .u16 x1, .int .u16 x2, .int .u16 x3, .int .u16 x4]] 0 H ⟨false, [(true, [.sl, .int .i64, .int .i64, .sl])]⟩ post =
  (  (0 : Int) ≤ (2 : Int) ∧ (2 : Int) < (↑5 : Int) ∧ ∃ (n0 : Int), win [.int .u16 x0, .int .u16 x1, .int .u16 x2, .int .u16 x3, .int .u16 x4] (Int.toNat (2 : Int) * 1) 1 = [.int .u16 n0] ∧ (0 :
  Int) ≤ (3 : Int) ∧ (3 : Int) < (↑5 : Int) ∧ ∃ (n1 : Int), win [.int .u16 x0, .int .u16 x1, .int .u16 x2, .int .u16 x3, .int .u16 x4] (Int.toNat (3 : Int) * 1) 1 = [.int .u16 n1] ∧ (0 : Int)
  ≤ (0 : Int) ∧ (0 : Int) < (↑5 : Int) ∧ ∃ (n2 : Int), win [.int .u16 x0, .int .u16 x1, .int .u16 x2, .int .u16 x3, .int .u16 x4] (Int.toNat (0 : Int) * 1) 1 = [.int .u16 n2] ∧ (0 : Int) ≤ (1
  : Int) ∧ (1 : Int) < (↑5 : Int) ∧ ∃ (n3 : Int), win [.int .u16 x0, .int .u16 x1, .int .u16 x2, .int .u16 x3, .int .u16 x4] (Int.toNat (1 : Int) * 1) 1 = [.int .u16 n3] ∧ (0 : Int) ≤ (4 :
  Int) ∧ (4 : Int) < (↑5 : Int) ∧ ∃ (n4 : Int), win [.int .u16 x0, .int .u16 x1, .int .u16 x2, .int .u16 x3, .int .u16 x4] (Int.toNat (4 : Int) * 1) 1 = [.int .u16 n4] ∧ (5 : Int) ≠ (0 : Int)
  ∧ ∃ (e5 : Int), IntKind.wrap IntKind.i64 (Int.tmod n4 (5 : Int)) = e5 ∧ rng .i64 ((1 : Int) + e5) ∧ (∃ (post6 : Option Addr → Nat → Nat → Heap → Prop), ConT P 20 [.int .u16 n0, .int .u16
  n1] H ⟨false, [(false, [.sl])]⟩ post6 ∧ ∀ (H7 : Heap), Heap.le H H7 → ∀ (A9 : Option Addr) (n10 c11 : Nat), post6 A9 n10 c11 H7 → (∃ (post13 : Int → Int → Heap → Prop), ConT P 73 [.int .u16
  n2, .int .u16 n3] H7 ⟨false, [(true, [.int .i64, .int .i64])]⟩ post13 ∧ ∀ (H14 : Heap), Heap.le H7 H14 → ∀ (n16 n17 : Int), post13 n16 n17 H14 → ∀ (A19 : Option Addr) (c20 : Nat) (H21 :
  Heap), Heap.le H14 H21 → Cells H21 A19 0 [.int .i64 ((1 : Int) + e5)] → 1 ≤ c20 → post A9 n10 c11 n16 n17 A19 1 c20 H21) ∧ ∃ (post25 : Int → Int → Heap → Prop), ConT P 73 [.int .u16 n2,
  .int .u16 n3] H7 ⟨false, [(true, [.int .i64, .int .i64])]⟩ post25 ∧ ∀ (H26 : Heap), Heap.le H7 H26 → ∀ (n28 n29 : Int), post25 n28 n29 H26 → ∀ (A31 : Option Addr) (c32 : Nat) (H33 : Heap),
  Heap.le H26 H33 → Cells H33 A31 0 [.int .i64 ((1 : Int) + e5)] → 1 ≤ c32 → post A9 n10 c11 n28 n29 A31 1 c32 H33) ∧ ∃ (post37 : Option Addr → Nat → Nat → Heap → Prop), ConT P 20 [.int .u16
  n0, .int .u16 n1] H ⟨false, [(false, [.sl])]⟩ post37 ∧ ∀ (H38 : Heap), Heap.le H H38 → ∀ (A40 : Option Addr) (n41 c42 : Nat), post37 A40 n41 c42 H38 → ∃ (post44 : Int → Int → Heap → Prop),
  ConT P 73 [.int .u16 n2, .int .u16 n3] H38 ⟨false, [(true, [.int .i64, .int .i64])]⟩ post44 ∧ ∀ (H45 : Heap), Heap.le H38 H45 → ∀ (n47 n48 : Int), post44 n47 n48 H45 → ∀ (A50 : Option Addr)
  (c51 : Nat) (H52 : Heap), Heap.le H45 H52 → Cells H52 A50 0 [.int .i64 ((1 : Int) + e5)] → 1 ≤ c51 → post A40 n41 c42 n47 n48 A50 1 c51 H52) := by kernel_rfl
theorem law0_Tuple {x : U5} {H : Heap} (ha : 0 ≤ x.a) (hb : 0 ≤ x.b) (hc : 0 ≤ x.c) (hd : 0 ≤ x.d) (he : 0 ≤ x.e) :
    ConT Tryz.prog 40 [.agg ⟨[.int .u16 x.a, .int .u16 x.b, .int .u16 x.c, .int .u16 x.d, .int .u16 x.e]⟩] H shT (fun A n c lo hi B m d H' => Rep.rel H' [.slice A n c, .int .i64 lo, .int .i64 hi, .slice B m d] (lTup x)) := by
  refine con_of_vc (an := an40) (fn := Tryz.f40) mix tabOK Tryz.func40 (by kernel_rfl) (extra := 0) ?_
  rw [vc40]
  have h5 := tmod_bd he (m := 5) (by decide)
  have hp := lPer_ok ha hb
  refine ⟨by decide, by decide, x.c, rfl, by decide, by decide, x.d, rfl, by decide, by decide, x.a, rfl, by decide, by decide, x.b, rfl, by decide, by decide, x.e, rfl, by decide, _, wrap_i64 h5.1 (by omega), by simp only [rng]; omega, ?_⟩
  have fin : ∀ {H1 H2 H3 : Heap} {A B : Option Addr} {n c d : Nat} {lo hi : Int}, Sl H1 A n c [lv0 x.c, lv1 x.d] → Heap.le H1 H2 → (⟨lo, hi⟩ : Per) = lPer x.a x.b → Heap.le H2 H3 → Cells H3 B 0 [.int .i64 (1 + x.e.tmod 5)] → 1 ≤ d →
      Rep.rel H3 [Value.slice A n c, .int .i64 lo, .int .i64 hi, .slice B 1 d] (lTup x) := by
    intro H1 H2 H3 A B n c d lo hi h1 l2 hq l3 hcc hn
    have e1 : lo = (lPer x.a x.b).lo := congrArg Per.lo hq
    have e2 : hi = (lPer x.a x.b).hi := congrArg Per.hi hq
    subst e1 e2
    refine ⟨_, _, _, _, _, _, rfl, h1.mono (hle_trans l2 l3), by simp only [rng, lTup]; omega, by simp only [rng, lTup]; omega, ?_⟩
    exact Row.sl (H := H3) (T := Int) (l := [1 + x.e.tmod 5]) ⟨[_], [], rfl, ⟨rfl, by simp only [rng]; omega⟩, rfl⟩ (hle_refl _) hcc rfl hn (by decide) (by decide)
  have per : ∀ {H1 : Heap} {A : Option Addr} {n c : Nat}, Sl H1 A n c [lv0 x.c, lv1 x.d] → ∃ (post13 : Int → Int → Heap → Prop), ConT Tryz.prog 73 [.int .u16 x.a, .int .u16 x.b] H1 ⟨false, [(true, [.int .i64, .int .i64])]⟩ post13 ∧ ∀ (H14 : Heap), Heap.le H1 H14 → ∀ (n16 n17 : Int), post13 n16 n17 H14 → ∀ (A19 : Option Addr) (c20 : Nat) (H21 : Heap), Heap.le H14 H21 → Cells H21 A19 0 [.int .i64 (1 + x.e.tmod 5)] → 1 ≤ c20 →
      Rep.rel H21 [Value.slice A n c, .int .i64 n16, .int .i64 n17, .slice A19 1 c20] (lTup x) := by
    intro H1 A n c h1
    exact ⟨_, law0_Period ha hb, fun H14 l14 n16 n17 hq A19 c20 H21 l21 hcc hn => fin h1 l14 hq l21 hcc hn⟩
  exact ⟨⟨_, law0_Vals hc hd, fun H7 l7 A9 n10 c11 h9 => ⟨per h9, per h9⟩⟩, _, law0_Vals hc hd, fun H7 l7 A9 n10 c11 h9 => per h9⟩
def lTups (l : List U5) (most : Nat) : List Tup := (l.take most).map lTup
def an17_row : Ann where
  res := fun _ => none
  lend := fun _ => false
  sch := fun _ => .done
  lt := fun | 3 => [.slot 5 false [.row 27 57], .slot 6 false [.int .i64]] | _ => []
  tup := tups

theorem vc17_row (P : Program) (H : Heap) (lA : Option Addr) (lN lC : Nat) (most : Int) (ri0 : Nat) (post : Nat → List Value → Heap → Prop) :
  vcFn P tab an17_row Tryz.f17 [.slice lA lN lC, .int .i64 most] 1 H ⟨false, [(false, [.row ri0 57])]⟩ post =
  (  ∃ (inv0 : Nat → List Value → Int → Heap → Prop), ∃ (m1 : Nat → List Value → Int → Nat), inv0 0 [] (0 : Int) H ∧ ∀ (H2 : Heap), Heap.le H H2 → ∀ (n4 : Nat) (xs5 : List Value) (n6 : Int),
  inv0 n4 xs5 n6 H2 → (decide (n6 < (↑lN : Int)) = true → (decide (n6 < most) = true → someA lA ∧ (0 : Int) ≤ n6 ∧ n6 < (↑lN : Int) ∧ ∃ (n10 : Int), ∃ (n11 : Int), ∃ (n12 : Int), ∃ (n13 :
  Int), ∃ (n14 : Int), Cells H2 lA (Int.toNat n6 * 5) [.int .u16 n10, .int .u16 n11, .int .u16 n12, .int .u16 n13, .int .u16 n14] ∧ ∃ (post15 : Option Addr → Nat → Nat → Int → Int → Option
  Addr → Nat → Nat → Heap → Prop), ConT P 40 [.agg ⟨[.int .u16 n10, .int .u16 n11, .int .u16 n12, .int .u16 n13, .int .u16 n14]⟩] H2 ⟨false, [(true, [.sl, .int .i64, .int .i64, .sl])]⟩ post15
  ∧ ∀ (H16 : Heap), Heap.le H2 H16 → ∀ (A18 : Option Addr) (n19 c20 : Nat) (n21 n22 : Int) (A23 : Option Addr) (n24 c25 : Nat), post15 A18 n19 c20 n21 n22 A23 n24 c25 H16 → (n4 + 1) * 64 ≤
  140737488355328 ∧ rng .i64 (n6 + (1 : Int)) ∧ inv0 (n4 + 1) (xs5 ++ [.slice A18 n19 c20, .int .i64 n21, .int .i64 n22, .slice A23 n24 c25]) (n6 + (1 : Int)) H16 ∧ m1 (n4 + 1) (xs5 ++
  [.slice A18 n19 c20, .int .i64 n21, .int .i64 n22, .slice A23 n24 c25]) (n6 + (1 : Int)) < m1 n4 xs5 n6) ∧ (decide (n6 < most) = false → post n4 xs5 H2)) ∧ (decide (n6 < (↑lN : Int)) =
  false → post n4 xs5 H2)) := by kernel_rfl
theorem law0_Tuples_row {H : Heap} {A : Option Addr} {n c r most : Nat} {l : List U5} (hs : Sl H A n c l) (hm : most < 1000) :
    ConT Tryz.prog 17 [.slice A n c, .int .i64 most] H ⟨false, [(false, [.row r 57])]⟩ (fun k xs H' => k = (lTups l most).length ∧ Row H' xs (lTups l most)) := by
  refine con_of_vc (an := an17_row) (fn := Tryz.f17) mix tabOK Tryz.func17 (by kernel_rfl) (extra := 1) ?_
  rw [vc17_row]
  have hl := hs.len
  refine ⟨fun k xs i H' => 0 ≤ i ∧ i ≤ n ∧ i ≤ most ∧ k = i.toNat ∧ Row H' xs ((l.take i.toNat).map lTup), fun _ _ i => n - i.toNat, ⟨by omega, by omega, by omega, rfl, rfl⟩, ?_⟩
  rintro H2 hle k xs i ⟨h0, h1, h1', rfl, hr⟩
  have fin : (n ≤ i.toNat ∨ most ≤ i.toNat) → i.toNat = (lTups l most).length ∧ Row H2 xs (lTups l most) := by
    intro h
    have e : (l.take i.toNat) = l.take most := by
      rcases h with h | h
      · rw [List.take_of_length_le (by omega), List.take_of_length_le (by omega)]
      · congr 1; omega
    rw [e] at hr
    refine ⟨?_, hr⟩
    simp only [lTups, List.length_map, List.length_take]; omega
  refine ⟨fun hlt => ⟨fun hlm => ?_, fun hlm => ?_⟩, fun hge => ?_⟩
  · have hlt := of_decide_eq_true hlt; have hlm := of_decide_eq_true hlm
    obtain ⟨hi, hA, _, hc, ⟨rfl, q1, q2, q3, q4, q5⟩⟩ := hs.at hle h0 hlt
    refine ⟨hA, h0, hlt, _, _, _, _, _, hc, _, law0_Tuple q1.1 q2.1 q3.1 q4.1 q5.1, ?_⟩
    intro H3 l3 A18 n19 c20 n21 n22 A23 n24 c25 hrel
    have e1 : (i + 1).toNat = i.toNat + 1 := by omega
    refine ⟨by omega, by simp only [rng]; omega, ⟨by omega, by omega, by omega, by omega, ?_⟩, by dsimp only; omega⟩
    rw [e1, List.take_succ_eq_append_getElem hi, List.map_append]
    exact (hr.mono l3).append ⟨_, [], rfl, hrel, rfl⟩
  · have hlm := of_decide_eq_false hlm
    exact fin (.inr (by omega))
  · have hge := of_decide_eq_false hge
    exact fin (.inl (by omega))
end Go.Vc
/- KeysApart: the law's text. -/
namespace Go.Vc
open Go Go.Proofs Go.Shelf
def nilV (t : Tup) : Tup := ⟨[], t.p, t.lin⟩
theorem tlins_len : ∀ l : List U5, (tlins ((l.map lTup).map nilV)).length = l.length
  | [] => rfl
  | x :: l => by
    have := tlins_len l
    simp only [tlins, List.map_cons, List.flatMap_cons, List.length_append, List.length_cons] at *
    rw [this]
    simp [nilV, lTup]; omega
theorem takeWhile_all {T : Type} {p : T → Bool} : ∀ {l : List T}, (∀ x ∈ l, p x = true) → l.takeWhile p = l ∧ l.dropWhile p = []
  | [], _ => ⟨rfl, rfl⟩
  | x :: l, h => by
    obtain ⟨h1, h2⟩ := takeWhile_all (l := l) fun y hy => h y (by simp [hy])
    have hx := h x (by simp)
    simp [List.takeWhile_cons, List.dropWhile_cons, hx, h1, h2]
theorem viol_one_chain {g : List Kd} (h : ∀ x ∈ g, ∀ y ∈ g, x.key = y.key) : chainV (violL g) := by
  cases g with
  | nil => exact trivial
  | cons k r =>
    obtain ⟨h1, h2⟩ := takeWhile_all (p := sameK k) (l := r) fun x hx => by
      simp only [sameK, decide_eq_true_eq]
      rw [h x (by simp [hx]) k (by simp)]
      exact cmpVs_ord.refl _
    rw [violL_cons, h1, h2]
    show chainV (_ ++ [])
    rw [List.append_nil]
    split
    · exact confl_chain _
    · exact trivial
end Go.Vc
/- Rows: comparing, copying, sorting; the rows of a day. -/
namespace Go.Vc
open Go Go.Proofs Go.Shelf
def an105 : Ann where
  res := fun _ => none
  lend := fun | 26 => true | _ => false
  sch := fun _ => .done
  lt := fun | 2 => [.slot 11 false [.int .i64]] | _ => []
  tup := tups

theorem vc105 (P : Program) (H : Heap) (s1A : Option Addr) (s1N s1C : Nat) (s2A : Option Addr) (s2N s2C : Nat) (post : Int → Heap → Prop) :
  vcFn P tab an105 Tryz.f105 [.slice s1A s1N s1C, .slice s2A s2N s2C] 0 H ⟨false, [(false, [.int .i64])]⟩ post =
  (  ∃ (inv0 : Int → Heap → Prop), ∃ (m1 : Int → Nat), inv0 (0 : Int) H ∧ ∀ (H2 : Heap), Heap.le H H2 → ∀ (n4 : Int), inv0 n4 H2 → (decide (n4 < (↑s1N : Int)) = true → someA s1A ∧ (0 : Int) ≤ n4
  ∧ n4 < (↑s1N : Int) ∧ ∃ (n7 : Int), Cells H2 s1A (Int.toNat n4 * 1) [.int .i64 n7] ∧ (decide ((↑s2N : Int) ≤ n4) = true → post (1 : Int) H2) ∧ (decide ((↑s2N : Int) ≤ n4) = false → someA
  s2A ∧ (0 : Int) ≤ n4 ∧ n4 < (↑s2N : Int) ∧ ∃ (n10 : Int), Cells H2 s2A (Int.toNat n4 * 1) [.int .i64 n10] ∧ ∃ (post11 : Int → Heap → Prop), ConT P 60 [.int .i64 n7, .int .i64 n10] H2
  ⟨false, [(false, [.int .i64])]⟩ post11 ∧ ∀ (H12 : Heap), Heap.le H2 H12 → ∀ (n14 : Int), post11 n14 H12 → ((!decide (n14 = (0 : Int))) = true → post n14 H12) ∧ ((!decide (n14 = (0 : Int)))
  = false → rng .i64 (n4 + (1 : Int)) ∧ inv0 (n4 + (1 : Int)) H12 ∧ m1 (n4 + (1 : Int)) < m1 n4))) ∧ (decide (n4 < (↑s1N : Int)) = false → (decide ((↑s1N : Int) < (↑s2N : Int)) = true → post
  (-1 : Int) H2) ∧ (decide ((↑s1N : Int) < (↑s2N : Int)) = false → post (0 : Int) H2))) := by kernel_rfl
theorem Compare_Ints {H : Heap} {A B : Option Addr} {n c m d : Nat} {a b : List Int} (hs : Sl H A n c a) (ht : Sl H B m d b) :
    ConT Tryz.prog 105 [.slice A n c, .slice B m d] H shI (fun r _ => r = lexI cmpI a b) := by
  refine con_of_vc (an := an105) (fn := Tryz.f105) mix tabOK Tryz.func105 (by kernel_rfl) (extra := 0) ?_
  rw [vc105]
  refine ⟨fun i _ => 0 ≤ i ∧ i ≤ n ∧ lexI cmpI a b = lexI cmpI (a.drop i.toNat) (b.drop i.toNat), fun i => n - i.toNat, ⟨by omega, by omega, rfl⟩, ?_⟩
  rintro H2 hle i ⟨h0, h1, h2⟩
  have hb := hs.bn; have hl := hs.len; have hm := ht.len
  refine ⟨fun hlt => ?_, fun hge => ?_⟩
  · have hlt := of_decide_eq_true hlt
    obtain ⟨hi, hA, _, hc, ⟨rfl, q⟩⟩ := hs.at hle h0 hlt
    refine ⟨hA, h0, hlt, _, hc, fun hmb => ?_, fun hmb => ?_⟩
    · have hmb := of_decide_eq_true hmb
      rw [h2, lexI_endb hi (by omega)]
    · have hmb := of_decide_eq_false hmb
      obtain ⟨hj, hB, _, hd, ⟨rfl, q'⟩⟩ := ht.at hle h0 (by omega)
      refine ⟨hB, h0, by omega, _, hd, _, cmp_Compare, ?_⟩
      rintro H3 l3 _ rfl
      rw [lexI_step hi hj] at h2
      refine ⟨fun hne => ?_, fun he => ⟨by simp only [rng]; omega, ⟨by omega, by omega, ?_⟩, by dsimp only; omega⟩⟩
      · rw [h2, if_pos (by simpa using hne)]
      · rw [h2, if_neg (by simpa using he), show (i + 1).toNat = i.toNat + 1 by omega]
  · have hge := of_decide_eq_false hge
    rw [lexI_enda (by omega)] at h2
    refine ⟨fun h => ?_, fun h => ?_⟩
    · have := of_decide_eq_true h
      rw [h2, if_pos (by omega)]
    · have := of_decide_eq_false h
      rw [h2, if_neg (by omega)]
def cmpRw (a b : Rw) : Int := if cmpVs a.vals b.vals ≠ 0 then cmpVs a.vals b.vals else lexI cmpI a.lin b.lin
def cmpVL (a b : List Val × List Int) : Int := if cmpVs a.1 b.1 ≠ 0 then cmpVs a.1 b.1 else lexI cmpI a.2 b.2
theorem cmpVL_ord : Ord3 cmpVL := cmpVs_ord.pair cmpI_ord.lex
theorem cmpRw_swo : Sort.SWO (ltOf cmpRw) := swo_of cmpVL_ord fun r : Rw => (r.vals, r.lin)
def an77 : Ann where
  res := fun _ => none
  lend := fun | 9 => true | 14 => true | 16 => true | _ => false
  sch := fun | 1 => (tk [0, 1, 2, 3, 5, 6, 7, 8] (.alt 4 (.alt 9 (.alt 10 (.alt 11 (tk [12] .done) .fin) .fin) .fin) .fin)) | _ => .done
  lt := fun _ => []
  tup := tups

theorem vc77 (P : Program) (H : Heap) (aValsA : Option Addr) (aValsN aValsC : Nat) (aLineageA : Option Addr) (aLineageN aLineageC : Nat) (bValsA : Option Addr) (bValsN bValsC : Nat) (bLineageA : Option Addr) (bLineageN bLineageC : Nat) (post : Int → Heap → Prop) :
  vcFn P tab an77 Tryz.f77 [.agg #[.slice aValsA aValsN aValsC, .slice aLineageA aLineageN aLineageC], .agg #[.slice bValsA bValsN bValsC, .slice bLineageA bLineageN bLineageC]] 0 H ⟨false, [(false, [.int .i64])]⟩ post =
  (  ∃ (post0 : Int → Heap → Prop), ConT P 32 [.slice aValsA aValsN aValsC, .slice bValsA bValsN bValsC] H ⟨false, [(false, [.int .i64])]⟩ post0 ∧ ∀ (H1 : Heap), Heap.le H H1 → ∀ (n3 : Int),
  post0 n3 H1 → ∃ (post5 : Int → Heap → Prop), ConT P 105 [.slice aLineageA aLineageN aLineageC, .slice bLineageA bLineageN bLineageC] H1 ⟨false, [(false, [.int .i64])]⟩ post5 ∧ ∀ (H6 :
  Heap), Heap.le H1 H6 → ∀ (n8 : Int), post5 n8 H6 → ∃ (post10 : Int → Heap → Prop), (∀ (A11 : Option Addr) (c12 : Nat) (H13 : Heap), Heap.le H6 H13 → Cells H13 A11 0 [.int .i64 n3, .int .i64
  n8] → 2 ≤ c12 → ConT P 84 [.slice A11 2 c12] H13 ⟨false, [(false, [.int .i64])]⟩ post10) ∧ ∀ (H17 : Heap) (n18 : Int), post10 n18 H17 → post n18 H6) := by kernel_rfl
theorem bag_Compare {H : Heap} : CmpT Tryz.prog Rw H 77 cmpRw := by
  rintro H' vs us s t _ ⟨A, n, c, B, m, d, rfl, h1, h2⟩ ⟨A', n', c', B', m', d', rfl, h1', h2'⟩
  refine con_of_vc (an := an77) (fn := Tryz.f77) mix tabOK Tryz.func77 (by kernel_rfl) (extra := 0) ?_
  rw [vc77]
  refine ⟨_, value_CompareRows h1 h1', ?_⟩
  rintro H1 l1 _ rfl
  refine ⟨_, Compare_Ints (h2.mono l1) (h2'.mono l1), ?_⟩
  rintro H2 l2 _ rfl
  refine ⟨_, fun A c H3 l3 hc hn => cmp_Or (l := [cmpVs s.vals t.vals, lexI cmpI s.lin t.lin]) (Row.sl (T := Int) (ints_row ?_) (hle_refl H3) hc rfl hn (by decide) (by decide)), ?_⟩
  · have := cmpVs_ord.bd s.vals t.vals; have := cmpI_ord.lex.bd s.lin t.lin
    simp [*]
  · rintro H5 _ rfl
    simp only [orI, cmpRw]
    by_cases h : cmpVs s.vals t.vals = 0
    · by_cases k : lexI cmpI s.lin t.lin = 0 <;> simp [h, k]
    · simp [h]
def an103 : Ann where
  res := fun _ => none
  lend := fun _ => false
  sch := fun _ => .done
  lt := fun _ => []
  tup := tups

theorem vc103 (P : Program) (H : Heap) (sA : Option Addr) (sN sC : Nat) (post : Option Addr → Nat → Nat → Heap → Prop) :
  vcFn P tab an103 Tryz.f103 [.slice sA sN sC] 0 H ⟨false, [(false, [.sl])]⟩ post =
  (  (Option.isNone sA = true → post none 0 0 H) ∧ (Option.isNone sA = false → ∃ (ys2 : List Value), Cells H sA 0 ys2 ∧ List.length ys2 = sN * 3 ∧ (0 + sN) * 32 ≤ 140737488355328 ∧ ∀ (A3 :
  Option Addr) (c4 : Nat) (H5 : Heap), Heap.le H H5 → Cells H5 A3 0 ([] ++ ys2) → 0 + sN ≤ c4 → post A3 (0 + sN) c4 H5)) := by kernel_rfl
theorem Clone_Val {H : Heap} {A : Option Addr} {n c : Nat} {l : List Val} (hs : Sl H A n c l) :
    ConT Tryz.prog 103 [.slice A n c] H shS (fun A' n' c' H' => Sl H' A' n' c' l) := by
  refine con_of_vc (an := an103) (fn := Tryz.f103) mix tabOK Tryz.func103 (by kernel_rfl) (extra := 0) ?_
  rw [vc103]
  refine ⟨fun hA => ?_, fun hA => ?_⟩
  · have : n = 0 := by
      rcases Nat.eq_zero_or_pos n with h | h
      · exact h
      · obtain ⟨b, o, e⟩ := hs.someA h; simp [e] at hA
    subst this
    rw [List.eq_nil_of_length_eq_zero hs.len]; exact Sl.nil
  · obtain ⟨ys, h1, h2⟩ := hs.row
    refine ⟨ys, h1, by rw [h2.length, hs.len]; rfl, by have := hs.bnd; rw [Nat.zero_add]; exact this, fun A' c' H' hle hc hn => ?_⟩
    rw [Nat.zero_add] at hn ⊢
    exact h2.sl hle (by simpa using hc) hs.len hn hs.bnd hs.bn
def an72 : Ann where
  res := fun _ => none
  lend := fun _ => false
  sch := fun _ => .done
  lt := fun _ => []
  tup := tups

theorem vc72 (P : Program) (H : Heap) (sA : Option Addr) (sN sC : Nat) (post : Option Addr → Nat → Nat → Heap → Prop) :
  vcFn P tab an72 Tryz.f72 [.slice sA sN sC] 0 H ⟨false, [(false, [.sl])]⟩ post =
  (  (Option.isNone sA = true → post none 0 0 H) ∧ (Option.isNone sA = false → ∃ (ys2 : List Value), Cells H sA 0 ys2 ∧ List.length ys2 = sN * 1 ∧ (0 + sN) * 8 ≤ 140737488355328 ∧ ∀ (A3 : Option
  Addr) (c4 : Nat) (H5 : Heap), Heap.le H H5 → Cells H5 A3 0 ([] ++ ys2) → 0 + sN ≤ c4 → post A3 (0 + sN) c4 H5)) := by kernel_rfl
theorem Clone_Int {H : Heap} {A : Option Addr} {n c : Nat} {l : List Int} (hs : Sl H A n c l) :
    ConT Tryz.prog 72 [.slice A n c] H shS (fun A' n' c' H' => Sl H' A' n' c' l) := by
  refine con_of_vc (an := an72) (fn := Tryz.f72) mix tabOK Tryz.func72 (by kernel_rfl) (extra := 0) ?_
  rw [vc72]
  refine ⟨fun hA => ?_, fun hA => ?_⟩
  · have : n = 0 := by
      rcases Nat.eq_zero_or_pos n with h | h
      · exact h
      · obtain ⟨b, o, e⟩ := hs.someA h; simp [e] at hA
    subst this
    rw [List.eq_nil_of_length_eq_zero hs.len]; exact Sl.nil
  · obtain ⟨ys, h1, h2⟩ := hs.row
    refine ⟨ys, h1, by rw [h2.length, hs.len]; rfl, by have := hs.bnd; rw [Nat.zero_add]; exact this, fun A' c' H' hle hc hn => ?_⟩
    rw [Nat.zero_add] at hn ⊢
    exact h2.sl hle (by simpa using hc) hs.len hn hs.bnd hs.bn
def an75 : Ann where
  res := fun _ => none
  lend := fun _ => false
  sch := fun | 1 => (tk [0, 1, 3, 4] (.alt 2 (.alt 5 (tk [6] (.alt 7 .done .fin)) .fin) .fin)) | _ => .done
  lt := fun _ => []
  tup := tups

theorem vc75 (P : Program) (H : Heap) (rValsA : Option Addr) (rValsN rValsC : Nat) (rLineageA : Option Addr) (rLineageN rLineageC : Nat) (post : Option Addr → Nat → Nat → Option Addr → Nat → Nat → Heap → Prop) :
  vcFn P tab an75 Tryz.f75 [.agg #[.slice rValsA rValsN rValsC, .slice rLineageA rLineageN rLineageC]] 0 H ⟨false, [(true, [.sl, .sl])]⟩ post =
  (  ∃ (post0 : Option Addr → Nat → Nat → Heap → Prop), ConT P 103 [.slice rValsA rValsN rValsC] H ⟨false, [(false, [.sl])]⟩ post0 ∧ ∀ (H1 : Heap), Heap.le H H1 → ∀ (A3 : Option Addr) (n4 c5 :
  Nat), post0 A3 n4 c5 H1 → ∃ (post7 : Option Addr → Nat → Nat → Heap → Prop), ConT P 72 [.slice rLineageA rLineageN rLineageC] H1 ⟨false, [(false, [.sl])]⟩ post7 ∧ ∀ (H8 : Heap), Heap.le H1
  H8 → ∀ (A10 : Option Addr) (n11 c12 : Nat), post7 A10 n11 c12 H8 → post A3 n4 c5 A10 n11 c12 H8) := by kernel_rfl
theorem bag_Clone {H : Heap} {A B : Option Addr} {n c m d : Nat} {r : Rw} (h1 : Sl H A n c r.vals) (h2 : Sl H B m d r.lin) :
    ConT Tryz.prog 75 [.agg ⟨[.slice A n c, .slice B m d]⟩] H ⟨false, [(true, [.sl, .sl])]⟩ (fun A' n' c' B' m' d' H' => Rep.rel H' [.slice A' n' c', .slice B' m' d'] r) := by
  refine con_of_vc (an := an75) (fn := Tryz.f75) mix tabOK Tryz.func75 (by kernel_rfl) (extra := 0) ?_
  rw [vc75]
  refine ⟨_, Clone_Val h1, fun H1 l1 A1 n1 c1 q1 => ⟨_, Clone_Int (h2.mono l1), fun H2 l2 A2 n2 c2 q2 => ?_⟩⟩
  exact ⟨_, _, _, _, _, _, rfl, q1.mono l2, q2⟩
def sortLay_Rw_ren : Go.Shelf.Ren := ⟨fun | 6 => 76 | 15 => 88 | 14 => 104 | 28 => 119 | 29 => 120 | 20 => 137 | 21 => 138 | 22 => 139 | 23 => 140 | 24 => 141 | 25 => 142 | 26 => 143 | 27 => 144 | 46 => 170 | 47 => 156 | 48 => 157 | 49 => 171 | 50 => 172 | 57 => 183 | n => n, fun | 22 => 42 | 24 => 45 | 25 => 121 | 3 => 3 | 39 => 124 | 0 => 0 | 53 => 160 | 55 => 162 | 4 => 4 | 46 => 154 | 45 => 153 | 50 => 91 | 5 => 5 | 9 => 9 | 66 => 187 | 70 => 191 | 76 => 206 | 77 => 207 | n => n, fun n => n⟩
theorem sortLay_Rw : SlLaysF0.n6 Tryz.prog sortLay_Rw_ren where
  mixed := by kernel_rfl
  f6 := ⟨Tryz.f76.name, by kernel_rfl, Tryz.func76.trans (congrArg some (by kernel_rfl))⟩
  f14 := ⟨Tryz.f104.name, by kernel_rfl, Tryz.func104.trans (congrArg some (by kernel_rfl))⟩
  f15 := Tryz.func88.trans (congrArg some (by kernel_rfl))
  f20 := ⟨Tryz.f137.name, by kernel_rfl, Tryz.func137.trans (congrArg some (by kernel_rfl))⟩
  f21 := ⟨Tryz.f138.name, by kernel_rfl, Tryz.func138.trans (congrArg some (by kernel_rfl))⟩
  f22 := ⟨Tryz.f139.name, by kernel_rfl, Tryz.func139.trans (congrArg some (by kernel_rfl))⟩
  f23 := ⟨Tryz.f140.name, by kernel_rfl, Tryz.func140.trans (congrArg some (by kernel_rfl))⟩
  f24 := ⟨Tryz.f141.name, by kernel_rfl, Tryz.func141.trans (congrArg some (by kernel_rfl))⟩
  f25 := ⟨Tryz.f142.name, by kernel_rfl, Tryz.func142.trans (congrArg some (by kernel_rfl))⟩
  f26 := ⟨Tryz.f143.name, by kernel_rfl, Tryz.func143.trans (congrArg some (by kernel_rfl))⟩
  f27 := ⟨Tryz.f144.name, by kernel_rfl, Tryz.func144.trans (congrArg some (by kernel_rfl))⟩
  f28 := Tryz.func119.trans (congrArg some (by kernel_rfl))
  f29 := Tryz.func120.trans (congrArg some (by kernel_rfl))
  f46 := ⟨Tryz.f170.name, by kernel_rfl, Tryz.func170.trans (congrArg some (by kernel_rfl))⟩
  f47 := Tryz.func156.trans (congrArg some (by kernel_rfl))
  f48 := Tryz.func157.trans (congrArg some (by kernel_rfl))
  f49 := ⟨Tryz.f171.name, by kernel_rfl, Tryz.func171.trans (congrArg some (by kernel_rfl))⟩
  f50 := ⟨Tryz.f172.name, by kernel_rfl, Tryz.func172.trans (congrArg some (by kernel_rfl))⟩
  f57 := ⟨Tryz.f183.name, by kernel_rfl, Tryz.func183.trans (congrArg some (by kernel_rfl))⟩
  t0 := Tryz.underlying0
  a0 := Tryz.isAgg0
  z0 := Tryz.sizeOf0
  v0 := Tryz.zeroValue0
  t3 := Tryz.underlying3
  a3 := Tryz.isAgg3
  z3 := Tryz.sizeOf3
  v3 := Tryz.zeroValue3
  t4 := Tryz.underlying4
  a4 := Tryz.isAgg4
  z4 := Tryz.sizeOf4
  v4 := Tryz.zeroValue4
  t5 := Tryz.underlying5
  a5 := Tryz.isAgg5
  z5 := Tryz.sizeOf5
  v5 := Tryz.zeroValue5
  t9 := Tryz.underlying9
  a9 := Tryz.isAgg9
  z9 := Tryz.sizeOf9
  v9 := Tryz.zeroValue9
  t22 := Tryz.underlying42
  a22 := Tryz.isAgg42
  z22 := Tryz.sizeOf42
  v22 := Tryz.zeroValue42
  t25 := Tryz.underlying121
  a25 := Tryz.isAgg121
  z25 := Tryz.sizeOf121
  v25 := Tryz.zeroValue121
  t39 := Tryz.underlying124
  a39 := Tryz.isAgg124
  z39 := Tryz.sizeOf124
  v39 := Tryz.zeroValue124
  t45 := Tryz.underlying153
  a45 := Tryz.isAgg153
  z45 := Tryz.sizeOf153
  v45 := Tryz.zeroValue153
  t46 := Tryz.underlying154
  a46 := Tryz.isAgg154
  z46 := Tryz.sizeOf154
  v46 := Tryz.zeroValue154
  t50 := Tryz.underlying91
  a50 := Tryz.isAgg91
  z50 := Tryz.sizeOf91
  v50 := Tryz.zeroValue91
  t53 := Tryz.underlying160
  a53 := Tryz.isAgg160
  z53 := Tryz.sizeOf160
  v53 := Tryz.zeroValue160
  t55 := Tryz.underlying162
  a55 := Tryz.isAgg162
  z55 := Tryz.sizeOf162
  v55 := Tryz.zeroValue162
  t66 := Tryz.underlying187
  a66 := Tryz.isAgg187
  z66 := Tryz.sizeOf187
  v66 := Tryz.zeroValue187
  t70 := Tryz.underlying191
  a70 := Tryz.isAgg191
  z70 := Tryz.sizeOf191
  v70 := Tryz.zeroValue191
  t76 := Tryz.underlying206
  a76 := Tryz.isAgg206
  z76 := Tryz.sizeOf206
  v76 := Tryz.zeroValue206
  t77 := Tryz.underlying207
  a77 := Tryz.isAgg207
  z77 := Tryz.sizeOf207
  v77 := Tryz.zeroValue207
theorem sortL_Rw : SrtL Tryz.prog sortLay_Rw_ren 2 := ⟨sortLay_Rw, Tryz.isAgg45, Tryz.sizeOf45, by kernel_rfl⟩
set_option maxRecDepth 100000 in
theorem SortFunc_Rw {H : Heap} {n : Nat} {xs : List Value} {l : List Rw} (hr : Row H xs l) (hl : l.length = n) (hn : n ≤ 140737488355328) :
    ConM Tryz.prog 76 [.slice none 0 0, .func (.func 77) #[] #[]] 0 45 n xs true H ⟨true, []⟩ (fun ys (H' : Heap) => ∃ m : List Rw, Row H' ys m ∧ m.Perm l ∧ m.Pairwise (fun a b => ¬ cmpRw b a < 0)) := by
  have h := sort_con sortL_Rw hr hl hn (f := 77) (cap := []) (cf := cmpRw) ⟨_, Tryz.func77, rfl, by kernel_rfl⟩ cmpRw_swo (fun H' vs us s t h0 h1 h2 => bag_Compare (H := H) H' vs us s t h0 h1 h2)
  exact h
def an44 : Ann where
  res := fun _ => none
  lend := fun _ => false
  mt := fun | 76 => some true | _ => none
  sch := fun _ => .done
  lt := fun | 3 => [.slot 3 false [.row 21 45], .slot 8 false [.int .i64]] | _ => []
  tup := tups

theorem vc44 (P : Program) (H : Heap) (rowsA : Option Addr) (rowsN rowsC : Nat) (post : Option Addr → Nat → Nat → Heap → Prop) :
  vcFn P tab an44 Tryz.f44 [.slice rowsA rowsN rowsC] 1 H ⟨false, [(false, [.sl])]⟩ post =
  (  ∃ (inv0 : Nat → List Value → Int → Heap → Prop), ∃ (m1 : Nat → List Value → Int → Nat), inv0 0 [] (0 : Int) H ∧ ∀ (H2 : Heap), Heap.le H H2 → ∀ (n4 : Nat) (xs5 : List Value) (n6 : Int),
  inv0 n4 xs5 n6 H2 → (decide (n6 < (↑rowsN : Int)) = true → someA rowsA ∧ (0 : Int) ≤ n6 ∧ n6 < (↑rowsN : Int) ∧ ∃ (A9 : Option Addr), ∃ (n10 : Nat), ∃ (c11 : Nat), ∃ (A12 : Option Addr), ∃
  (n13 : Nat), ∃ (c14 : Nat), Cells H2 rowsA (Int.toNat n6 * 2) [.slice A9 n10 c11, .slice A12 n13 c14] ∧ ∃ (post15 : Option Addr → Nat → Nat → Option Addr → Nat → Nat → Heap → Prop), ConT P
  75 [.agg ⟨[.slice A9 n10 c11, .slice A12 n13 c14]⟩] H2 ⟨false, [(true, [.sl, .sl])]⟩ post15 ∧ ∀ (H16 : Heap), Heap.le H2 H16 → ∀ (A18 : Option Addr) (n19 c20 : Nat) (A21 : Option Addr) (n22
  c23 : Nat), post15 A18 n19 c20 A21 n22 c23 H16 → (n4 + 1) * 48 ≤ 140737488355328 ∧ rng .i64 (n6 + (1 : Int)) ∧ inv0 (n4 + 1) (xs5 ++ [.slice A18 n19 c20, .slice A21 n22 c23]) (n6 + (1 :
  Int)) H16 ∧ m1 (n4 + 1) (xs5 ++ [.slice A18 n19 c20, .slice A21 n22 c23]) (n6 + (1 : Int)) < m1 n4 xs5 n6) ∧ (decide (n6 < (↑rowsN : Int)) = false → ∃ (post26 : List Value → Heap → Prop),
  ConM P 76 [.slice none 0 0, .func (.func 77) ⟨[]⟩ ⟨[]⟩] 0 45 n4 xs5 true H2 ⟨true, []⟩ post26 ∧ ∀ (H27 : Heap), Heap.le H2 H27 → ∀ (ys29 : List Value), post26 ys29 H27 → ∀ (A31 : Option
  Addr) (c32 : Nat) (H33 : Heap), Heap.le H27 H33 → Cells H33 A31 0 ys29 → n4 ≤ c32 → post A31 n4 c32 H33)) := by kernel_rfl
theorem bag_Sort {H : Heap} {A : Option Addr} {n c : Nat} {l : List Rw} (hs : Sl H A n c l) :
    ConT Tryz.prog 44 [.slice A n c] H shS (fun A' n' c' H' => ∃ m : List Rw, Sl H' A' n' c' m ∧ m.Perm l ∧ m.Pairwise (fun a b => ¬ cmpRw b a < 0)) := by
  refine con_of_vc (an := an44) (fn := Tryz.f44) mix tabOK Tryz.func44 (by kernel_rfl) (extra := 1) ?_
  rw [vc44]
  have hl := hs.len
  have hbd : n * 48 ≤ 140737488355328 := hs.bnd
  refine ⟨fun k xs i H' => 0 ≤ i ∧ i ≤ n ∧ k = i.toNat ∧ Row H' xs (l.take i.toNat), fun _ _ i => n - i.toNat, ⟨by omega, by omega, rfl, rfl⟩, ?_⟩
  rintro H2 hle k xs i ⟨h0, h1, rfl, hr⟩
  have e1 : (i + 1).toNat = i.toNat + 1 := by omega
  refine ⟨fun hlt => ?_, fun hge => ?_⟩
  · have hlt := of_decide_eq_true hlt
    obtain ⟨hi, hA, _, hc, ⟨A9, n9, c9, B9, m9, d9, rfl, q1, q2⟩⟩ := hs.at hle h0 hlt
    refine ⟨hA, h0, hlt, _, _, _, _, _, _, hc, _, bag_Clone (r := l[i.toNat]) q1 q2, ?_⟩
    intro H3 l3 A18 n19 c20 A21 n22 c23 hrel
    refine ⟨by omega, by simp only [rng]; omega, ⟨by omega, by omega, by omega, ?_⟩, by dsimp only; omega⟩
    rw [e1, List.take_succ_eq_append_getElem hi]
    exact (hr.mono l3).append (Row.one hrel)
  · have hge := of_decide_eq_false hge
    rw [List.take_of_length_le (by omega)] at hr
    refine ⟨_, SortFunc_Rw hr (by omega) (by omega), ?_⟩
    rintro H3 l3 ys ⟨m, hm, hp, ho⟩ A4 c4 H4 l4 hc4 hn4
    exact ⟨m, hm.sl l4 hc4 (by rw [hp.length_eq]; omega) hn4 (by show i.toNat * 48 ≤ _; omega) (by omega), hp, ho⟩
def an42 : Ann where
  res := fun _ => none
  lend := fun | 6 => true | _ => false
  sch := fun _ => .done
  lt := fun _ => []
  tup := tups

theorem vc42 (P : Program) (H : Heap) (pFrom : Int) (pTo : Int) (t : Int) (post : Bool → Heap → Prop) :
  vcFn P tab an42 Tryz.f42 [.agg #[.int .i64 pFrom, .int .i64 pTo], .int .i64 t] 0 H ⟨false, [(false, [.bool])]⟩ post =
  (  ∃ (post0 : Bool → Heap → Prop), ConT P 50 [.agg ⟨[.int .i64 pFrom, .int .i64 pTo]⟩] H ⟨false, [(false, [.bool])]⟩ post0 ∧ ∀ (H1 : Heap), Heap.le H H1 → ∀ (b3 : Bool), post0 b3 H1 → (b3 =
  true → (decide (pFrom ≤ t) = true → post (decide (t < pTo)) H1) ∧ (decide (pFrom ≤ t) = false → post false H1)) ∧ (b3 = false → post false H1)) := by kernel_rfl
theorem period_Includes {a b t : Int} {H : Heap} : ConT Tryz.prog 42 [.agg ⟨[.int .i64 a, .int .i64 b]⟩, .int .i64 t] H shB (fun r _ => r = pIn ⟨a, b⟩ t) := by
  refine con_of_vc (an := an42) (fn := Tryz.f42) mix tabOK Tryz.func42 (by kernel_rfl) (extra := 0) ?_
  rw [vc42]
  refine ⟨_, period_Valid, ?_⟩
  rintro H1 l1 _ rfl
  refine ⟨fun h => ⟨fun h1 => ?_, fun h1 => ?_⟩, fun h => ?_⟩ <;> simp only [pIn, *] <;> simp
def rowT (t : Tup) : Rw := ⟨t.vals, t.lin⟩
def an43 : Ann where
  res := fun _ => none
  lend := fun _ => false
  sch := fun _ => .done
  lt := fun _ => []
  tup := tups

theorem vc43 (P : Program) (H : Heap) (tValsA : Option Addr) (tValsN tValsC : Nat) (tValidFrom : Int) (tValidTo : Int) (tLineageA : Option Addr) (tLineageN tLineageC : Nat) (post : Option Addr → Nat → Nat → Option Addr → Nat → Nat → Heap → Prop) :
  vcFn P tab an43 Tryz.f43 [.agg #[.slice tValsA tValsN tValsC, .int .i64 tValidFrom, .int .i64 tValidTo, .slice tLineageA tLineageN tLineageC]] 0 H ⟨false, [(true, [.sl, .sl])]⟩ post =
  (  post tValsA tValsN tValsC tLineageA tLineageN tLineageC H) := by kernel_rfl
theorem tuple_Row {H : Heap} {A B : Option Addr} {n c m d : Nat} {a b : Int} : ConT Tryz.prog 43 [.agg ⟨[.slice A n c, .int .i64 a, .int .i64 b, .slice B m d]⟩] H ⟨false, [(true, [.sl, .sl])]⟩ (fun A' n' c' B' m' d' _ => A' = A ∧ n' = n ∧ c' = c ∧ B' = B ∧ m' = m ∧ d' = d) := by
  refine con_of_vc (an := an43) (fn := Tryz.f43) mix tabOK Tryz.func43 (by kernel_rfl) (extra := 0) ?_
  rw [vc43]
  exact ⟨rfl, rfl, rfl, rfl, rfl, rfl⟩
def atT (l : List Tup) (t : Int) : List Rw := (l.filter fun x => pIn x.p t).map rowT
theorem atT_succ {l : List Tup} {t : Int} {i : Nat} (hi : i < l.length) : atT (l.take (i + 1)) t = atT (l.take i) t ++ (if pIn l[i].p t then [rowT l[i]] else []) := by
  rw [List.take_succ_eq_append_getElem hi]
  simp only [atT, List.filter_append, List.map_append, List.filter_cons, List.filter_nil]
  split <;> simp
theorem atT_len (l : List Tup) (t : Int) : (atT l t).length ≤ l.length := by
  simp only [atT, List.length_map]; exact List.length_filter_le _ _
def an21 : Ann where
  res := fun _ => none
  lend := fun | 17 => true | _ => false
  sch := fun _ => .done
  lt := fun | 3 => [.slot 5 false [.row 26 45], .slot 10 false [.int .i64]] | _ => []
  tup := tups

theorem vc21 (P : Program) (H : Heap) (tuplesA : Option Addr) (tuplesN tuplesC : Nat) (t : Int) (post : Option Addr → Nat → Nat → Heap → Prop) :
  vcFn P tab an21 Tryz.f21 [.slice tuplesA tuplesN tuplesC, .int .i64 t] 1 H ⟨false, [(false, [.sl])]⟩ post =
  (  ∃ (inv0 : Nat → List Value → Int → Heap → Prop), ∃ (m1 : Nat → List Value → Int → Nat), inv0 0 [] (0 : Int) H ∧ ∀ (H2 : Heap), Heap.le H H2 → ∀ (n4 : Nat) (xs5 : List Value) (n6 : Int),
  inv0 n4 xs5 n6 H2 → (decide (n6 < (↑tuplesN : Int)) = true → someA tuplesA ∧ (0 : Int) ≤ n6 ∧ n6 < (↑tuplesN : Int) ∧ ∃ (A9 : Option Addr), ∃ (n10 : Nat), ∃ (c11 : Nat), ∃ (n12 : Int), ∃
  (n13 : Int), ∃ (A14 : Option Addr), ∃ (n15 : Nat), ∃ (c16 : Nat), Cells H2 tuplesA (Int.toNat n6 * 4) [.slice A9 n10 c11, .int .i64 n12, .int .i64 n13, .slice A14 n15 c16] ∧ ∃ (post17 :
  Bool → Heap → Prop), ConT P 42 [.agg ⟨[.int .i64 n12, .int .i64 n13]⟩, .int .i64 t] H2 ⟨false, [(false, [.bool])]⟩ post17 ∧ ∀ (H18 : Heap), Heap.le H2 H18 → ∀ (b20 : Bool), post17 b20 H18 →
  (b20 = true → ∃ (post23 : Option Addr → Nat → Nat → Option Addr → Nat → Nat → Heap → Prop), ConT P 43 [.agg ⟨[.slice A9 n10 c11, .int .i64 n12, .int .i64 n13, .slice A14 n15 c16]⟩] H18
  ⟨false, [(true, [.sl, .sl])]⟩ post23 ∧ ∀ (H24 : Heap), Heap.le H18 H24 → ∀ (A26 : Option Addr) (n27 c28 : Nat) (A29 : Option Addr) (n30 c31 : Nat), post23 A26 n27 c28 A29 n30 c31 H24 → (n4
  + 1) * 48 ≤ 140737488355328 ∧ rng .i64 (n6 + (1 : Int)) ∧ inv0 (n4 + 1) (xs5 ++ [.slice A26 n27 c28, .slice A29 n30 c31]) (n6 + (1 : Int)) H24 ∧ m1 (n4 + 1) (xs5 ++ [.slice A26 n27 c28,
  .slice A29 n30 c31]) (n6 + (1 : Int)) < m1 n4 xs5 n6) ∧ (b20 = false → rng .i64 (n6 + (1 : Int)) ∧ inv0 n4 xs5 (n6 + (1 : Int)) H18 ∧ m1 n4 xs5 (n6 + (1 : Int)) < m1 n4 xs5 n6)) ∧ (decide
  (n6 < (↑tuplesN : Int)) = false → ∀ (A35 : Option Addr) (c36 : Nat) (H37 : Heap), Heap.le H2 H37 → Cells H37 A35 0 xs5 → n4 ≤ c36 → ∃ (post41 : Option Addr → Nat → Nat → Heap → Prop), ConT
  P 44 [.slice A35 n4 c36] H37 ⟨false, [(false, [.sl])]⟩ post41 ∧ ∀ (H42 : Heap), Heap.le H37 H42 → ∀ (A44 : Option Addr) (n45 c46 : Nat), post41 A44 n45 c46 H42 → post A44 n45 c46 H42)) := by kernel_rfl
theorem tuple_Timeslice {H : Heap} {A : Option Addr} {n c : Nat} {l : List Tup} {t : Int} (hs : Sl H A n c l) :
    ConT Tryz.prog 21 [.slice A n c, .int .i64 t] H shS (fun A' n' c' H' => ∃ m : List Rw, Sl H' A' n' c' m ∧ m.Perm (atT l t) ∧ m.Pairwise (fun a b => ¬ cmpRw b a < 0)) := by
  refine con_of_vc (an := an21) (fn := Tryz.f21) mix tabOK Tryz.func21 (by kernel_rfl) (extra := 1) ?_
  rw [vc21]
  have hl := hs.len
  have hbd : n * 64 ≤ 140737488355328 := hs.bnd
  refine ⟨fun k xs i H' => 0 ≤ i ∧ i ≤ n ∧ k = (atT (l.take i.toNat) t).length ∧ Row H' xs (atT (l.take i.toNat) t), fun _ _ i => n - i.toNat, ⟨by omega, by omega, rfl, rfl⟩, ?_⟩
  rintro H2 hle k xs i ⟨h0, h1, hk, hr⟩
  have hlen := atT_len (l.take i.toNat) t
  rw [List.length_take] at hlen
  have e1 : (i + 1).toNat = i.toNat + 1 := by omega
  refine ⟨fun hlt => ?_, fun hge => ?_⟩
  · have hlt := of_decide_eq_true hlt
    obtain ⟨hi, hA, _, hc, ⟨A9, n9, c9, A14, n15, c16, rfl, q1, q2, q3, q4⟩⟩ := hs.at hle h0 hlt
    have hsu := atT_succ (t := t) hi
    refine ⟨hA, h0, hlt, _, _, _, _, _, _, _, _, hc, _, period_Includes, ?_⟩
    rintro H3 l3 _ rfl
    refine ⟨fun hp => ⟨_, tuple_Row, ?_⟩, fun hp => ?_⟩
    · rintro H4 l4 _ _ _ _ _ _ ⟨rfl, rfl, rfl, rfl, rfl, rfl⟩
      have hp' : pIn l[i.toNat].p t = true := hp
      rw [if_pos hp'] at hsu
      have l34 := hle_trans l3 l4
      refine ⟨by omega, by simp only [rng]; omega, ⟨by omega, by omega, by rw [e1, hsu, List.length_append, ← hk]; rfl, ?_⟩, by dsimp only; omega⟩
      rw [e1, hsu]
      exact (hr.mono l34).append (Row.one ⟨_, _, _, _, _, _, rfl, q1.mono l34, q4.mono l34⟩)
    · have hp' : ¬ pIn l[i.toNat].p t = true := by
        have hp : pIn ⟨l[i.toNat].p.lo, l[i.toNat].p.hi⟩ t = false := hp
        intro h
        have h : pIn ⟨l[i.toNat].p.lo, l[i.toNat].p.hi⟩ t = true := h
        rw [hp] at h; cases h
      rw [if_neg hp', List.append_nil] at hsu
      exact ⟨by simp only [rng]; omega, ⟨by omega, by omega, by rw [e1, hsu]; exact hk, by rw [e1, hsu]; exact hr.mono l3⟩, by dsimp only; omega⟩
  · have hge := of_decide_eq_false hge
    rw [List.take_of_length_le (by omega)] at hk hr
    have hlen := atT_len l t
    intro A4 c4 H4 l4 hc4 hn4
    exact ⟨_, bag_Sort (hr.sl l4 hc4 hk.symm hn4 (by show k * 48 ≤ _; omega) (by omega)), fun H5 l5 A5 n5 c5 h => h⟩
end Go.Vc
/- The laws' column lists; the laws' tuples as a public slice. -/
namespace Go.Vc
open Go Go.Proofs Go.Shelf
def an17 : Ann where
  res := fun _ => none
  lend := fun _ => false
  sch := fun _ => .done
  lt := fun | 3 => [.slot 5 false [.row 27 57], .slot 6 false [.int .i64]] | _ => []
  tup := tups

theorem vc17 (P : Program) (H : Heap) (lA : Option Addr) (lN lC : Nat) (most : Int) (post : Option Addr → Nat → Nat → Heap → Prop) :
  vcFn P tab an17 Tryz.f17 [.slice lA lN lC, .int .i64 most] 1 H ⟨false, [(false, [.sl])]⟩ post =
  (  ∃ (inv0 : Nat → List Value → Int → Heap → Prop), ∃ (m1 : Nat → List Value → Int → Nat), inv0 0 [] (0 : Int) H ∧ ∀ (H2 : Heap), Heap.le H H2 → ∀ (n4 : Nat) (xs5 : List Value) (n6 : Int),
  inv0 n4 xs5 n6 H2 → (decide (n6 < (↑lN : Int)) = true → (decide (n6 < most) = true → someA lA ∧ (0 : Int) ≤ n6 ∧ n6 < (↑lN : Int) ∧ ∃ (n10 : Int), ∃ (n11 : Int), ∃ (n12 : Int), ∃ (n13 :
  Int), ∃ (n14 : Int), Cells H2 lA (Int.toNat n6 * 5) [.int .u16 n10, .int .u16 n11, .int .u16 n12, .int .u16 n13, .int .u16 n14] ∧ ∃ (post15 : Option Addr → Nat → Nat → Int → Int → Option
  Addr → Nat → Nat → Heap → Prop), ConT P 40 [.agg ⟨[.int .u16 n10, .int .u16 n11, .int .u16 n12, .int .u16 n13, .int .u16 n14]⟩] H2 ⟨false, [(true, [.sl, .int .i64, .int .i64, .sl])]⟩ post15
  ∧ ∀ (H16 : Heap), Heap.le H2 H16 → ∀ (A18 : Option Addr) (n19 c20 : Nat) (n21 n22 : Int) (A23 : Option Addr) (n24 c25 : Nat), post15 A18 n19 c20 n21 n22 A23 n24 c25 H16 → (n4 + 1) * 64 ≤
  140737488355328 ∧ rng .i64 (n6 + (1 : Int)) ∧ inv0 (n4 + 1) (xs5 ++ [.slice A18 n19 c20, .int .i64 n21, .int .i64 n22, .slice A23 n24 c25]) (n6 + (1 : Int)) H16 ∧ m1 (n4 + 1) (xs5 ++
  [.slice A18 n19 c20, .int .i64 n21, .int .i64 n22, .slice A23 n24 c25]) (n6 + (1 : Int)) < m1 n4 xs5 n6) ∧ (decide (n6 < most) = false → ∀ (A28 : Option Addr) (c29 : Nat) (H30 : Heap),
  Heap.le H2 H30 → Cells H30 A28 0 xs5 → n4 ≤ c29 → post A28 n4 c29 H30)) ∧ (decide (n6 < (↑lN : Int)) = false → ∀ (A35 : Option Addr) (c36 : Nat) (H37 : Heap), Heap.le H2 H37 → Cells H37 A35
  0 xs5 → n4 ≤ c36 → post A35 n4 c36 H37)) := by kernel_rfl
theorem law0_Tuples {H : Heap} {A : Option Addr} {n c most : Nat} {l : List U5} (hs : Sl H A n c l) (hm : most < 1000) :
    ConT Tryz.prog 17 [.slice A n c, .int .i64 most] H shS (fun A' n' c' H' => Sl H' A' n' c' (lTups l most)) := by
  refine con_of_vc (an := an17) (fn := Tryz.f17) mix tabOK Tryz.func17 (by kernel_rfl) (extra := 1) ?_
  rw [vc17]
  have hl := hs.len
  refine ⟨fun k xs i H' => 0 ≤ i ∧ i ≤ n ∧ i ≤ most ∧ k = i.toNat ∧ Row H' xs ((l.take i.toNat).map lTup), fun _ _ i => n - i.toNat, ⟨by omega, by omega, by omega, rfl, rfl⟩, ?_⟩
  rintro H2 hle k xs i ⟨h0, h1, h1', rfl, hr⟩
  have fin : (n ≤ i.toNat ∨ most ≤ i.toNat) → ∀ (A9 : Option Addr) (c9 : Nat) (H9 : Heap), Heap.le H2 H9 → Cells H9 A9 0 xs → i.toNat ≤ c9 → Sl H9 A9 i.toNat c9 (lTups l most) := by
    intro h A9 c9 H9 l9 hc9 hn9
    have e : (l.take i.toNat) = l.take most := by
      rcases h with h | h
      · rw [List.take_of_length_le (by omega), List.take_of_length_le (by omega)]
      · congr 1; omega
    rw [e] at hr
    refine hr.sl l9 hc9 ?_ hn9 ?_ (by omega)
    · simp only [List.length_map, List.length_take]; omega
    · show i.toNat * 64 ≤ _
      omega
  refine ⟨fun hlt => ⟨fun hlm => ?_, fun hlm => ?_⟩, fun hge => ?_⟩
  · have hlt := of_decide_eq_true hlt; have hlm := of_decide_eq_true hlm
    obtain ⟨hi, hA, _, hc, ⟨rfl, q1, q2, q3, q4, q5⟩⟩ := hs.at hle h0 hlt
    refine ⟨hA, h0, hlt, _, _, _, _, _, hc, _, law0_Tuple q1.1 q2.1 q3.1 q4.1 q5.1, ?_⟩
    intro H3 l3 A18 n19 c20 n21 n22 A23 n24 c25 hrel
    have e1 : (i + 1).toNat = i.toNat + 1 := by omega
    refine ⟨by omega, by simp only [rng]; omega, ⟨by omega, by omega, by omega, by omega, ?_⟩, by dsimp only; omega⟩
    rw [e1, List.take_succ_eq_append_getElem hi, List.map_append]
    exact (hr.mono l3).append ⟨_, [], rfl, hrel, rfl⟩
  · have hlm := of_decide_eq_false hlm
    exact fin (.inr (by omega))
  · have hge := of_decide_eq_false hge
    exact fin (.inl (by omega))
theorem lTups_len (l : List U5) (most : Nat) : (lTups l most).length ≤ most := by simp only [lTups, List.length_map, List.length_take]; omega
theorem lTups_lins (l : List U5) (most : Nat) : (tlins (lTups l most)).length ≤ most := by
  have key : ∀ m : List U5, (tlins (m.map lTup)).length = m.length := by
    intro m
    induction m with
    | nil => rfl
    | cons x m ih => simp only [tlins, List.map_cons, List.flatMap_cons, List.length_append, List.length_cons] at *; rw [ih]; simp [lTup]; omega
  rw [lTups, key, List.length_take]; omega
theorem lTups_ok {l : List U5} {most : Nat} (hl : ∀ x ∈ l, 0 ≤ x.a ∧ 0 ≤ x.b) : ∀ t ∈ lTups l most, pOk t.p = true := by
  intro t ht
  obtain ⟨x, hx, rfl⟩ := List.mem_map.1 ht
  have hx := hl x (List.take_subset _ _ hx)
  have := lPer_ok hx.1 hx.2
  have hm : maxT = 1099511627776 := rfl
  rw [pOk_iff, hm]
  simp only [lTup]; omega
theorem nodup_take {T : Type} {l : List T} {i : Nat} (hi : i < l.length) : (l.take (i + 1)).Nodup ↔ (l.take i).Nodup ∧ l[i] ∉ l.take i := by
  rw [List.take_succ_eq_append_getElem hi, List.nodup_append]
  constructor
  · rintro ⟨h1, -, h3⟩
    exact ⟨h1, fun h => h3 _ h _ (by simp) rfl⟩
  · rintro ⟨h1, h2⟩
    exact ⟨h1, by simp, fun a ha b hb e => by simp at hb; subst hb; subst e; exact h2 ha⟩
theorem keys_at {l : List Tup} {cols : List Int} {g : List Kd} {m : List Rw} {d : Int} (hg : g.Perm (byKeyL l cols)) (hm : m.Perm (atT l d)) : ((g.filter (atD d)).map (fun x => x.key)).Perm (m.map fun r => keyVals r.vals cols) := by
  have h1 := ((hg.filter (atD d)).map (fun x => x.key))
  have h2 := hm.map (fun r => keyVals r.vals cols)
  refine h1.trans (List.Perm.trans (List.Perm.of_eq ?_) h2.symm)
  have : ∀ l : List Tup, ((byKeyL l cols).filter (atD d)).map (fun x => x.key) = (atT l d).map fun r => keyVals r.vals cols := by
    intro l
    induction l with
    | nil => rfl
    | cons t l ih =>
      simp only [byKeyL, atT, List.filter_cons] at ih ⊢
      by_cases hp : pOk t.p = true
      · by_cases hq : pIn t.p d = true
        · have : atD d ⟨keyVals t.vals cols, t⟩ = true := by
            have := pIn_iff.1 hq
            simp only [atD, Bool.and_eq_true, decide_eq_true_eq]; omega
          rw [if_pos hp, if_pos hq, List.map_cons, List.filter_cons, if_pos this, List.map_cons, List.map_cons, List.map_cons, ih]
          rfl
        · have : ¬ atD d ⟨keyVals t.vals cols, t⟩ = true := by
            rw [pIn_iff] at hq
            have := pOk_iff.1 hp
            simp only [atD, Bool.and_eq_true, decide_eq_true_eq]; omega
          rw [if_pos hp, if_neg hq, List.map_cons, List.filter_cons, if_neg this, ih]
      · have hq : ¬ pIn t.p d = true := by
          rw [pIn_iff, ← pOk_iff]
          exact fun h => hp h.1
        rw [if_neg hp, if_neg hq, ih]
  exact this l
end Go.Vc
/- The reference's rows: comparing, sorting. -/
namespace Go.Vc
open Go Go.Proofs Go.Shelf
theorem cmpRw_eq (a b : Rw) : cmpRw a b = cmpVL (a.vals, a.lin) (b.vals, b.lin) := rfl
theorem cmpRw_ord : Ord3 cmpRw :=
  ⟨fun a b => cmpVL_ord.sign (a.vals, a.lin) (b.vals, b.lin), fun a b => cmpVL_ord.anti (a.vals, a.lin) (b.vals, b.lin), fun a b h => by
    have := cmpVL_ord.eq _ _ (show cmpVL (a.vals, a.lin) (b.vals, b.lin) = 0 from h)
    obtain ⟨a1, a2⟩ := a; obtain ⟨b1, b2⟩ := b
    simpa using this, fun a b c => cmpVL_ord.trans (a.vals, a.lin) (b.vals, b.lin) (c.vals, c.lin)⟩
/- sorted lists -/
def leF {T : Type} (f : T → T → Int) (x y : T) : Prop := ¬ f y x < 0
section
variable {T : Type} {f : T → T → Int}
theorem leF_trans (hO : Ord3 f) {x y z : T} (h1 : leF f x y) (h2 : leF f y z) : leF f x z := by
  unfold leF at *
  intro h3
  have s1 := hO.sign y x; have s2 := hO.sign z y; have s3 := hO.sign z x
  have a1 := hO.anti y x; have a2 := hO.anti z y; have a3 := hO.anti z x
  have hzx : f z x = -1 := by omega
  rcases s1 with s1 | s1 | s1
  · omega
  · have := hO.eq _ _ s1; subst this; omega
  · rcases s2 with s2 | s2 | s2
    · omega
    · have := hO.eq _ _ s2; subst this; omega
    · have hxy : f x y = -1 := by omega
      have hyz : f y z = -1 := by omega
      have := hO.trans _ _ _ hxy hyz
      omega
theorem sorted_unique (hO : Ord3 f) {l m : List T} (hl : l.Pairwise (leF f)) (hm : m.Pairwise (leF f)) (hp : l.Perm m) : l = m := by
  refine List.Perm.eq_of_pairwise (le := leF f) (fun a b _ _ h h' => ?_) hl hm hp
  have s := hO.sign a b; have an := hO.anti a b
  unfold leF at h h'
  exact hO.eq _ _ (by omega)
/- merging two sorted lists -/
structure Mrg (f : T → T → Int) (a b out : List T) (i k : Nat) : Prop where
  perm : out.Perm (a.take i ++ b.take k)
  sorted : out.Pairwise (leF f)
  le : ∀ x ∈ out, ∀ y ∈ a.drop i ++ b.drop k, leF f x y
theorem Mrg.nil {a b : List T} : Mrg f a b [] 0 0 := ⟨by simp, by simp, fun x h => by cases h⟩
theorem Mrg.left (hO : Ord3 f) {a b out : List T} {i k : Nat} (h : Mrg f a b out i k) (ha : a.Pairwise (leF f)) (hi : i < a.length) (hb : ∀ y ∈ b.drop k, leF f a[i] y) : Mrg f a b (out ++ [a[i]]) (i + 1) k := by
  have hd : a.drop i = a[i] :: a.drop (i + 1) := List.drop_eq_getElem_cons hi
  refine ⟨?_, ?_, ?_⟩
  · rw [List.take_succ_eq_append_getElem hi, List.append_assoc]
    refine (List.Perm.append_right _ h.perm).trans ?_
    rw [List.append_assoc]
    exact List.Perm.append_left _ List.perm_append_comm
  · refine List.pairwise_append.2 ⟨h.sorted, by simp, fun x hx y hy => ?_⟩
    simp at hy; subst hy
    exact h.le x hx _ (List.mem_append_left _ (hd ▸ List.mem_cons_self))
  · intro x hx y hy
    rcases List.mem_append.1 hx with hx | hx
    · refine h.le x hx y ?_
      rcases List.mem_append.1 hy with hy | hy
      · exact List.mem_append_left _ (hd ▸ List.mem_cons_of_mem _ hy)
      · exact List.mem_append_right _ hy
    · simp at hx; subst hx
      rcases List.mem_append.1 hy with hy | hy
      · have := List.Pairwise.sublist (List.drop_sublist i a) ha
        rw [hd] at this
        exact (List.pairwise_cons.1 this).1 y hy
      · exact hb y hy
theorem Mrg.right (hO : Ord3 f) {a b out : List T} {i k : Nat} (h : Mrg f a b out i k) (hb : b.Pairwise (leF f)) (hk : k < b.length) (ha : ∀ y ∈ a.drop i, leF f b[k] y) : Mrg f a b (out ++ [b[k]]) i (k + 1) := by
  have hd : b.drop k = b[k] :: b.drop (k + 1) := List.drop_eq_getElem_cons hk
  refine ⟨?_, ?_, ?_⟩
  · rw [List.take_succ_eq_append_getElem hk, ← List.append_assoc]
    exact List.Perm.append_right _ h.perm
  · refine List.pairwise_append.2 ⟨h.sorted, by simp, fun x hx y hy => ?_⟩
    simp at hy; subst hy
    exact h.le x hx _ (List.mem_append_right _ (hd ▸ List.mem_cons_self))
  · intro x hx y hy
    rcases List.mem_append.1 hx with hx | hx
    · refine h.le x hx y ?_
      rcases List.mem_append.1 hy with hy | hy
      · exact List.mem_append_left _ hy
      · exact List.mem_append_right _ (hd ▸ List.mem_cons_of_mem _ hy)
    · simp at hx; subst hx
      rcases List.mem_append.1 hy with hy | hy
      · exact ha y hy
      · have := List.Pairwise.sublist (List.drop_sublist k b) hb
        rw [hd] at this
        exact (List.pairwise_cons.1 this).1 y hy
theorem head_le (hO : Ord3 f) {b : List T} {k : Nat} {x : T} (hb : b.Pairwise (leF f)) (hk : k < b.length) (h : leF f x b[k]) : ∀ y ∈ b.drop k, leF f x y := by
  intro y hy
  have hd : b.drop k = b[k] :: b.drop (k + 1) := List.drop_eq_getElem_cons hk
  rw [hd] at hy
  rcases List.mem_cons.1 hy with rfl | hy
  · exact h
  · have := List.Pairwise.sublist (List.drop_sublist k b) hb
    rw [hd] at this
    exact leF_trans hO h ((List.pairwise_cons.1 this).1 y hy)
end
def an153 : Ann where
  res := fun _ => none
  lend := fun | 10 => true | 21 => true | _ => false
  sch := fun _ => .done
  lt := fun _ => []
  tup := tups

theorem vc153 (P : Program) (H : Heap) (aValsA : Option Addr) (aValsN aValsC : Nat) (aLineageA : Option Addr) (aLineageN aLineageC : Nat) (bValsA : Option Addr) (bValsN bValsC : Nat) (bLineageA : Option Addr) (bLineageN bLineageC : Nat) (post : Bool → Heap → Prop) :
  vcFn P tab an153 Tryz.f153 [.agg #[.slice aValsA aValsN aValsC, .slice aLineageA aLineageN aLineageC], .agg #[.slice bValsA bValsN bValsC, .slice bLineageA bLineageN bLineageC]] 0 H ⟨false, [(false, [.bool])]⟩ post =
  (  ∃ (post0 : Int → Heap → Prop), ConT P 22 [.slice aValsA aValsN aValsC, .slice bValsA bValsN bValsC] H ⟨false, [(false, [.int .i64])]⟩ post0 ∧ ∀ (H1 : Heap), Heap.le H H1 → ∀ (n3 : Int),
  post0 n3 H1 → (decide (n3 < (0 : Int)) = true → post true H1) ∧ (decide (n3 < (0 : Int)) = false → (decide (n3 = (0 : Int)) = true → ∃ (post8 : Int → Heap → Prop), ConT P 176 [.slice
  aLineageA aLineageN aLineageC, .slice bLineageA bLineageN bLineageC] H1 ⟨false, [(false, [.int .i64])]⟩ post8 ∧ ∀ (H9 : Heap), Heap.le H1 H9 → ∀ (n11 : Int), post8 n11 H9 → post (decide
  (n11 < (0 : Int))) H9) ∧ (decide (n3 = (0 : Int)) = false → post false H1))) := by kernel_rfl
theorem ref6_Less {H : Heap} {A B A' B' : Option Addr} {n c m d n' c' m' d' : Nat} {s t : Rw} (h1 : Sl H A n c s.vals) (h2 : Sl H B m d s.lin) (h1' : Sl H A' n' c' t.vals) (h2' : Sl H B' m' d' t.lin) :
    ConT Tryz.prog 153 [.agg ⟨[.slice A n c, .slice B m d]⟩, .agg ⟨[.slice A' n' c', .slice B' m' d']⟩] H shB (fun r _ => r = decide (cmpRw s t < 0)) := by
  refine con_of_vc (an := an153) (fn := Tryz.f153) mix tabOK Tryz.func153 (by kernel_rfl) (extra := 0) ?_
  rw [vc153]
  refine ⟨_, ref6_CompareRows h1 h1', ?_⟩
  rintro H1 l1 _ rfl
  refine ⟨fun h => ?_, fun h => ⟨fun he => ⟨_, ref6_CompareInts (h2.mono l1) (h2'.mono l1), ?_⟩, fun he => ?_⟩⟩
  · have h := of_decide_eq_true h
    have : cmpRw s t < 0 := by unfold cmpRw; rw [if_pos (by omega)]; exact h
    simp [this]
  · have he := of_decide_eq_true he
    rintro H2 l2 _ rfl
    unfold cmpRw
    rw [if_neg (by omega)]
  · have h := of_decide_eq_false h; have he := of_decide_eq_false he
    have : ¬ cmpRw s t < 0 := by unfold cmpRw; rw [if_pos (by omega)]; exact h
    simp [this]
def an108 : Ann where
  res := fun _ => none
  lend := fun | 53 => true | _ => false
  sch := fun | 3 => (tk [0, 1, 2, 3, 4, 6, 7, 8, 9, 10] (.alt 5 (.alt 11 (tk [12, 13] .done) .fin) .fin)) | 7 => (tk [0, 1, 2, 3, 4, 5, 6, 7, 8, 9, 10, 11, 12, 13, 14, 15, 16, 17] (.alt 18 (tk [19, 20, 21] .done) .fin)) | _ => .done
  lt := fun | 6 => [.slot 5 false [.row 76 45], .slot 6 false [.int .i64], .slot 7 false [.int .i64]] | _ => []
  tup := tups

theorem vc108 (P : Program) (H : Heap) (rowsA : Option Addr) (rowsN rowsC : Nat) (post : Option Addr → Nat → Nat → Heap → Prop) :
  vcFn P tab an108 Tryz.f108 [.slice rowsA rowsN rowsC] 1 H ⟨false, [(false, [.sl])]⟩ post =
  (  (decide ((↑rowsN : Int) < (2 : Int)) = true → ∃ (ys1 : List Value), Cells H rowsA 0 ys1 ∧ List.length ys1 = rowsN * 2 ∧ rowsN * 48 ≤ 140737488355328 ∧ ∀ (A2 : Option Addr) (c3 : Nat) (H4 :
  Heap), Heap.le H H4 → Cells H4 A2 0 ys1 → rowsN ≤ c3 → post A2 rowsN c3 H4) ∧ (decide ((↑rowsN : Int) < (2 : Int)) = false → (2 : Int) ≠ (0 : Int) ∧ rng .i64 (Int.tdiv (↑rowsN : Int) (2 :
  Int)) ∧ (0 : Int) ≤ (0 : Int) ∧ (0 : Int) ≤ Int.tdiv (↑rowsN : Int) (2 : Int) ∧ Int.tdiv (↑rowsN : Int) (2 : Int) ≤ (↑rowsC : Int) ∧ ∀ (A9 : Option Addr), A9 = subA rowsA rowsC (Int.toNat
  (0 : Int)) 2 → (2 : Int) ≠ (0 : Int) ∧ rng .i64 (Int.tdiv (↑rowsN : Int) (2 : Int)) ∧ (0 : Int) ≤ Int.tdiv (↑rowsN : Int) (2 : Int) ∧ Int.tdiv (↑rowsN : Int) (2 : Int) ≤ (↑rowsN : Int) ∧
  (↑rowsN : Int) ≤ (↑rowsC : Int) ∧ ∀ (A11 : Option Addr), A11 = subA rowsA rowsC (Int.toNat (Int.tdiv (↑rowsN : Int) (2 : Int))) 2 → ∃ (post13 : Option Addr → Nat → Nat → Heap → Prop), ConT
  P 108 [.slice A9 (Int.toNat (Int.tdiv (↑rowsN : Int) (2 : Int)) - Int.toNat (0 : Int)) (rowsC - Int.toNat (0 : Int))] H ⟨false, [(false, [.sl])]⟩ post13 ∧ ∀ (H14 : Heap), Heap.le H H14 → ∀
  (A16 : Option Addr) (n17 c18 : Nat), post13 A16 n17 c18 H14 → ∃ (post20 : Option Addr → Nat → Nat → Heap → Prop), ConT P 108 [.slice A11 (Int.toNat (↑rowsN : Int) - Int.toNat (Int.tdiv
  (↑rowsN : Int) (2 : Int))) (rowsC - Int.toNat (Int.tdiv (↑rowsN : Int) (2 : Int)))] H14 ⟨false, [(false, [.sl])]⟩ post20 ∧ ∀ (H21 : Heap), Heap.le H14 H21 → ∀ (A23 : Option Addr) (n24 c25 :
  Nat), post20 A23 n24 c25 H21 → ∃ (inv27 : Nat → List Value → Int → Int → Heap → Prop), ∃ (m28 : Nat → List Value → Int → Int → Nat), inv27 0 [] (0 : Int) (0 : Int) H21 ∧ ∀ (H29 : Heap),
  Heap.le H21 H29 → ∀ (n31 : Nat) (xs32 : List Value) (n33 n34 : Int), inv27 n31 xs32 n33 n34 H29 → (decide (n33 < (↑n17 : Int)) = true → (decide (n34 = (↑n24 : Int)) = true → someA A16 ∧ (0
  : Int) ≤ n33 ∧ n33 < (↑n17 : Int) ∧ ∃ (A38 : Option Addr), ∃ (n39 : Nat), ∃ (c40 : Nat), ∃ (A41 : Option Addr), ∃ (n42 : Nat), ∃ (c43 : Nat), Cells H29 A16 (Int.toNat n33 * 2) [.slice A38
  n39 c40, .slice A41 n42 c43] ∧ (n31 + 1) * 48 ≤ 140737488355328 ∧ rng .i64 (n33 + (1 : Int)) ∧ inv27 (n31 + 1) (xs32 ++ [.slice A38 n39 c40, .slice A41 n42 c43]) (n33 + (1 : Int)) n34 H29 ∧
  m28 (n31 + 1) (xs32 ++ [.slice A38 n39 c40, .slice A41 n42 c43]) (n33 + (1 : Int)) n34 < m28 n31 xs32 n33 n34) ∧ (decide (n34 = (↑n24 : Int)) = false → (decide (n33 < (↑n17 : Int)) = true →
  someA A23 ∧ (0 : Int) ≤ n34 ∧ n34 < (↑n24 : Int) ∧ ∃ (A46 : Option Addr), ∃ (n47 : Nat), ∃ (c48 : Nat), ∃ (A49 : Option Addr), ∃ (n50 : Nat), ∃ (c51 : Nat), Cells H29 A23 (Int.toNat n34 *
  2) [.slice A46 n47 c48, .slice A49 n50 c51] ∧ someA A16 ∧ (0 : Int) ≤ n33 ∧ n33 < (↑n17 : Int) ∧ ∃ (A52 : Option Addr), ∃ (n53 : Nat), ∃ (c54 : Nat), ∃ (A55 : Option Addr), ∃ (n56 : Nat), ∃
  (c57 : Nat), Cells H29 A16 (Int.toNat n33 * 2) [.slice A52 n53 c54, .slice A55 n56 c57] ∧ ∃ (post58 : Bool → Heap → Prop), ConT P 153 [.agg ⟨[.slice A46 n47 c48, .slice A49 n50 c51]⟩, .agg
  ⟨[.slice A52 n53 c54, .slice A55 n56 c57]⟩] H29 ⟨false, [(false, [.bool])]⟩ post58 ∧ ∀ (H59 : Heap), Heap.le H29 H59 → ∀ (b61 : Bool), post58 b61 H59 → ((!b61) = true → someA A16 ∧ (0 :
  Int) ≤ n33 ∧ n33 < (↑n17 : Int) ∧ ∃ (A64 : Option Addr), ∃ (n65 : Nat), ∃ (c66 : Nat), ∃ (A67 : Option Addr), ∃ (n68 : Nat), ∃ (c69 : Nat), Cells H59 A16 (Int.toNat n33 * 2) [.slice A64 n65
  c66, .slice A67 n68 c69] ∧ (n31 + 1) * 48 ≤ 140737488355328 ∧ rng .i64 (n33 + (1 : Int)) ∧ inv27 (n31 + 1) (xs32 ++ [.slice A64 n65 c66, .slice A67 n68 c69]) (n33 + (1 : Int)) n34 H59 ∧ m28
  (n31 + 1) (xs32 ++ [.slice A64 n65 c66, .slice A67 n68 c69]) (n33 + (1 : Int)) n34 < m28 n31 xs32 n33 n34) ∧ ((!b61) = false → someA A23 ∧ (0 : Int) ≤ n34 ∧ n34 < (↑n24 : Int) ∧ ∃ (A71 :
  Option Addr), ∃ (n72 : Nat), ∃ (c73 : Nat), ∃ (A74 : Option Addr), ∃ (n75 : Nat), ∃ (c76 : Nat), Cells H59 A23 (Int.toNat n34 * 2) [.slice A71 n72 c73, .slice A74 n75 c76] ∧ (n31 + 1) * 48
  ≤ 140737488355328 ∧ rng .i64 (n34 + (1 : Int)) ∧ inv27 (n31 + 1) (xs32 ++ [.slice A71 n72 c73, .slice A74 n75 c76]) n33 (n34 + (1 : Int)) H59 ∧ m28 (n31 + 1) (xs32 ++ [.slice A71 n72 c73,
  .slice A74 n75 c76]) n33 (n34 + (1 : Int)) < m28 n31 xs32 n33 n34)) ∧ (decide (n33 < (↑n17 : Int)) = false → someA A23 ∧ (0 : Int) ≤ n34 ∧ n34 < (↑n24 : Int) ∧ ∃ (A78 : Option Addr), ∃ (n79
  : Nat), ∃ (c80 : Nat), ∃ (A81 : Option Addr), ∃ (n82 : Nat), ∃ (c83 : Nat), Cells H29 A23 (Int.toNat n34 * 2) [.slice A78 n79 c80, .slice A81 n82 c83] ∧ (n31 + 1) * 48 ≤ 140737488355328 ∧
  rng .i64 (n34 + (1 : Int)) ∧ inv27 (n31 + 1) (xs32 ++ [.slice A78 n79 c80, .slice A81 n82 c83]) n33 (n34 + (1 : Int)) H29 ∧ m28 (n31 + 1) (xs32 ++ [.slice A78 n79 c80, .slice A81 n82 c83])
  n33 (n34 + (1 : Int)) < m28 n31 xs32 n33 n34))) ∧ (decide (n33 < (↑n17 : Int)) = false → (decide (n34 < (↑n24 : Int)) = true → (decide (n34 = (↑n24 : Int)) = true → someA A16 ∧ (0 : Int) ≤
  n33 ∧ n33 < (↑n17 : Int) ∧ ∃ (A87 : Option Addr), ∃ (n88 : Nat), ∃ (c89 : Nat), ∃ (A90 : Option Addr), ∃ (n91 : Nat), ∃ (c92 : Nat), Cells H29 A16 (Int.toNat n33 * 2) [.slice A87 n88 c89,
  .slice A90 n91 c92] ∧ (n31 + 1) * 48 ≤ 140737488355328 ∧ rng .i64 (n33 + (1 : Int)) ∧ inv27 (n31 + 1) (xs32 ++ [.slice A87 n88 c89, .slice A90 n91 c92]) (n33 + (1 : Int)) n34 H29 ∧ m28 (n31
  + 1) (xs32 ++ [.slice A87 n88 c89, .slice A90 n91 c92]) (n33 + (1 : Int)) n34 < m28 n31 xs32 n33 n34) ∧ (decide (n34 = (↑n24 : Int)) = false → (decide (n33 < (↑n17 : Int)) = true → someA
  A23 ∧ (0 : Int) ≤ n34 ∧ n34 < (↑n24 : Int) ∧ ∃ (A95 : Option Addr), ∃ (n96 : Nat), ∃ (c97 : Nat), ∃ (A98 : Option Addr), ∃ (n99 : Nat), ∃ (c100 : Nat), Cells H29 A23 (Int.toNat n34 * 2)
  [.slice A95 n96 c97, .slice A98 n99 c100] ∧ someA A16 ∧ (0 : Int) ≤ n33 ∧ n33 < (↑n17 : Int) ∧ ∃ (A101 : Option Addr), ∃ (n102 : Nat), ∃ (c103 : Nat), ∃ (A104 : Option Addr), ∃ (n105 :
  Nat), ∃ (c106 : Nat), Cells H29 A16 (Int.toNat n33 * 2) [.slice A101 n102 c103, .slice A104 n105 c106] ∧ ∃ (post107 : Bool → Heap → Prop), ConT P 153 [.agg ⟨[.slice A95 n96 c97, .slice A98
  n99 c100]⟩, .agg ⟨[.slice A101 n102 c103, .slice A104 n105 c106]⟩] H29 ⟨false, [(false, [.bool])]⟩ post107 ∧ ∀ (H108 : Heap), Heap.le H29 H108 → ∀ (b110 : Bool), post107 b110 H108 →
  ((!b110) = true → someA A16 ∧ (0 : Int) ≤ n33 ∧ n33 < (↑n17 : Int) ∧ ∃ (A113 : Option Addr), ∃ (n114 : Nat), ∃ (c115 : Nat), ∃ (A116 : Option Addr), ∃ (n117 : Nat), ∃ (c118 : Nat), Cells
  H108 A16 (Int.toNat n33 * 2) [.slice A113 n114 c115, .slice A116 n117 c118] ∧ (n31 + 1) * 48 ≤ 140737488355328 ∧ rng .i64 (n33 + (1 : Int)) ∧ inv27 (n31 + 1) (xs32 ++ [.slice A113 n114
  c115, .slice A116 n117 c118]) (n33 + (1 : Int)) n34 H108 ∧ m28 (n31 + 1) (xs32 ++ [.slice A113 n114 c115, .slice A116 n117 c118]) (n33 + (1 : Int)) n34 < m28 n31 xs32 n33 n34) ∧ ((!b110) =
  false → someA A23 ∧ (0 : Int) ≤ n34 ∧ n34 < (↑n24 : Int) ∧ ∃ (A120 : Option Addr), ∃ (n121 : Nat), ∃ (c122 : Nat), ∃ (A123 : Option Addr), ∃ (n124 : Nat), ∃ (c125 : Nat), Cells H108 A23
  (Int.toNat n34 * 2) [.slice A120 n121 c122, .slice A123 n124 c125] ∧ (n31 + 1) * 48 ≤ 140737488355328 ∧ rng .i64 (n34 + (1 : Int)) ∧ inv27 (n31 + 1) (xs32 ++ [.slice A120 n121 c122, .slice
  A123 n124 c125]) n33 (n34 + (1 : Int)) H108 ∧ m28 (n31 + 1) (xs32 ++ [.slice A120 n121 c122, .slice A123 n124 c125]) n33 (n34 + (1 : Int)) < m28 n31 xs32 n33 n34)) ∧ (decide (n33 < (↑n17 :
  Int)) = false → someA A23 ∧ (0 : Int) ≤ n34 ∧ n34 < (↑n24 : Int) ∧ ∃ (A127 : Option Addr), ∃ (n128 : Nat), ∃ (c129 : Nat), ∃ (A130 : Option Addr), ∃ (n131 : Nat), ∃ (c132 : Nat), Cells H29
  A23 (Int.toNat n34 * 2) [.slice A127 n128 c129, .slice A130 n131 c132] ∧ (n31 + 1) * 48 ≤ 140737488355328 ∧ rng .i64 (n34 + (1 : Int)) ∧ inv27 (n31 + 1) (xs32 ++ [.slice A127 n128 c129,
  .slice A130 n131 c132]) n33 (n34 + (1 : Int)) H29 ∧ m28 (n31 + 1) (xs32 ++ [.slice A127 n128 c129, .slice A130 n131 c132]) n33 (n34 + (1 : Int)) < m28 n31 xs32 n33 n34))) ∧ (decide (n34 <
  (↑n24 : Int)) = false → ∀ (A134 : Option Addr) (c135 : Nat) (H136 : Heap), Heap.le H29 H136 → Cells H136 A134 0 xs32 → n31 ≤ c135 → post A134 n31 c135 H136)))) := by kernel_rfl
def SortOK (n : Nat) : Prop := ∀ {H : Heap} {A : Option Addr} {c : Nat} {l : List Rw}, Sl H A n c l →
    ConT Tryz.prog 108 [.slice A n c] H shS (fun A' n' c' H' => ∃ m : List Rw, Sl H' A' n' c' m ∧ m.Perm l ∧ m.Pairwise (leF cmpRw))
set_option maxHeartbeats 1000000 in
theorem ref6_Sort_step {n : Nat} (ih : ∀ k, k < n → SortOK k) : SortOK n := by
  intro H A c l hs
  refine con_of_vc (an := an108) (fn := Tryz.f108) mix tabOK Tryz.func108 (by kernel_rfl) (extra := 1) ?_
  rw [vc108]
  have hl := hs.len; have hcap := hs.cap; have hbn := hs.bn
  have hbd : n * 48 ≤ 140737488355328 := hs.bnd
  refine ⟨fun hlt => ?_, fun hge => ?_⟩
  · have hlt := of_decide_eq_true hlt
    obtain ⟨ys, y1, y2⟩ := hs.row
    refine ⟨ys, y1, by rw [y2.length, hl]; rfl, hs.bnd, fun A2 c2 H2 l2 hc hn' => ⟨l, y2.sl l2 hc hl hn' hs.bnd hs.bn, List.Perm.refl _, ?_⟩⟩
    match l, hl with
    | [], _ => exact List.Pairwise.nil
    | [x], _ => simp
    | x :: y :: r, h => simp at h; omega
  · have hge := of_decide_eq_false hge
    have hdiv : Int.tdiv (n : Int) 2 = ((n / 2 : Nat) : Int) := rfl
    rw [hdiv]
    have hh : 0 < n / 2 ∧ n / 2 < n := by omega
    generalize hhalf : n / 2 = h2 at hh
    refine ⟨by decide, by simp only [rng]; omega, by omega, by omega, by omega, ?_⟩
    rintro _ rfl
    refine ⟨by decide, by simp only [rng]; omega, by omega, by omega, by omega, ?_⟩
    rintro _ rfl
    simp only [Int.toNat_natCast, Int.toNat_zero, Nat.sub_zero]
    have hs1 := hs.sub (j := 0) (k := h2) (by omega) (by omega)
    have hs2 := hs.sub (j := h2) (k := n) (by omega) (by omega)
    rw [List.drop_zero] at hs1
    rw [List.take_of_length_le (by omega)] at hs2
    simp only [Nat.sub_zero] at hs1
    refine ⟨_, ih _ (by omega) hs1, ?_⟩
    rintro H14 l14 A16 n17 c18 ⟨a, ha, hap, has⟩
    refine ⟨_, ih _ (by omega) (hs2.mono l14), ?_⟩
    rintro H21 l21 A23 n24 c25 ⟨b, hb, hbp, hbs⟩
    have ha21 := ha.mono l21
    have hal := ha.len; have hbl := hb.len
    have hsum : a.length + b.length = n := by
      rw [hap.length_eq, hbp.length_eq, List.length_take, List.length_drop]; omega
    refine ⟨fun k xs i j H' => 0 ≤ i ∧ i ≤ n17 ∧ 0 ≤ j ∧ j ≤ n24 ∧ ∃ out : List Rw, Row H' xs out ∧ out.length = k ∧ (k : Int) = i + j ∧ Mrg cmpRw a b out i.toNat j.toNat, fun _ _ i j => (n17 - i.toNat) + (n24 - j.toNat),
      ⟨by omega, by omega, by omega, by omega, [], rfl, rfl, rfl, Mrg.nil⟩, ?_⟩
    rintro H29 l29 k xs i j ⟨i0, i1, j0, j1, out, hr, hrl, hk, hm⟩
    have left : ∀ {HX : Heap}, Heap.le H29 HX → i < n17 → (∀ (hi : i.toNat < a.length), ∀ y ∈ b.drop j.toNat, leF cmpRw a[i.toNat] y) →
        ∃ A38 n39 c40 A41 n42 c43, (someA A16 ∧ 0 ≤ i ∧ i < n17) ∧ Cells HX A16 (i.toNat * 2) [.slice A38 n39 c40, .slice A41 n42 c43] ∧ (k + 1) * 48 ≤ 140737488355328 ∧ rng .i64 (i + 1) ∧
          (0 ≤ i + 1 ∧ i + 1 ≤ n17 ∧ 0 ≤ j ∧ j ≤ n24 ∧ ∃ out : List Rw, Row HX (xs ++ [.slice A38 n39 c40, .slice A41 n42 c43]) out ∧ out.length = k + 1 ∧ ((k + 1 : Nat) : Int) = i + 1 + j ∧ Mrg cmpRw a b out (i + 1).toNat j.toNat) ∧
          (n17 - (i + 1).toNat) + (n24 - j.toNat) < (n17 - i.toNat) + (n24 - j.toNat) := by
      intro HX lX hi hle
      obtain ⟨hi', hA, _, hc, hrel⟩ := (ha21.mono l29).at lX i0 hi
      obtain ⟨A9, n9, c9, B9, m9, d9, rfl, q1, q2⟩ := id hrel
      refine ⟨_, _, _, _, _, _, ⟨hA, i0, hi⟩, hc, by omega, by simp only [rng]; omega, ⟨by omega, by omega, j0, j1, out ++ [a[i.toNat]], (hr.mono lX).append (Row.one hrel), by simp [hrl], by omega, ?_⟩, by omega⟩
      rw [show (i + 1).toNat = i.toNat + 1 by omega]
      exact hm.left cmpRw_ord has hi' (hle hi')
    have right : ∀ {HX : Heap}, Heap.le H29 HX → j < n24 → (∀ (hj : j.toNat < b.length), ∀ y ∈ a.drop i.toNat, leF cmpRw b[j.toNat] y) →
        ∃ A38 n39 c40 A41 n42 c43, (someA A23 ∧ 0 ≤ j ∧ j < n24) ∧ Cells HX A23 (j.toNat * 2) [.slice A38 n39 c40, .slice A41 n42 c43] ∧ (k + 1) * 48 ≤ 140737488355328 ∧ rng .i64 (j + 1) ∧
          (0 ≤ i ∧ i ≤ n17 ∧ 0 ≤ j + 1 ∧ j + 1 ≤ n24 ∧ ∃ out : List Rw, Row HX (xs ++ [.slice A38 n39 c40, .slice A41 n42 c43]) out ∧ out.length = k + 1 ∧ ((k + 1 : Nat) : Int) = i + (j + 1) ∧ Mrg cmpRw a b out i.toNat (j + 1).toNat) ∧
          (n17 - i.toNat) + (n24 - (j + 1).toNat) < (n17 - i.toNat) + (n24 - j.toNat) := by
      intro HX lX hj hle
      obtain ⟨hj', hA, _, hc, hrel⟩ := (hb.mono l29).at lX j0 hj
      obtain ⟨A9, n9, c9, B9, m9, d9, rfl, q1, q2⟩ := id hrel
      refine ⟨_, _, _, _, _, _, ⟨hA, j0, hj⟩, hc, by omega, by simp only [rng]; omega, ⟨i0, i1, by omega, by omega, out ++ [b[j.toNat]], (hr.mono lX).append (Row.one hrel), by simp [hrl], by omega, ?_⟩, by omega⟩
      rw [show (j + 1).toNat = j.toNat + 1 by omega]
      exact hm.right cmpRw_ord hbs hj' (hle hj')
    refine ⟨fun hi => ?_, fun hi => ⟨fun hj => ?_, fun hj => ?_⟩⟩
    · have hi := of_decide_eq_true hi
      refine ⟨fun hj => ?_, fun hj => ⟨fun _ => ?_, fun h => absurd (decide_eq_true hi) (by rw [h]; decide)⟩⟩
      · have hj := of_decide_eq_true hj
        obtain ⟨A1, n1, c1, A2, n2, c2, ⟨p1, p2, p3⟩, p4⟩ := left (hle_refl H29) hi (fun _ y hy => by rw [List.drop_eq_nil_of_le (by omega)] at hy; cases hy)
        exact ⟨p1, p2, p3, A1, n1, c1, A2, n2, c2, p4⟩
      · have hj := of_decide_eq_false hj
        have hj' : j < n24 := by omega
        obtain ⟨ei, hA, _, hc, ⟨A9, n9, c9, B9, m9, d9, rfl, q1, q2⟩⟩ := (ha21.mono l29).at (hle_refl H29) i0 hi
        obtain ⟨ej, hB, _, hd, ⟨A8, n8, c8, B8, m8, d8, rfl, q3, q4⟩⟩ := (hb.mono l29).at (hle_refl H29) j0 hj'
        refine ⟨hB, j0, hj', _, _, _, _, _, _, hd, hA, i0, hi, _, _, _, _, _, _, hc, _, ref6_Less q3 q4 q1 q2, ?_⟩
        rintro H59 l59 _ rfl
        refine ⟨fun hb => ?_, fun hb => ?_⟩
        · have hb : ¬ cmpRw b[j.toNat] a[i.toNat] < 0 := by simpa using hb
          obtain ⟨A1, n1, c1, A2, n2, c2, ⟨p1, p2, p3⟩, p4⟩ := left l59 hi (fun _ => head_le cmpRw_ord hbs ej hb)
          exact ⟨p1, p2, p3, A1, n1, c1, A2, n2, c2, p4⟩
        · have hb : cmpRw b[j.toNat] a[i.toNat] < 0 := by simpa using hb
          obtain ⟨A1, n1, c1, A2, n2, c2, ⟨p1, p2, p3⟩, p4⟩ := right l59 hj' (fun _ => head_le cmpRw_ord has ei (by have := cmpRw_ord.anti b[j.toNat] a[i.toNat]; unfold leF; omega))
          exact ⟨p1, p2, p3, A1, n1, c1, A2, n2, c2, p4⟩
    · have hi := of_decide_eq_false hi; have hj := of_decide_eq_true hj
      refine ⟨fun h => by have := of_decide_eq_true h; omega, fun hj' => ⟨fun h => by have := of_decide_eq_true h; omega, fun _ => ?_⟩⟩
      obtain ⟨A1, n1, c1, A2, n2, c2, ⟨p1, p2, p3⟩, p4⟩ := right (hle_refl H29) hj (fun _ y hy => by rw [List.drop_eq_nil_of_le (by omega)] at hy; cases hy)
      exact ⟨p1, p2, p3, A1, n1, c1, A2, n2, c2, p4⟩
    · have hi := of_decide_eq_false hi; have hj := of_decide_eq_false hj
      intro A4 c4 H4 l4 hc4 hn4
      have hp := hm.perm
      rw [List.take_of_length_le (by omega), List.take_of_length_le (by omega)] at hp
      refine ⟨out, hr.sl l4 hc4 hrl hn4 (by show k * 48 ≤ _; omega) (by omega), hp.trans ?_, hm.sorted⟩
      refine (List.Perm.append hap hbp).trans (List.Perm.of_eq ?_)
      exact List.take_append_drop _ _
theorem ref6_Sort {H : Heap} {A : Option Addr} {n c : Nat} {l : List Rw} (hs : Sl H A n c l) :
    ConT Tryz.prog 108 [.slice A n c] H shS (fun A' n' c' H' => ∃ m : List Rw, Sl H' A' n' c' m ∧ m.Perm l ∧ m.Pairwise (leF cmpRw)) :=
  (Nat.strongRecOn (motive := SortOK) n fun _ ih => ref6_Sort_step ih) hs
end Go.Vc
/- The reference's MergeLineage. -/
namespace Go.Vc
open Go Go.Proofs Go.Shelf
/- ascending without duplicates, the members of p -/
structure InsP (out p : List Int) : Prop where
  asc : out.Pairwise (fun a b => a < b)
  mem : ∀ y, y ∈ out ↔ y ∈ p
  len : out.length ≤ p.length
theorem InsP.nil : InsP [] [] := ⟨List.Pairwise.nil, fun _ => Iff.rfl, Nat.le_refl _⟩
theorem InsP.old {out p : List Int} {x : Int} (h : InsP out p) (hx : x ∈ out) : InsP out (p ++ [x]) := by
  refine ⟨h.asc, fun y => ?_, by have := h.len; simp; omega⟩
  rw [List.mem_append, List.mem_singleton, ← h.mem]
  exact ⟨.inl, fun h => h.elim id (fun e => e ▸ hx)⟩
theorem InsP.ins {out p : List Int} {x : Int} {k : Nat} (h : InsP out p) (hk : k ≤ out.length) (hlt : ∀ y ∈ out.take k, y < x) (hge : ∀ z, out[k]? = some z → x < z) :
    InsP (out.take k ++ [x] ++ out.drop k) (p ++ [x]) := by
  have hall : ∀ y ∈ out.drop k, x < y := by
    intro y hy
    by_cases hk' : k < out.length
    · have hd : out.drop k = out[k] :: out.drop (k + 1) := List.drop_eq_getElem_cons hk'
      have hs := List.Pairwise.sublist (List.drop_sublist k out) h.asc
      rw [hd] at hy hs
      have := hge _ (List.getElem?_eq_getElem hk')
      rcases List.mem_cons.1 hy with rfl | hy
      · exact this
      · have := (List.pairwise_cons.1 hs).1 y hy
        omega
    · rw [List.drop_eq_nil_of_le (by omega)] at hy; cases hy
  refine ⟨?_, fun y => ?_, ?_⟩
  · refine List.pairwise_append.2 ⟨List.pairwise_append.2 ⟨List.Pairwise.sublist (List.take_sublist k out) h.asc, by simp, fun a ha b hb => ?_⟩, List.Pairwise.sublist (List.drop_sublist k out) h.asc, fun a ha b hb => ?_⟩
    · simp at hb; subst hb; exact hlt a ha
    · have := hall b hb
      rcases List.mem_append.1 ha with ha | ha
      · have := hlt a ha; omega
      · simp at ha; subst ha; omega
  · rw [List.mem_append, List.mem_append, List.mem_append, ← h.mem y]
    conv => rhs; rw [← List.take_append_drop k out, List.mem_append]
    constructor
    · rintro ((h | h) | h)
      · exact .inl (.inl h)
      · exact .inr h
      · exact .inl (.inr h)
    · rintro ((h | h) | h)
      · exact .inl (.inl h)
      · exact .inr h
      · exact .inl (.inr h)
  · have := h.len
    simp only [List.length_append, List.length_take, List.length_drop, List.length_cons, List.length_nil]; omega
theorem asc_unique {l m : List Int} (hl : l.Pairwise (fun a b => a < b)) (hm : m.Pairwise (fun a b => a < b)) (h : ∀ y, y ∈ l ↔ y ∈ m) : l = m := by
  have n1 : l.Nodup := hl.imp (fun h => by omega)
  have n2 : m.Nodup := hm.imp (fun h => by omega)
  exact List.Perm.eq_of_pairwise (le := fun a b : Int => a < b) (fun a b _ _ h h' => by omega) hl hm ((List.perm_ext_iff_of_nodup n1 n2).2 h)
theorem mergeLin_asc (a b : List Int) : (mergeLin a b).Pairwise (fun a b => a < b) := compact_asc _ (sortI_asc _)
theorem mergeLin_mem (a b : List Int) (y : Int) : y ∈ mergeLin a b ↔ y ∈ a ∨ y ∈ b := by
  rw [mergeLin, compact_mem, sortI, List.mem_mergeSort, List.mem_append]
theorem InsP.eq {out a b : List Int} (h : InsP out (a ++ b)) : out = mergeLin a b :=
  asc_unique h.asc (mergeLin_asc a b) fun y => by rw [h.mem, mergeLin_mem, List.mem_append]
def mlInv (p : List Int) (A : Option Addr) (n c : Nat) (H : Heap) : Prop := ∃ out, Sl H A n c out ∧ InsP out p
def InsAlt (H24 : Heap) (A33 A35 : Option Addr) (n26 : Int) (n16 : Nat) (n21 : Int) (R : Prop) (K : Option Addr → Nat → Nat → Heap → Prop) : Prop :=
  ∃ (ys37 : List Value), Cells H24 A33 0 ys37 ∧ List.length ys37 = (Int.toNat n26 - Int.toNat (0 : Int)) * 1 ∧ (Int.toNat n26 - Int.toNat (0 : Int)) * 8 ≤ 140737488355328 ∧ (Int.toNat n26 - Int.toNat (0 : Int) + 1) * 8 ≤ 140737488355328 ∧
    ∃ (ys38 : List Value), Cells H24 A35 0 ys38 ∧ List.length ys38 = (Int.toNat (↑n16 : Int) - Int.toNat n26) * 1 ∧ (Int.toNat n26 - Int.toNat (0 : Int) + 1 + (Int.toNat (↑n16 : Int) - Int.toNat n26)) * 8 ≤ 140737488355328 ∧ R ∧
    ∀ (A39 : Option Addr) (c40 : Nat) (H41 : Heap), Heap.le H24 H41 → Cells H41 A39 0 (ys37 ++ [.int .i64 n21] ++ ys38) → Int.toNat n26 - Int.toNat (0 : Int) + 1 + (Int.toNat (↑n16 : Int) - Int.toNat n26) ≤ c40 →
      K A39 (Int.toNat n26 - Int.toNat (0 : Int) + 1 + (Int.toNat (↑n16 : Int) - Int.toNat n26)) c40 H41
def InsF (H : Heap) (A : Option Addr) (n c : Nat) (k x : Int) (R : Prop) (K : Option Addr → Nat → Nat → Heap → Prop) : Prop :=
  (0 : Int) ≤ (0 : Int) ∧ (0 : Int) ≤ k ∧ k ≤ (↑c : Int) ∧ ∀ (A33 : Option Addr), A33 = subA A c (Int.toNat (0 : Int)) 1 → (0 : Int) ≤ k ∧ k ≤ (↑n : Int) ∧ (↑n : Int) ≤ (↑c : Int) ∧ ∀ (A35 : Option Addr), A35 = subA A c (Int.toNat k) 1 →
    InsAlt H A33 A35 k n x R K ∧ InsAlt H A33 A35 k n x R K
theorem insF_ok {H : Heap} {A : Option Addr} {n c : Nat} {k x : Int} {R : Prop} {K : Option Addr → Nat → Nat → Heap → Prop} {out : List Int} (hs : Sl H A n c out) (h0 : 0 ≤ k) (hk : k ≤ n) (hb : (n + 1) * 8 ≤ 140737488355328) (hR : R) (hx : rng .i64 x)
    (hK : ∀ A' m c' H', m = n + 1 → Heap.le H H' → Sl H' A' m c' (out.take k.toNat ++ [x] ++ out.drop k.toNat) → K A' m c' H') : InsF H A n c k x R K := by
  have hl := hs.len; have hc := hs.cap
  refine ⟨by omega, h0, by omega, ?_⟩
  rintro _ rfl
  refine ⟨h0, hk, by omega, ?_⟩
  rintro _ rfl
  have s1 := hs.sub (j := 0) (k := k.toNat) (by omega) (by omega)
  have s2 := hs.sub (j := k.toNat) (k := n) (by omega) (by omega)
  rw [List.drop_zero] at s1
  rw [List.take_of_length_le (by omega)] at s2
  obtain ⟨ys1, u1, u2⟩ := s1.row
  obtain ⟨ys2, v1, v2⟩ := s2.row
  have e1 : Int.toNat k - Int.toNat (0 : Int) + 1 + (Int.toNat (↑n : Int) - Int.toNat k) = n + 1 := by simp; omega
  have key : InsAlt H (subA A c (Int.toNat (0 : Int)) 1) (subA A c (Int.toNat k) 1) k n x R K := by
    refine ⟨ys1, u1, ?_, ?_, ?_, ys2, v1, ?_, ?_, hR, fun A' c' H' l hc' hn' => hK _ _ _ _ e1 l ?_⟩
    · rw [u2.length, List.length_take]; simp; show _ * 1 = _; omega
    · simp; omega
    · simp; omega
    · rw [v2.length, List.length_drop]; simp; show _ * 1 = _; omega
    · rw [e1]; exact hb
    · refine Row.sl (H := H) ((u2.append (Row.one ⟨rfl, hx⟩)).append v2) l hc' ?_ hn' ?_ ?_
      · rw [e1]; simp; omega
      · rw [e1]; exact hb
      · rw [e1]; omega
  exact ⟨key, key⟩
def MLT (inv11 : Option Addr → Nat → Nat → Int → Heap → Prop) (m12 : Option Addr → Nat → Nat → Int → Nat) (H24 : Heap) (A15 : Option Addr) (n16 c17 : Nat) (n18 n21 n26 : Int) : Prop :=
  (decide (n26 = (↑n16 : Int)) = true → InsF H24 A15 n16 c17 n26 n21 (rng .i64 (n18 + 1)) fun A m c H' => inv11 A m c (n18 + 1) H' ∧ m12 A m c (n18 + 1) < m12 A15 n16 c17 n18) ∧
  (decide (n26 = (↑n16 : Int)) = false → someA A15 ∧ (0 : Int) ≤ n26 ∧ n26 < (↑n16 : Int) ∧ ∃ (n54 : Int), Cells H24 A15 (Int.toNat n26 * 1) [.int .i64 n54] ∧
    ((!decide (n54 = n21)) = true → InsF H24 A15 n16 c17 n26 n21 (rng .i64 (n18 + 1)) fun A m c H' => inv11 A m c (n18 + 1) H' ∧ m12 A m c (n18 + 1) < m12 A15 n16 c17 n18) ∧
    ((!decide (n54 = n21)) = false → rng .i64 (n18 + (1 : Int)) ∧ inv11 A15 n16 c17 (n18 + (1 : Int)) H24 ∧ m12 A15 n16 c17 (n18 + (1 : Int)) < m12 A15 n16 c17 n18))
def MLI (H2 : Heap) (aA : Option Addr) (aN : Nat) (A4 : Option Addr) (n5 c6 : Nat) (K : Option Addr → Nat → Nat → Heap → Prop) : Prop :=
  ∃ (inv11 : Option Addr → Nat → Nat → Int → Heap → Prop), ∃ (m12 : Option Addr → Nat → Nat → Int → Nat), inv11 A4 n5 c6 (0 : Int) H2 ∧ ∀ (H13 : Heap), Heap.le H2 H13 → ∀ (A15 : Option Addr) (n16 c17 : Nat) (n18 : Int), inv11 A15 n16 c17 n18 H13 →
    (decide (n18 < (↑aN : Int)) = true → someA aA ∧ (0 : Int) ≤ n18 ∧ n18 < (↑aN : Int) ∧ ∃ (n21 : Int), Cells H13 aA (Int.toNat n18 * 1) [.int .i64 n21] ∧ ∃ (inv22 : Int → Heap → Prop), ∃ (m23 : Int → Nat), inv22 (0 : Int) H13 ∧
      ∀ (H24 : Heap), Heap.le H13 H24 → ∀ (n26 : Int), inv22 n26 H24 →
        (decide (n26 < (↑n16 : Int)) = true → someA A15 ∧ (0 : Int) ≤ n26 ∧ n26 < (↑n16 : Int) ∧ ∃ (n29 : Int), Cells H24 A15 (Int.toNat n26 * 1) [.int .i64 n29] ∧
          (decide (n29 < n21) = true → rng .i64 (n26 + (1 : Int)) ∧ inv22 (n26 + (1 : Int)) H24 ∧ m23 (n26 + (1 : Int)) < m23 n26) ∧ (decide (n29 < n21) = false → MLT inv11 m12 H24 A15 n16 c17 n18 n21 n26)) ∧
        (decide (n26 < (↑n16 : Int)) = false → MLT inv11 m12 H24 A15 n16 c17 n18 n21 n26)) ∧
    (decide (n18 < (↑aN : Int)) = false → K A15 n16 c17 H13)
theorem mli {H H2 : Heap} {aA : Option Addr} {aN aC : Nat} {a p : List Int} (hs : Sl H aA aN aC a) (hle : Heap.le H H2) (hb : (p.length + aN) * 8 ≤ 140737488355328) {A4 : Option Addr} {n5 c6 : Nat} (h : mlInv p A4 n5 c6 H2)
    {K : Option Addr → Nat → Nat → Heap → Prop} (hK : ∀ A n c H', Heap.le H2 H' → mlInv (p ++ a) A n c H' → K A n c H') : MLI H2 aA aN A4 n5 c6 K := by
  have hal := hs.len
  refine ⟨fun A n c j H' => 0 ≤ j ∧ j ≤ aN ∧ mlInv (p ++ a.take j.toNat) A n c H', fun _ _ _ j => aN - j.toNat, ⟨by omega, by omega, by simpa using h⟩, ?_⟩
  rintro H13 l13 A15 n16 c17 j ⟨j0, j1, out, ho, hi⟩
  have hol := ho.len
  have hil := hi.len
  rw [List.length_append, List.length_take] at hil
  refine ⟨fun hlt => ?_, fun hge => ?_⟩
  · have hlt := of_decide_eq_true hlt
    obtain ⟨hj, hA, _, hc, ⟨rfl, hx⟩⟩ := hs.at (hle_trans hle l13) j0 hlt
    have hsu : p ++ a.take (j + 1).toNat = (p ++ a.take j.toNat) ++ [a[j.toNat]] := by
      rw [show (j + 1).toNat = j.toNat + 1 by omega, List.take_succ_eq_append_getElem hj, List.append_assoc]
    generalize a[j.toNat] = x at hc hx hsu
    refine ⟨hA, j0, hlt, x, hc, fun k _ => 0 ≤ k ∧ k ≤ n16 ∧ ∀ y ∈ out.take k.toNat, y < x, fun k => n16 - k.toNat, ⟨by omega, by omega, by simp⟩, ?_⟩
    rintro H24 l24 k ⟨k0, k1, hbel⟩
    have ho24 := ho.mono l24
    have ins : (∀ z, out[k.toNat]? = some z → x < z) → InsF H24 A15 n16 c17 k x (rng .i64 (j + 1)) fun A m c H' => (0 ≤ j + 1 ∧ j + 1 ≤ aN ∧ mlInv (p ++ a.take (j + 1).toNat) A m c H') ∧ aN - (j + 1).toNat < aN - j.toNat := by
      have hins := hi.ins (x := x) (k := k.toNat) (by omega) hbel
      intro hge
      have hins := hins hge
      clear hge
      refine insF_ok ho24 k0 k1 (by omega) (by simp only [rng]; omega) hx ?_
      rintro A' m c' H' - l' hs'
      refine ⟨⟨by omega, by omega, _, hs', ?_⟩, by omega⟩
      rw [hsu]
      exact hins
    have tail : (∀ z, out[k.toNat]? = some z → x ≤ z) → MLT (fun A n c j H' => 0 ≤ j ∧ j ≤ aN ∧ mlInv (p ++ a.take j.toNat) A n c H') (fun _ _ _ j => aN - j.toNat) H24 A15 n16 c17 j x k := by
      intro hge
      refine ⟨fun he => ins fun z hz => ?_, fun he => ?_⟩
      · have he := of_decide_eq_true he
        rw [List.getElem?_eq_none (by omega)] at hz; cases hz
      · have he := of_decide_eq_false he
        have hkn0 : k < n16 := by omega
        obtain ⟨hk, hB, _, hd, ⟨rfl, hx'⟩⟩ := ho.at l24 k0 hkn0
        have hg := hge _ (List.getElem?_eq_getElem hk)
        have hkn : k < n16 := by omega
        refine ⟨hB, k0, hkn, _, hd, fun hne => ?_, fun heq => ⟨by simp only [rng]; omega, ⟨by omega, by omega, out, ho24, ?_⟩, by dsimp only; omega⟩⟩
        · have hne : ¬ out[k.toNat] = x := by simpa using hne
          have hlt' : x < out[k.toNat] := by omega
          exact ins fun z hz => by rw [List.getElem?_eq_getElem hk] at hz; cases hz; exact hlt'
        · have heq : out[k.toNat] = x := by simpa using heq
          rw [hsu]
          exact hi.old (heq ▸ List.getElem_mem hk)
    refine ⟨fun hlk => ?_, fun hgk => ?_⟩
    · have hlk := of_decide_eq_true hlk
      obtain ⟨hk, hB, _, hd, ⟨rfl, hx'⟩⟩ := ho.at l24 k0 hlk
      refine ⟨hB, k0, hlk, _, hd, fun h1 => ⟨by simp only [rng]; omega, ⟨by omega, by omega, ?_⟩, by dsimp only; omega⟩, fun h1 => ?_⟩
      · have h1 := of_decide_eq_true h1
        rw [show (k + 1).toNat = k.toNat + 1 by omega, List.take_succ_eq_append_getElem hk]
        intro y hy
        rcases List.mem_append.1 hy with hy | hy
        · exact hbel y hy
        · simp at hy; subst hy; exact h1
      · have h1 := of_decide_eq_false h1
        have h2 : x ≤ out[k.toNat] := by omega
        exact tail fun z hz => by rw [List.getElem?_eq_getElem hk] at hz; cases hz; exact h2
    · have hgk := of_decide_eq_false hgk
      have h2 : ¬ k.toNat < out.length := by omega
      exact tail fun z hz => by rw [List.getElem?_eq_none (by omega)] at hz; cases hz
  · have hge := of_decide_eq_false hge
    rw [List.take_of_length_le (by omega)] at hi
    exact hK _ _ _ _ l13 ⟨out, ho, hi⟩
def an55 : Ann where
  res := fun _ => none
  lend := fun _ => false
  sch := fun | 12 => (tk [0, 1, 2, 4, 7, 8, 9] (.alt 3 (.alt 5 (.alt 6 (.alt 10 (tk [11] .done) .fin) .fin) .fin) (.alt 5 (.alt 3 (.alt 6 (.alt 10 (tk [11] .done) .fin) .fin) .fin) .fin))) | _ => .done
  lt := fun | 3 => [.slot 5 false [.sl], .slot 14 false [.int .i64]] | 6 => [.slot 5 false [.sl], .slot 19 false [.int .i64]] | 9 => [.slot 10 false [.int .i64]] | _ => []
  tup := tups

theorem vc55 (P : Program) (H : Heap) (aA : Option Addr) (aN aC : Nat) (bA : Option Addr) (bN bC : Nat) (post : Option Addr → Nat → Nat → Heap → Prop) :
  vcFn P tab an55 Tryz.f55 [.slice aA aN aC, .slice bA bN bC] 0 H ⟨false, [(false, [.sl])]⟩ post =
  (  ∃ (inv0 : Option Addr → Nat → Nat → Int → Heap → Prop), ∃ (m1 : Option Addr → Nat → Nat → Int → Nat), inv0 none 0 0 (0 : Int) H ∧ ∀ (H2 : Heap), Heap.le H H2 → ∀ (A4 : Option Addr) (n5 c6 :
  Nat) (n7 : Int), inv0 A4 n5 c6 n7 H2 → (decide (n7 < (2 : Int)) = true → (0 : Int) ≤ n7 ∧ n7 < (↑2 : Int) ∧ (n7 = (↑0 : Int) → ∃ (inv11 : Option Addr → Nat → Nat → Int → Heap → Prop), ∃
  (m12 : Option Addr → Nat → Nat → Int → Nat), inv11 A4 n5 c6 (0 : Int) H2 ∧ ∀ (H13 : Heap), Heap.le H2 H13 → ∀ (A15 : Option Addr) (n16 c17 : Nat) (n18 : Int), inv11 A15 n16 c17 n18 H13 →
  (decide (n18 < (↑aN : Int)) = true → someA aA ∧ (0 : Int) ≤ n18 ∧ n18 < (↑aN : Int) ∧ ∃ (n21 : Int), Cells H13 aA (Int.toNat n18 * 1) [.int .i64 n21] ∧ ∃ (inv22 : Int → Heap → Prop), ∃ (m23
  : Int → Nat), inv22 (0 : Int) H13 ∧ ∀ (H24 : Heap), Heap.le H13 H24 → ∀ (n26 : Int), inv22 n26 H24 → (decide (n26 < (↑n16 : Int)) = true → someA A15 ∧ (0 : Int) ≤ n26 ∧ n26 < (↑n16 : Int) ∧
  ∃ (n29 : Int), Cells H24 A15 (Int.toNat n26 * 1) [.int .i64 n29] ∧ (decide (n29 < n21) = true → rng .i64 (n26 + (1 : Int)) ∧ inv22 (n26 + (1 : Int)) H24 ∧ m23 (n26 + (1 : Int)) < m23 n26) ∧
  (decide (n29 < n21) = false → (decide (n26 = (↑n16 : Int)) = true → (0 : Int) ≤ (0 : Int) ∧ (0 : Int) ≤ n26 ∧ n26 ≤ (↑c17 : Int) ∧ ∀ (A33 : Option Addr), A33 = subA A15 c17 (Int.toNat (0 :
  Int)) 1 → (0 : Int) ≤ n26 ∧ n26 ≤ (↑n16 : Int) ∧ (↑n16 : Int) ≤ (↑c17 : Int) ∧ ∀ (A35 : Option Addr), A35 = subA A15 c17 (Int.toNat n26) 1 → (∃ (ys37 : List Value), Cells H24 A33 0 ys37 ∧
  List.length ys37 = (Int.toNat n26 - Int.toNat (0 : Int)) * 1 ∧ (Int.toNat n26 - Int.toNat (0 : Int)) * 8 ≤ 140737488355328 ∧ (Int.toNat n26 - Int.toNat (0 : Int) + 1) * 8 ≤ 140737488355328
  ∧ ∃ (ys38 : List Value), Cells H24 A35 0 ys38 ∧ List.length ys38 = (Int.toNat (↑n16 : Int) - Int.toNat n26) * 1 ∧ (Int.toNat n26 - Int.toNat (0 : Int) + 1 + (Int.toNat (↑n16 : Int) -
  Int.toNat n26)) * 8 ≤ 140737488355328 ∧ rng .i64 (n18 + (1 : Int)) ∧ ∀ (A39 : Option Addr) (c40 : Nat) (H41 : Heap), Heap.le H24 H41 → Cells H41 A39 0 (ys37 ++ [.int .i64 n21] ++ ys38) →
  Int.toNat n26 - Int.toNat (0 : Int) + 1 + (Int.toNat (↑n16 : Int) - Int.toNat n26) ≤ c40 → inv11 A39 (Int.toNat n26 - Int.toNat (0 : Int) + 1 + (Int.toNat (↑n16 : Int) - Int.toNat n26)) c40
  (n18 + (1 : Int)) H41 ∧ m12 A39 (Int.toNat n26 - Int.toNat (0 : Int) + 1 + (Int.toNat (↑n16 : Int) - Int.toNat n26)) c40 (n18 + (1 : Int)) < m12 A15 n16 c17 n18) ∧ ∃ (ys45 : List Value),
  Cells H24 A33 0 ys45 ∧ List.length ys45 = (Int.toNat n26 - Int.toNat (0 : Int)) * 1 ∧ (Int.toNat n26 - Int.toNat (0 : Int)) * 8 ≤ 140737488355328 ∧ (Int.toNat n26 - Int.toNat (0 : Int) + 1)
  * 8 ≤ 140737488355328 ∧ ∃ (ys46 : List Value), Cells H24 A35 0 ys46 ∧ List.length ys46 = (Int.toNat (↑n16 : Int) - Int.toNat n26) * 1 ∧ (Int.toNat n26 - Int.toNat (0 : Int) + 1 + (Int.toNat
  (↑n16 : Int) - Int.toNat n26)) * 8 ≤ 140737488355328 ∧ rng .i64 (n18 + (1 : Int)) ∧ ∀ (A47 : Option Addr) (c48 : Nat) (H49 : Heap), Heap.le H24 H49 → Cells H49 A47 0 (ys45 ++ [.int .i64
  n21] ++ ys46) → Int.toNat n26 - Int.toNat (0 : Int) + 1 + (Int.toNat (↑n16 : Int) - Int.toNat n26) ≤ c48 → inv11 A47 (Int.toNat n26 - Int.toNat (0 : Int) + 1 + (Int.toNat (↑n16 : Int) -
  Int.toNat n26)) c48 (n18 + (1 : Int)) H49 ∧ m12 A47 (Int.toNat n26 - Int.toNat (0 : Int) + 1 + (Int.toNat (↑n16 : Int) - Int.toNat n26)) c48 (n18 + (1 : Int)) < m12 A15 n16 c17 n18) ∧
  (decide (n26 = (↑n16 : Int)) = false → someA A15 ∧ (0 : Int) ≤ n26 ∧ n26 < (↑n16 : Int) ∧ ∃ (n54 : Int), Cells H24 A15 (Int.toNat n26 * 1) [.int .i64 n54] ∧ ((!decide (n54 = n21)) = true →
  (0 : Int) ≤ (0 : Int) ∧ (0 : Int) ≤ n26 ∧ n26 ≤ (↑c17 : Int) ∧ ∀ (A56 : Option Addr), A56 = subA A15 c17 (Int.toNat (0 : Int)) 1 → (0 : Int) ≤ n26 ∧ n26 ≤ (↑n16 : Int) ∧ (↑n16 : Int) ≤
  (↑c17 : Int) ∧ ∀ (A58 : Option Addr), A58 = subA A15 c17 (Int.toNat n26) 1 → (∃ (ys60 : List Value), Cells H24 A56 0 ys60 ∧ List.length ys60 = (Int.toNat n26 - Int.toNat (0 : Int)) * 1 ∧
  (Int.toNat n26 - Int.toNat (0 : Int)) * 8 ≤ 140737488355328 ∧ (Int.toNat n26 - Int.toNat (0 : Int) + 1) * 8 ≤ 140737488355328 ∧ ∃ (ys61 : List Value), Cells H24 A58 0 ys61 ∧ List.length
  ys61 = (Int.toNat (↑n16 : Int) - Int.toNat n26) * 1 ∧ (Int.toNat n26 - Int.toNat (0 : Int) + 1 + (Int.toNat (↑n16 : Int) - Int.toNat n26)) * 8 ≤ 140737488355328 ∧ rng .i64 (n18 + (1 : Int))
  ∧ ∀ (A62 : Option Addr) (c63 : Nat) (H64 : Heap), Heap.le H24 H64 → Cells H64 A62 0 (ys60 ++ [.int .i64 n21] ++ ys61) → Int.toNat n26 - Int.toNat (0 : Int) + 1 + (Int.toNat (↑n16 : Int) -
  Int.toNat n26) ≤ c63 → inv11 A62 (Int.toNat n26 - Int.toNat (0 : Int) + 1 + (Int.toNat (↑n16 : Int) - Int.toNat n26)) c63 (n18 + (1 : Int)) H64 ∧ m12 A62 (Int.toNat n26 - Int.toNat (0 :
  Int) + 1 + (Int.toNat (↑n16 : Int) - Int.toNat n26)) c63 (n18 + (1 : Int)) < m12 A15 n16 c17 n18) ∧ ∃ (ys68 : List Value), Cells H24 A56 0 ys68 ∧ List.length ys68 = (Int.toNat n26 -
  Int.toNat (0 : Int)) * 1 ∧ (Int.toNat n26 - Int.toNat (0 : Int)) * 8 ≤ 140737488355328 ∧ (Int.toNat n26 - Int.toNat (0 : Int) + 1) * 8 ≤ 140737488355328 ∧ ∃ (ys69 : List Value), Cells H24
  A58 0 ys69 ∧ List.length ys69 = (Int.toNat (↑n16 : Int) - Int.toNat n26) * 1 ∧ (Int.toNat n26 - Int.toNat (0 : Int) + 1 + (Int.toNat (↑n16 : Int) - Int.toNat n26)) * 8 ≤ 140737488355328 ∧
  rng .i64 (n18 + (1 : Int)) ∧ ∀ (A70 : Option Addr) (c71 : Nat) (H72 : Heap), Heap.le H24 H72 → Cells H72 A70 0 (ys68 ++ [.int .i64 n21] ++ ys69) → Int.toNat n26 - Int.toNat (0 : Int) + 1 +
  (Int.toNat (↑n16 : Int) - Int.toNat n26) ≤ c71 → inv11 A70 (Int.toNat n26 - Int.toNat (0 : Int) + 1 + (Int.toNat (↑n16 : Int) - Int.toNat n26)) c71 (n18 + (1 : Int)) H72 ∧ m12 A70
  (Int.toNat n26 - Int.toNat (0 : Int) + 1 + (Int.toNat (↑n16 : Int) - Int.toNat n26)) c71 (n18 + (1 : Int)) < m12 A15 n16 c17 n18) ∧ ((!decide (n54 = n21)) = false → rng .i64 (n18 + (1 :
  Int)) ∧ inv11 A15 n16 c17 (n18 + (1 : Int)) H24 ∧ m12 A15 n16 c17 (n18 + (1 : Int)) < m12 A15 n16 c17 n18)))) ∧ (decide (n26 < (↑n16 : Int)) = false → (decide (n26 = (↑n16 : Int)) = true →
  (0 : Int) ≤ (0 : Int) ∧ (0 : Int) ≤ n26 ∧ n26 ≤ (↑c17 : Int) ∧ ∀ (A79 : Option Addr), A79 = subA A15 c17 (Int.toNat (0 : Int)) 1 → (0 : Int) ≤ n26 ∧ n26 ≤ (↑n16 : Int) ∧ (↑n16 : Int) ≤
  (↑c17 : Int) ∧ ∀ (A81 : Option Addr), A81 = subA A15 c17 (Int.toNat n26) 1 → (∃ (ys83 : List Value), Cells H24 A79 0 ys83 ∧ List.length ys83 = (Int.toNat n26 - Int.toNat (0 : Int)) * 1 ∧
  (Int.toNat n26 - Int.toNat (0 : Int)) * 8 ≤ 140737488355328 ∧ (Int.toNat n26 - Int.toNat (0 : Int) + 1) * 8 ≤ 140737488355328 ∧ ∃ (ys84 : List Value), Cells H24 A81 0 ys84 ∧ List.length
  ys84 = (Int.toNat (↑n16 : Int) - Int.toNat n26) * 1 ∧ (Int.toNat n26 - Int.toNat (0 : Int) + 1 + (Int.toNat (↑n16 : Int) - Int.toNat n26)) * 8 ≤ 140737488355328 ∧ rng .i64 (n18 + (1 : Int))
  ∧ ∀ (A85 : Option Addr) (c86 : Nat) (H87 : Heap), Heap.le H24 H87 → Cells H87 A85 0 (ys83 ++ [.int .i64 n21] ++ ys84) → Int.toNat n26 - Int.toNat (0 : Int) + 1 + (Int.toNat (↑n16 : Int) -
  Int.toNat n26) ≤ c86 → inv11 A85 (Int.toNat n26 - Int.toNat (0 : Int) + 1 + (Int.toNat (↑n16 : Int) - Int.toNat n26)) c86 (n18 + (1 : Int)) H87 ∧ m12 A85 (Int.toNat n26 - Int.toNat (0 :
  Int) + 1 + (Int.toNat (↑n16 : Int) - Int.toNat n26)) c86 (n18 + (1 : Int)) < m12 A15 n16 c17 n18) ∧ ∃ (ys91 : List Value), Cells H24 A79 0 ys91 ∧ List.length ys91 = (Int.toNat n26 -
  Int.toNat (0 : Int)) * 1 ∧ (Int.toNat n26 - Int.toNat (0 : Int)) * 8 ≤ 140737488355328 ∧ (Int.toNat n26 - Int.toNat (0 : Int) + 1) * 8 ≤ 140737488355328 ∧ ∃ (ys92 : List Value), Cells H24
  A81 0 ys92 ∧ List.length ys92 = (Int.toNat (↑n16 : Int) - Int.toNat n26) * 1 ∧ (Int.toNat n26 - Int.toNat (0 : Int) + 1 + (Int.toNat (↑n16 : Int) - Int.toNat n26)) * 8 ≤ 140737488355328 ∧
  rng .i64 (n18 + (1 : Int)) ∧ ∀ (A93 : Option Addr) (c94 : Nat) (H95 : Heap), Heap.le H24 H95 → Cells H95 A93 0 (ys91 ++ [.int .i64 n21] ++ ys92) → Int.toNat n26 - Int.toNat (0 : Int) + 1 +
  (Int.toNat (↑n16 : Int) - Int.toNat n26) ≤ c94 → inv11 A93 (Int.toNat n26 - Int.toNat (0 : Int) + 1 + (Int.toNat (↑n16 : Int) - Int.toNat n26)) c94 (n18 + (1 : Int)) H95 ∧ m12 A93
  (Int.toNat n26 - Int.toNat (0 : Int) + 1 + (Int.toNat (↑n16 : Int) - Int.toNat n26)) c94 (n18 + (1 : Int)) < m12 A15 n16 c17 n18) ∧ (decide (n26 = (↑n16 : Int)) = false → someA A15 ∧ (0 :
  Int) ≤ n26 ∧ n26 < (↑n16 : Int) ∧ ∃ (n100 : Int), Cells H24 A15 (Int.toNat n26 * 1) [.int .i64 n100] ∧ ((!decide (n100 = n21)) = true → (0 : Int) ≤ (0 : Int) ∧ (0 : Int) ≤ n26 ∧ n26 ≤ (↑c17
  : Int) ∧ ∀ (A102 : Option Addr), A102 = subA A15 c17 (Int.toNat (0 : Int)) 1 → (0 : Int) ≤ n26 ∧ n26 ≤ (↑n16 : Int) ∧ (↑n16 : Int) ≤ (↑c17 : Int) ∧ ∀ (A104 : Option Addr), A104 = subA A15
  c17 (Int.toNat n26) 1 → (∃ (ys106 : List Value), Cells H24 A102 0 ys106 ∧ List.length ys106 = (Int.toNat n26 - Int.toNat (0 : Int)) * 1 ∧ (Int.toNat n26 - Int.toNat (0 : Int)) * 8 ≤
  140737488355328 ∧ (Int.toNat n26 - Int.toNat (0 : Int) + 1) * 8 ≤ 140737488355328 ∧ ∃ (ys107 : List Value), Cells H24 A104 0 ys107 ∧ List.length ys107 = (Int.toNat (↑n16 : Int) - Int.toNat
  n26) * 1 ∧ (Int.toNat n26 - Int.toNat (0 : Int) + 1 + (Int.toNat (↑n16 : Int) - Int.toNat n26)) * 8 ≤ 140737488355328 ∧ rng .i64 (n18 + (1 : Int)) ∧ ∀ (A108 : Option Addr) (c109 : Nat)
  (H110 : Heap), Heap.le H24 H110 → Cells H110 A108 0 (ys106 ++ [.int .i64 n21] ++ ys107) → Int.toNat n26 - Int.toNat (0 : Int) + 1 + (Int.toNat (↑n16 : Int) - Int.toNat n26) ≤ c109 → inv11
  A108 (Int.toNat n26 - Int.toNat (0 : Int) + 1 + (Int.toNat (↑n16 : Int) - Int.toNat n26)) c109 (n18 + (1 : Int)) H110 ∧ m12 A108 (Int.toNat n26 - Int.toNat (0 : Int) + 1 + (Int.toNat (↑n16
  : Int) - Int.toNat n26)) c109 (n18 + (1 : Int)) < m12 A15 n16 c17 n18) ∧ ∃ (ys114 : List Value), Cells H24 A102 0 ys114 ∧ List.length ys114 = (Int.toNat n26 - Int.toNat (0 : Int)) * 1 ∧
  (Int.toNat n26 - Int.toNat (0 : Int)) * 8 ≤ 140737488355328 ∧ (Int.toNat n26 - Int.toNat (0 : Int) + 1) * 8 ≤ 140737488355328 ∧ ∃ (ys115 : List Value), Cells H24 A104 0 ys115 ∧ List.length
  ys115 = (Int.toNat (↑n16 : Int) - Int.toNat n26) * 1 ∧ (Int.toNat n26 - Int.toNat (0 : Int) + 1 + (Int.toNat (↑n16 : Int) - Int.toNat n26)) * 8 ≤ 140737488355328 ∧ rng .i64 (n18 + (1 :
  Int)) ∧ ∀ (A116 : Option Addr) (c117 : Nat) (H118 : Heap), Heap.le H24 H118 → Cells H118 A116 0 (ys114 ++ [.int .i64 n21] ++ ys115) → Int.toNat n26 - Int.toNat (0 : Int) + 1 + (Int.toNat
  (↑n16 : Int) - Int.toNat n26) ≤ c117 → inv11 A116 (Int.toNat n26 - Int.toNat (0 : Int) + 1 + (Int.toNat (↑n16 : Int) - Int.toNat n26)) c117 (n18 + (1 : Int)) H118 ∧ m12 A116 (Int.toNat n26
  - Int.toNat (0 : Int) + 1 + (Int.toNat (↑n16 : Int) - Int.toNat n26)) c117 (n18 + (1 : Int)) < m12 A15 n16 c17 n18) ∧ ((!decide (n100 = n21)) = false → rng .i64 (n18 + (1 : Int)) ∧ inv11
  A15 n16 c17 (n18 + (1 : Int)) H24 ∧ m12 A15 n16 c17 (n18 + (1 : Int)) < m12 A15 n16 c17 n18)))) ∧ (decide (n18 < (↑aN : Int)) = false → rng .i64 (n7 + (1 : Int)) ∧ inv0 A15 n16 c17 (n7 + (1
  : Int)) H13 ∧ m1 A15 n16 c17 (n7 + (1 : Int)) < m1 A4 n5 c6 n7)) ∧ (n7 = (↑1 : Int) → ∃ (inv125 : Option Addr → Nat → Nat → Int → Heap → Prop), ∃ (m126 : Option Addr → Nat → Nat → Int →
  Nat), inv125 A4 n5 c6 (0 : Int) H2 ∧ ∀ (H127 : Heap), Heap.le H2 H127 → ∀ (A129 : Option Addr) (n130 c131 : Nat) (n132 : Int), inv125 A129 n130 c131 n132 H127 → (decide (n132 < (↑bN : Int))
  = true → someA bA ∧ (0 : Int) ≤ n132 ∧ n132 < (↑bN : Int) ∧ ∃ (n135 : Int), Cells H127 bA (Int.toNat n132 * 1) [.int .i64 n135] ∧ ∃ (inv136 : Int → Heap → Prop), ∃ (m137 : Int → Nat),
  inv136 (0 : Int) H127 ∧ ∀ (H138 : Heap), Heap.le H127 H138 → ∀ (n140 : Int), inv136 n140 H138 → (decide (n140 < (↑n130 : Int)) = true → someA A129 ∧ (0 : Int) ≤ n140 ∧ n140 < (↑n130 : Int)
  ∧ ∃ (n143 : Int), Cells H138 A129 (Int.toNat n140 * 1) [.int .i64 n143] ∧ (decide (n143 < n135) = true → rng .i64 (n140 + (1 : Int)) ∧ inv136 (n140 + (1 : Int)) H138 ∧ m137 (n140 + (1 :
  Int)) < m137 n140) ∧ (decide (n143 < n135) = false → (decide (n140 = (↑n130 : Int)) = true → (0 : Int) ≤ (0 : Int) ∧ (0 : Int) ≤ n140 ∧ n140 ≤ (↑c131 : Int) ∧ ∀ (A147 : Option Addr), A147 =
  subA A129 c131 (Int.toNat (0 : Int)) 1 → (0 : Int) ≤ n140 ∧ n140 ≤ (↑n130 : Int) ∧ (↑n130 : Int) ≤ (↑c131 : Int) ∧ ∀ (A149 : Option Addr), A149 = subA A129 c131 (Int.toNat n140) 1 → (∃
  (ys151 : List Value), Cells H138 A147 0 ys151 ∧ List.length ys151 = (Int.toNat n140 - Int.toNat (0 : Int)) * 1 ∧ (Int.toNat n140 - Int.toNat (0 : Int)) * 8 ≤ 140737488355328 ∧ (Int.toNat
  n140 - Int.toNat (0 : Int) + 1) * 8 ≤ 140737488355328 ∧ ∃ (ys152 : List Value), Cells H138 A149 0 ys152 ∧ List.length ys152 = (Int.toNat (↑n130 : Int) - Int.toNat n140) * 1 ∧ (Int.toNat
  n140 - Int.toNat (0 : Int) + 1 + (Int.toNat (↑n130 : Int) - Int.toNat n140)) * 8 ≤ 140737488355328 ∧ rng .i64 (n132 + (1 : Int)) ∧ ∀ (A153 : Option Addr) (c154 : Nat) (H155 : Heap), Heap.le
  H138 H155 → Cells H155 A153 0 (ys151 ++ [.int .i64 n135] ++ ys152) → Int.toNat n140 - Int.toNat (0 : Int) + 1 + (Int.toNat (↑n130 : Int) - Int.toNat n140) ≤ c154 → inv125 A153 (Int.toNat
  n140 - Int.toNat (0 : Int) + 1 + (Int.toNat (↑n130 : Int) - Int.toNat n140)) c154 (n132 + (1 : Int)) H155 ∧ m126 A153 (Int.toNat n140 - Int.toNat (0 : Int) + 1 + (Int.toNat (↑n130 : Int) -
  Int.toNat n140)) c154 (n132 + (1 : Int)) < m126 A129 n130 c131 n132) ∧ ∃ (ys159 : List Value), Cells H138 A147 0 ys159 ∧ List.length ys159 = (Int.toNat n140 - Int.toNat (0 : Int)) * 1 ∧
  (Int.toNat n140 - Int.toNat (0 : Int)) * 8 ≤ 140737488355328 ∧ (Int.toNat n140 - Int.toNat (0 : Int) + 1) * 8 ≤ 140737488355328 ∧ ∃ (ys160 : List Value), Cells H138 A149 0 ys160 ∧
  List.length ys160 = (Int.toNat (↑n130 : Int) - Int.toNat n140) * 1 ∧ (Int.toNat n140 - Int.toNat (0 : Int) + 1 + (Int.toNat (↑n130 : Int) - Int.toNat n140)) * 8 ≤ 140737488355328 ∧ rng .i64
  (n132 + (1 : Int)) ∧ ∀ (A161 : Option Addr) (c162 : Nat) (H163 : Heap), Heap.le H138 H163 → Cells H163 A161 0 (ys159 ++ [.int .i64 n135] ++ ys160) → Int.toNat n140 - Int.toNat (0 : Int) + 1
  + (Int.toNat (↑n130 : Int) - Int.toNat n140) ≤ c162 → inv125 A161 (Int.toNat n140 - Int.toNat (0 : Int) + 1 + (Int.toNat (↑n130 : Int) - Int.toNat n140)) c162 (n132 + (1 : Int)) H163 ∧ m126
  A161 (Int.toNat n140 - Int.toNat (0 : Int) + 1 + (Int.toNat (↑n130 : Int) - Int.toNat n140)) c162 (n132 + (1 : Int)) < m126 A129 n130 c131 n132) ∧ (decide (n140 = (↑n130 : Int)) = false →
  someA A129 ∧ (0 : Int) ≤ n140 ∧ n140 < (↑n130 : Int) ∧ ∃ (n168 : Int), Cells H138 A129 (Int.toNat n140 * 1) [.int .i64 n168] ∧ ((!decide (n168 = n135)) = true → (0 : Int) ≤ (0 : Int) ∧ (0 :
  Int) ≤ n140 ∧ n140 ≤ (↑c131 : Int) ∧ ∀ (A170 : Option Addr), A170 = subA A129 c131 (Int.toNat (0 : Int)) 1 → (0 : Int) ≤ n140 ∧ n140 ≤ (↑n130 : Int) ∧ (↑n130 : Int) ≤ (↑c131 : Int) ∧ ∀
  (A172 : Option Addr), A172 = subA A129 c131 (Int.toNat n140) 1 → (∃ (ys174 : List Value), Cells H138 A170 0 ys174 ∧ List.length ys174 = (Int.toNat n140 - Int.toNat (0 : Int)) * 1 ∧
  (Int.toNat n140 - Int.toNat (0 : Int)) * 8 ≤ 140737488355328 ∧ (Int.toNat n140 - Int.toNat (0 : Int) + 1) * 8 ≤ 140737488355328 ∧ ∃ (ys175 : List Value), Cells H138 A172 0 ys175 ∧
  List.length ys175 = (Int.toNat (↑n130 : Int) - Int.toNat n140) * 1 ∧ (Int.toNat n140 - Int.toNat (0 : Int) + 1 + (Int.toNat (↑n130 : Int) - Int.toNat n140)) * 8 ≤ 140737488355328 ∧ rng .i64
  (n132 + (1 : Int)) ∧ ∀ (A176 : Option Addr) (c177 : Nat) (H178 : Heap), Heap.le H138 H178 → Cells H178 A176 0 (ys174 ++ [.int .i64 n135] ++ ys175) → Int.toNat n140 - Int.toNat (0 : Int) + 1
  + (Int.toNat (↑n130 : Int) - Int.toNat n140) ≤ c177 → inv125 A176 (Int.toNat n140 - Int.toNat (0 : Int) + 1 + (Int.toNat (↑n130 : Int) - Int.toNat n140)) c177 (n132 + (1 : Int)) H178 ∧ m126
  A176 (Int.toNat n140 - Int.toNat (0 : Int) + 1 + (Int.toNat (↑n130 : Int) - Int.toNat n140)) c177 (n132 + (1 : Int)) < m126 A129 n130 c131 n132) ∧ ∃ (ys182 : List Value), Cells H138 A170 0
  ys182 ∧ List.length ys182 = (Int.toNat n140 - Int.toNat (0 : Int)) * 1 ∧ (Int.toNat n140 - Int.toNat (0 : Int)) * 8 ≤ 140737488355328 ∧ (Int.toNat n140 - Int.toNat (0 : Int) + 1) * 8 ≤
  140737488355328 ∧ ∃ (ys183 : List Value), Cells H138 A172 0 ys183 ∧ List.length ys183 = (Int.toNat (↑n130 : Int) - Int.toNat n140) * 1 ∧ (Int.toNat n140 - Int.toNat (0 : Int) + 1 +
  (Int.toNat (↑n130 : Int) - Int.toNat n140)) * 8 ≤ 140737488355328 ∧ rng .i64 (n132 + (1 : Int)) ∧ ∀ (A184 : Option Addr) (c185 : Nat) (H186 : Heap), Heap.le H138 H186 → Cells H186 A184 0
  (ys182 ++ [.int .i64 n135] ++ ys183) → Int.toNat n140 - Int.toNat (0 : Int) + 1 + (Int.toNat (↑n130 : Int) - Int.toNat n140) ≤ c185 → inv125 A184 (Int.toNat n140 - Int.toNat (0 : Int) + 1 +
  (Int.toNat (↑n130 : Int) - Int.toNat n140)) c185 (n132 + (1 : Int)) H186 ∧ m126 A184 (Int.toNat n140 - Int.toNat (0 : Int) + 1 + (Int.toNat (↑n130 : Int) - Int.toNat n140)) c185 (n132 + (1
  : Int)) < m126 A129 n130 c131 n132) ∧ ((!decide (n168 = n135)) = false → rng .i64 (n132 + (1 : Int)) ∧ inv125 A129 n130 c131 (n132 + (1 : Int)) H138 ∧ m126 A129 n130 c131 (n132 + (1 : Int))
  < m126 A129 n130 c131 n132)))) ∧ (decide (n140 < (↑n130 : Int)) = false → (decide (n140 = (↑n130 : Int)) = true → (0 : Int) ≤ (0 : Int) ∧ (0 : Int) ≤ n140 ∧ n140 ≤ (↑c131 : Int) ∧ ∀ (A193 :
  Option Addr), A193 = subA A129 c131 (Int.toNat (0 : Int)) 1 → (0 : Int) ≤ n140 ∧ n140 ≤ (↑n130 : Int) ∧ (↑n130 : Int) ≤ (↑c131 : Int) ∧ ∀ (A195 : Option Addr), A195 = subA A129 c131
  (Int.toNat n140) 1 → (∃ (ys197 : List Value), Cells H138 A193 0 ys197 ∧ List.length ys197 = (Int.toNat n140 - Int.toNat (0 : Int)) * 1 ∧ (Int.toNat n140 - Int.toNat (0 : Int)) * 8 ≤
  140737488355328 ∧ (Int.toNat n140 - Int.toNat (0 : Int) + 1) * 8 ≤ 140737488355328 ∧ ∃ (ys198 : List Value), Cells H138 A195 0 ys198 ∧ List.length ys198 = (Int.toNat (↑n130 : Int) -
  Int.toNat n140) * 1 ∧ (Int.toNat n140 - Int.toNat (0 : Int) + 1 + (Int.toNat (↑n130 : Int) - Int.toNat n140)) * 8 ≤ 140737488355328 ∧ rng .i64 (n132 + (1 : Int)) ∧ ∀ (A199 : Option Addr)
  (c200 : Nat) (H201 : Heap), Heap.le H138 H201 → Cells H201 A199 0 (ys197 ++ [.int .i64 n135] ++ ys198) → Int.toNat n140 - Int.toNat (0 : Int) + 1 + (Int.toNat (↑n130 : Int) - Int.toNat
  n140) ≤ c200 → inv125 A199 (Int.toNat n140 - Int.toNat (0 : Int) + 1 + (Int.toNat (↑n130 : Int) - Int.toNat n140)) c200 (n132 + (1 : Int)) H201 ∧ m126 A199 (Int.toNat n140 - Int.toNat (0 :
  Int) + 1 + (Int.toNat (↑n130 : Int) - Int.toNat n140)) c200 (n132 + (1 : Int)) < m126 A129 n130 c131 n132) ∧ ∃ (ys205 : List Value), Cells H138 A193 0 ys205 ∧ List.length ys205 = (Int.toNat
  n140 - Int.toNat (0 : Int)) * 1 ∧ (Int.toNat n140 - Int.toNat (0 : Int)) * 8 ≤ 140737488355328 ∧ (Int.toNat n140 - Int.toNat (0 : Int) + 1) * 8 ≤ 140737488355328 ∧ ∃ (ys206 : List Value),
  Cells H138 A195 0 ys206 ∧ List.length ys206 = (Int.toNat (↑n130 : Int) - Int.toNat n140) * 1 ∧ (Int.toNat n140 - Int.toNat (0 : Int) + 1 + (Int.toNat (↑n130 : Int) - Int.toNat n140)) * 8 ≤
  140737488355328 ∧ rng .i64 (n132 + (1 : Int)) ∧ ∀ (A207 : Option Addr) (c208 : Nat) (H209 : Heap), Heap.le H138 H209 → Cells H209 A207 0 (ys205 ++ [.int .i64 n135] ++ ys206) → Int.toNat
  n140 - Int.toNat (0 : Int) + 1 + (Int.toNat (↑n130 : Int) - Int.toNat n140) ≤ c208 → inv125 A207 (Int.toNat n140 - Int.toNat (0 : Int) + 1 + (Int.toNat (↑n130 : Int) - Int.toNat n140)) c208
  (n132 + (1 : Int)) H209 ∧ m126 A207 (Int.toNat n140 - Int.toNat (0 : Int) + 1 + (Int.toNat (↑n130 : Int) - Int.toNat n140)) c208 (n132 + (1 : Int)) < m126 A129 n130 c131 n132) ∧ (decide
  (n140 = (↑n130 : Int)) = false → someA A129 ∧ (0 : Int) ≤ n140 ∧ n140 < (↑n130 : Int) ∧ ∃ (n214 : Int), Cells H138 A129 (Int.toNat n140 * 1) [.int .i64 n214] ∧ ((!decide (n214 = n135)) =
  true → (0 : Int) ≤ (0 : Int) ∧ (0 : Int) ≤ n140 ∧ n140 ≤ (↑c131 : Int) ∧ ∀ (A216 : Option Addr), A216 = subA A129 c131 (Int.toNat (0 : Int)) 1 → (0 : Int) ≤ n140 ∧ n140 ≤ (↑n130 : Int) ∧
  (↑n130 : Int) ≤ (↑c131 : Int) ∧ ∀ (A218 : Option Addr), A218 = subA A129 c131 (Int.toNat n140) 1 → (∃ (ys220 : List Value), Cells H138 A216 0 ys220 ∧ List.length ys220 = (Int.toNat n140 -
  Int.toNat (0 : Int)) * 1 ∧ (Int.toNat n140 - Int.toNat (0 : Int)) * 8 ≤ 140737488355328 ∧ (Int.toNat n140 - Int.toNat (0 : Int) + 1) * 8 ≤ 140737488355328 ∧ ∃ (ys221 : List Value), Cells
  H138 A218 0 ys221 ∧ List.length ys221 = (Int.toNat (↑n130 : Int) - Int.toNat n140) * 1 ∧ (Int.toNat n140 - Int.toNat (0 : Int) + 1 + (Int.toNat (↑n130 : Int) - Int.toNat n140)) * 8 ≤
  140737488355328 ∧ rng .i64 (n132 + (1 : Int)) ∧ ∀ (A222 : Option Addr) (c223 : Nat) (H224 : Heap), Heap.le H138 H224 → Cells H224 A222 0 (ys220 ++ [.int .i64 n135] ++ ys221) → Int.toNat
  n140 - Int.toNat (0 : Int) + 1 + (Int.toNat (↑n130 : Int) - Int.toNat n140) ≤ c223 → inv125 A222 (Int.toNat n140 - Int.toNat (0 : Int) + 1 + (Int.toNat (↑n130 : Int) - Int.toNat n140)) c223
  (n132 + (1 : Int)) H224 ∧ m126 A222 (Int.toNat n140 - Int.toNat (0 : Int) + 1 + (Int.toNat (↑n130 : Int) - Int.toNat n140)) c223 (n132 + (1 : Int)) < m126 A129 n130 c131 n132) ∧ ∃ (ys228 :
  List Value), Cells H138 A216 0 ys228 ∧ List.length ys228 = (Int.toNat n140 - Int.toNat (0 : Int)) * 1 ∧ (Int.toNat n140 - Int.toNat (0 : Int)) * 8 ≤ 140737488355328 ∧ (Int.toNat n140 -
  Int.toNat (0 : Int) + 1) * 8 ≤ 140737488355328 ∧ ∃ (ys229 : List Value), Cells H138 A218 0 ys229 ∧ List.length ys229 = (Int.toNat (↑n130 : Int) - Int.toNat n140) * 1 ∧ (Int.toNat n140 -
  Int.toNat (0 : Int) + 1 + (Int.toNat (↑n130 : Int) - Int.toNat n140)) * 8 ≤ 140737488355328 ∧ rng .i64 (n132 + (1 : Int)) ∧ ∀ (A230 : Option Addr) (c231 : Nat) (H232 : Heap), Heap.le H138
  H232 → Cells H232 A230 0 (ys228 ++ [.int .i64 n135] ++ ys229) → Int.toNat n140 - Int.toNat (0 : Int) + 1 + (Int.toNat (↑n130 : Int) - Int.toNat n140) ≤ c231 → inv125 A230 (Int.toNat n140 -
  Int.toNat (0 : Int) + 1 + (Int.toNat (↑n130 : Int) - Int.toNat n140)) c231 (n132 + (1 : Int)) H232 ∧ m126 A230 (Int.toNat n140 - Int.toNat (0 : Int) + 1 + (Int.toNat (↑n130 : Int) -
  Int.toNat n140)) c231 (n132 + (1 : Int)) < m126 A129 n130 c131 n132) ∧ ((!decide (n214 = n135)) = false → rng .i64 (n132 + (1 : Int)) ∧ inv125 A129 n130 c131 (n132 + (1 : Int)) H138 ∧ m126
  A129 n130 c131 (n132 + (1 : Int)) < m126 A129 n130 c131 n132)))) ∧ (decide (n132 < (↑bN : Int)) = false → rng .i64 (n7 + (1 : Int)) ∧ inv0 A129 n130 c131 (n7 + (1 : Int)) H127 ∧ m1 A129
  n130 c131 (n7 + (1 : Int)) < m1 A4 n5 c6 n7)) ∧ True) ∧ (decide (n7 < (2 : Int)) = false → post A4 n5 c6 H2)) := by kernel_rfl
set_option maxHeartbeats 1000000 in
theorem ref6_MergeLineage {H : Heap} {A B : Option Addr} {n c m d : Nat} {a b : List Int} (hs : Sl H A n c a) (ht : Sl H B m d b) (hb : (n + m) * 8 ≤ 140737488355328) :
    ConT Tryz.prog 55 [.slice A n c, .slice B m d] H shS (fun A' n' c' H' => Sl H' A' n' c' (mergeLin a b)) := by
  refine con_of_vc (an := an55) (fn := Tryz.f55) mix tabOK Tryz.func55 (by kernel_rfl) (extra := 0) ?_
  rw [vc55]
  have hal := hs.len; have hbl := ht.len
  refine ⟨fun A' n' c' i H' => 0 ≤ i ∧ i ≤ 2 ∧ mlInv ([a, b].take i.toNat).flatten A' n' c' H', fun _ _ _ i => 2 - i.toNat, ⟨by omega, by omega, [], Sl.nil, InsP.nil⟩, ?_⟩
  rintro H2 l2 A4 n5 c6 i ⟨i0, i1, hi⟩
  refine ⟨fun hlt => ⟨i0, of_decide_eq_true hlt, fun h0 => ?_, fun h1 => ?_, trivial⟩, fun hge => ?_⟩
  · have h0 : i = 0 := h0
    subst h0
    refine mli (p := []) hs l2 (by simp; omega) hi (K := fun A15 n16 c17 H13 => rng .i64 (0 + (1 : Int)) ∧ (0 ≤ (0 : Int) + 1 ∧ (0 : Int) + 1 ≤ 2 ∧ mlInv ([a, b].take ((0 : Int) + 1).toNat).flatten A15 n16 c17 H13) ∧ 2 - ((0 : Int) + 1).toNat < 2 - (0 : Int).toNat) ?_
    intro A' n' c' H' l' h'
    exact ⟨by decide, ⟨by decide, by decide, by simpa using h'⟩, by decide⟩
  · have h1 : i = 1 := h1
    subst h1
    refine mli (p := a) ht l2 (by omega) (by simpa using hi) (K := fun A15 n16 c17 H13 => rng .i64 (1 + (1 : Int)) ∧ (0 ≤ (1 : Int) + 1 ∧ (1 : Int) + 1 ≤ 2 ∧ mlInv ([a, b].take ((1 : Int) + 1).toNat).flatten A15 n16 c17 H13) ∧ 2 - ((1 : Int) + 1).toNat < 2 - (1 : Int).toNat) ?_
    intro A' n' c' H' l' h'
    exact ⟨by decide, ⟨by decide, by decide, by simpa using h'⟩, by decide⟩
  · have hge := of_decide_eq_false hge
    have : i = 2 := by omega
    subst this
    obtain ⟨out, ho, hp⟩ := hi
    have hp : InsP out (a ++ b) := by simpa using hp
    rw [← hp.eq]; exact ho
end Go.Vc
/- The reference's runs of equal rows: rows that grow in place. -/
namespace Go.Vc
open Go Go.Proofs Go.Shelf
structure RunR where
  vals : List Val
  B : Option Addr
  m : Nat
  d : Nat
  rows : List Rw
  lin : List Int
instance : Rep RunR where
  sz := 3
  byt := 72
  rel H vs r := ∃ A n c C k e, vs = [.slice A n c, .slice r.B r.m r.d, .slice C k e] ∧ Sl H A n c r.vals ∧ Sl H C k e r.lin
  mono := fun hle ⟨A, n, c, C, k, e, h1, h2, h3⟩ => ⟨A, n, c, C, k, e, h1, h2.mono hle, h3.mono hle⟩
  len := fun ⟨A, n, c, C, k, e, h1, _⟩ => by simp [h1]
  pos := by decide
  bpos := by decide
  one := fun ⟨A, n, c, C, k, e, h1, _⟩ => by rw [h1]; simp [Value.oneCell']
structure OpenR (O : OMap) (H : Heap) (r : RunR) : Prop where
  opn : isOpen O r.B 45 r.m r.d
  row : ∃ ys, Cells H r.B 0 ys ∧ Row H ys r.rows
  len : r.rows.length = r.m
structure RunsOK (O : OMap) (H : Heap) (xs : List Value) (rs : List RunR) : Prop where
  row : Row H xs rs
  opn : ∀ j (h : j < rs.length), OpenR O H rs[j]
  sep : ∀ j k (hj : j < rs.length) (hk : k < rs.length), j ≠ k → rs[j].B ≠ none → rs[j].B ≠ rs[k].B
  lin : ∀ j (h : j < rs.length), rs[j].lin = []
theorem RunsOK.mono {O : OMap} {H H' : Heap} {xs : List Value} {rs : List RunR} (h : RunsOK O H xs rs) (hle : Heap.le H H') : RunsOK O H' xs rs :=
  ⟨h.row.mono hle, fun j hj => let ⟨a, ⟨ys, b1, b2⟩, c⟩ := h.opn j hj; ⟨a, ⟨ys, b1.mono hle, b2.mono hle⟩, c⟩, h.sep, h.lin⟩
theorem RunsOK.new {O : OMap} {H : Heap} {xs : List Value} {rs : List RunR} (h : RunsOK O H xs rs) {A : Option Addr} {n c : Nat} {v : List Val} (hv : Sl H A n c v) :
    RunsOK O H (xs ++ [.slice A n c, .slice none 0 0, .slice none 0 0]) (rs ++ [⟨v, none, 0, 0, [], []⟩]) := by
  refine ⟨h.row.append (Row.one ⟨A, n, c, none, 0, 0, rfl, hv, Sl.nil⟩), fun j hj => ?_, fun j k hj hk hne h0 => ?_, fun j hj => ?_⟩
  · rw [List.getElem_append]
    split
    · exact h.opn j _
    · simp only [List.getElem_singleton]
      exact ⟨.inl ⟨rfl, rfl, rfl⟩, ⟨[], .inl rfl, rfl⟩, rfl⟩
  · simp only [List.length_append, List.length_singleton] at hj hk
    by_cases hj' : j < rs.length
    · rw [List.getElem_append_left hj'] at h0 ⊢
      by_cases hk' : k < rs.length
      · rw [List.getElem_append_left hk']
        exact h.sep j k hj' hk' hne h0
      · have : k = rs.length := by omega
        subst this
        simp only [List.getElem_concat_length]
        exact h0
    · have : j = rs.length := by omega
      subst this
      simp only [List.getElem_concat_length] at h0
      exact absurd rfl h0
  · rw [List.getElem_append]
    split
    · exact h.lin j _
    · simp only [List.getElem_singleton]
theorem mergeLin_nil : mergeLin [] [] = [] := List.eq_nil_iff_forall_not_mem.2 fun y hy => by
  rcases (mergeLin_mem [] [] y).1 hy with h | h <;> cases h
def RunX (P : Program) (H : Heap) (O : OMap) (N : Nat) (ZS : List Value) (e : Int) (A17 : Option Addr) (n18 c19 : Nat) (A20 : Option Addr) (n21 c22 : Nat) (R : List Value → Heap → OMap → Prop) : Prop :=
  ∃ (A24 : Option Addr), ∃ (n25 : Nat), ∃ (c26 : Nat), win ZS (Int.toNat e * 3 + 1) 1 = [.slice A24 n25 c26] ∧ ∃ (xs27 : List Value), isOpen O A24 45 n25 c26 ∧ Cells H A24 0 xs27 ∧ List.length xs27 = n25 * 2 ∧ (n25 + 1) * 48 ≤ 140737488355328 ∧
    ∀ (A28 : Option Addr) (c29 : Nat) (H30 : Heap) (O31 : OMap), Heap.le H H30 → Cells H30 A28 0 (xs27 ++ [.slice A17 n18 c19, .slice A20 n21 c22]) → n25 + 1 ≤ c29 → isOpen O31 A28 45 (n25 + 1) c29 → keepO O O31 A24 A28 →
      (0 : Int) ≤ e ∧ e < (↑N : Int) ∧ Int.toNat e * 3 + 1 + 1 ≤ List.length ZS ∧ (0 : Int) ≤ e ∧ e < (↑N : Int) ∧ ∃ (A37 : Option Addr), ∃ (n38 : Nat), ∃ (c39 : Nat), win (splice ZS (Int.toNat e * 3 + 1) [.slice A28 (n25 + 1) c29]) (Int.toNat e * 3 + 2) 1 = [.slice A37 n38 c39] ∧
        ∃ (post40 : Option Addr → Nat → Nat → Heap → Prop), ConT P 55 [.slice A37 n38 c39, .slice A20 n21 c22] H30 ⟨false, [(false, [.sl])]⟩ post40 ∧ ∀ (H41 : Heap), Heap.le H30 H41 → ∀ (A43 : Option Addr) (n44 c45 : Nat), post40 A43 n44 c45 H41 →
          (0 : Int) ≤ e ∧ e < (↑N : Int) ∧ Int.toNat e * 3 + 2 + 1 ≤ List.length (splice ZS (Int.toNat e * 3 + 1) [.slice A28 (n25 + 1) c29]) ∧
            R (splice (splice ZS (Int.toNat e * 3 + 1) [.slice A28 (n25 + 1) c29]) (Int.toNat e * 3 + 2) [.slice A43 n44 c45]) H41 O31
def RunF (P : Program) (H : Heap) (O : OMap) (N : Nat) (ZS : List Value) (e : Int) (A17 : Option Addr) (n18 c19 : Nat) (A20 : Option Addr) (n21 c22 : Nat) (R : List Value → Heap → OMap → Prop) : Prop :=
  ((0 : Int) ≤ e ∧ e < (↑N : Int) ∧ RunX P H O N ZS e A17 n18 c19 A20 n21 c22 R ∧ RunX P H O N ZS e A17 n18 c19 A20 n21 c22 R) ∧ (0 : Int) ≤ e ∧ e < (↑N : Int) ∧ RunX P H O N ZS e A17 n18 c19 A20 n21 c22 R
set_option maxHeartbeats 1000000 in
theorem runF_ok {H : Heap} {O : OMap} {N : Nat} {ZS : List Value} {e : Int} {A17 : Option Addr} {n18 c19 : Nat} {A20 : Option Addr} {n21 c22 : Nat} {R : List Value → Heap → OMap → Prop} {rs : List RunR} {x : Rw}
    (h : RunsOK O H ZS rs) (hN : rs.length = N) (h0 : 0 ≤ e) (he : e < N) (hx1 : Sl H A17 n18 c19 x.vals) (hx2 : Sl H A20 n21 c22 x.lin) (hx3 : x.lin = []) (hm : ∀ j (hj : j < rs.length), (rs[j].m + 1) * 48 ≤ 140737488355328)
    (hR : ∀ xs' H' O' rs', Heap.le H H' → RunsOK O' H' xs' rs' → rs'.map (·.vals) = rs.map (·.vals) → (∀ j (hj : j < rs'.length) (hj' : j < rs.length), rs'[j].m ≤ rs[j].m + 1) → R xs' H' O') : RunF Tryz.prog H O N ZS e A17 n18 c19 A20 n21 c22 R := by
  have hi : e.toNat < rs.length := by omega
  obtain ⟨o1, ⟨ys, o2, o3⟩, o4⟩ := h.opn _ hi
  have hlen := h.row.length
  have hys := o3.length
  have key : RunX Tryz.prog H O N ZS e A17 n18 c19 A20 n21 c22 R := by
    obtain ⟨vs, ⟨A, n, c, C, k, ec, rfl, q1, q2⟩, hg, -⟩ := h.row.getf hi
    refine ⟨_, _, _, hg 1 1 (by decide), ys, o1, o2, by rw [hys, o4]; rfl, hm _ hi, ?_⟩
    intro A28 c29 H30 O31 l30 hc30 hn30 hop hkeep
    have hr30 := h.row.mono l30
    obtain ⟨vs', ⟨A', n', c', C', k', ec', rfl, q1', q2'⟩, hg', hs'⟩ := hr30.getf hi
    obtain ⟨r, hr⟩ : ∃ r, r = rs[e.toNat] := ⟨_, rfl⟩
    have hr1 := hs' 1 [.slice A28 (rs[e.toNat].m + 1) c29] ⟨rs[e.toNat].vals, A28, rs[e.toNat].m + 1, c29, rs[e.toNat].rows ++ [x], rs[e.toNat].lin⟩ (by show 1 + 1 ≤ 3; omega) ⟨A', n', c', C', k', ec', rfl, q1', q2'⟩
    have hlen1 := hr1.length
    have hi1 : e.toNat < (rs.set e.toNat ⟨rs[e.toNat].vals, A28, rs[e.toNat].m + 1, c29, rs[e.toNat].rows ++ [x], rs[e.toNat].lin⟩).length := by simpa using hi
    obtain ⟨vs2, hrel2, hg2, hs2⟩ := hr1.getf hi1
    rw [List.getElem_set_self] at hrel2
    obtain ⟨A2, n2, c2, C2, k2, ec2, rfl, p1, p2⟩ := hrel2
    have hl2 := p2.len
    rw [h.lin _ hi] at hl2 p2
    have hl2' := hx2.len
    rw [hx3] at hl2'
    simp at hl2 hl2'
    refine ⟨h0, he, ?_, h0, he, _, _, _, hg2 2 1 (by decide), _, ref6_MergeLineage p2 (hx2.mono l30) (by omega), ?_⟩
    · rw [hlen]; show _ ≤ rs.length * 3; omega
    · intro H41 l41 A43 n44 c45 hml
      rw [hx3, mergeLin_nil] at hml
      have hr41 := hr1.mono l41
      obtain ⟨vs3, hrel3, -, hs3⟩ := hr41.getf hi1
      rw [List.getElem_set_self] at hrel3
      obtain ⟨A3, n3, c3, C3, k3, ec3, rfl, r1, r2⟩ := hrel3
      have hr2 := hs3 2 [.slice A43 n44 c45] ⟨rs[e.toNat].vals, A28, rs[e.toNat].m + 1, c29, rs[e.toNat].rows ++ [x], []⟩ (by show 2 + 1 ≤ 3; omega) ⟨A3, n3, c3, A43, n44, c45, rfl, r1, hml⟩
      rw [List.set_set] at hr2
      refine ⟨h0, he, ?_, ?_⟩
      · refine Nat.le_trans ?_ (Nat.le_of_eq hlen1.symm)
        rw [List.length_set]
        show _ ≤ rs.length * 3
        omega
      · have l0 := hle_trans l30 l41
        have hrow : ∃ zs, Cells H41 A28 0 zs ∧ Row H41 zs (rs[e.toNat].rows ++ [x]) :=
          ⟨_, hc30.mono l41, (o3.mono l0).append (Row.one ⟨_, _, _, _, _, _, rfl, hx1.mono l0, hx2.mono l0⟩)⟩
        have hkp : ∀ j (hj : j < rs.length), j ≠ e.toNat → ∀ b, rs[j].B = some ⟨b, 0, none⟩ → (∃ z, O b = some z) → A28 ≠ some ⟨b, 0, none⟩ ∧ O31 b = O b := by
          rintro j hj hne b hb ⟨z, hz⟩
          refine hkeep b (by rw [hz]; simp) ?_
          rw [← hb]
          exact fun e' => h.sep j e.toNat hj hi hne (by rw [hb]; simp) e'.symm
        refine hR _ _ _ _ l0 ⟨hr2, fun j hj => ?_, fun j k hj hk hne hb => ?_, fun j hj => ?_⟩ ?_ ?_
        · rw [List.length_set] at hj
          rw [List.getElem_set]
          split
          · rename_i hje
            subst hje
            exact ⟨hop, hrow, by simp [o4]⟩
          · rename_i hne
            obtain ⟨a1, ⟨zs, a2, a3⟩, a4⟩ := h.opn j hj
            refine ⟨?_, ⟨zs, a2.mono l0, a3.mono l0⟩, a4⟩
            rcases a1 with a1 | ⟨b, b1, b2⟩
            · exact .inl a1
            · exact .inr ⟨b, b1, by rw [(hkp j hj (Ne.symm hne) b b1 ⟨_, b2⟩).2]; exact b2⟩
        · rw [List.length_set] at hj hk
          have sepA : ∀ j (hj : j < rs.length), j ≠ e.toNat → rs[j].B ≠ none → rs[j].B ≠ A28 := by
            intro j hj hne hb
            rcases (h.opn j hj).opn with ⟨b1, -⟩ | ⟨b, b1, b2⟩
            · exact absurd b1 hb
            · rw [b1]
              exact fun e' => (hkp j hj hne b b1 ⟨_, b2⟩).1 e'.symm
          rw [List.getElem_set] at hb ⊢
          rw [List.getElem_set]
          by_cases hje : e.toNat = j
          · rw [if_pos hje] at hb ⊢
            have hke : ¬ e.toNat = k := by omega
            rw [if_neg hke]
            by_cases hkn : rs[k].B = none
            · rw [hkn]; exact hb
            · exact fun e' => sepA k hk (by omega) hkn e'.symm
          · rw [if_neg hje] at hb ⊢
            by_cases hke : e.toNat = k
            · rw [if_pos hke]
              exact sepA j hj (by omega) hb
            · rw [if_neg hke]
              exact h.sep j k hj hk hne hb
        · rw [List.length_set] at hj
          rw [List.getElem_set]
          split
          · rfl
          · exact h.lin j hj
        · apply List.ext_getElem
          · simp
          · intro j h1 h2
            simp only [List.getElem_map, List.getElem_set]
            split
            · rename_i hje; subst hje; rfl
            · rfl
        · intro j hj hj'
          rw [List.getElem_set]
          split
          · rename_i hje; subst hje; exact Nat.le_refl _
          · omega
  exact ⟨⟨h0, he, key, key⟩, h0, he, key⟩
end Go.Vc
/- The reference's distinct key values. -/
namespace Go.Vc
open Go Go.Proofs Go.Shelf
def ascV (vs : List (List Val)) : Prop := vs.Pairwise (fun a b => cmpVs a b = -1)
structure GrpV (vs : List (List Val)) (p : List Rw) : Prop where
  asc : ascV vs
  mem : ∀ v, v ∈ vs ↔ ∃ r ∈ p, r.vals = v
  last : vs.getLast? = p.getLast?.map (·.vals)
theorem GrpV.nil : GrpV [] [] := ⟨List.Pairwise.nil, fun v => by simp, rfl⟩
theorem GrpV.old {vs : List (List Val)} {p : List Rw} {r : Rw} (h : GrpV vs p) (hl : vs.getLast? = some r.vals) : GrpV vs (p ++ [r]) := by
  refine ⟨h.asc, fun v => ?_, by rw [hl]; simp⟩
  rw [h.mem]
  constructor
  · rintro ⟨q, h1, h2⟩; exact ⟨q, by simp [h1], h2⟩
  · rintro ⟨q, h1, h2⟩
    rcases List.mem_append.1 h1 with h1 | h1
    · exact ⟨q, h1, h2⟩
    · simp at h1; subst h1
      have := (h.mem q.vals).1 (List.mem_of_getLast? hl)
      obtain ⟨z, z1, z2⟩ := this
      exact ⟨z, z1, by rw [z2, h2]⟩
theorem GrpV.new {vs : List (List Val)} {p : List Rw} {r : Rw} (h : GrpV vs p) (hl : vs.getLast? ≠ some r.vals) (hs : ∀ q ∈ p, leF cmpVs q.vals r.vals) : GrpV (vs ++ [r.vals]) (p ++ [r]) := by
  refine ⟨List.pairwise_append.2 ⟨h.asc, by simp, fun a ha b hb => ?_⟩, fun v => ?_, by simp⟩
  · simp at hb; subst hb
    cases hz : vs.getLast? with
    | none => rw [List.getLast?_eq_none_iff] at hz; rw [hz] at ha; cases ha
    | some z =>
      obtain ⟨q, q1, q2⟩ := (h.mem z).1 (List.mem_of_getLast? hz)
      have hle := hs q q1
      rw [q2] at hle
      have hne : z ≠ r.vals := fun e => hl (by rw [hz, e])
      have hzr : cmpVs z r.vals = -1 := by
        have s := cmpVs_ord.sign z r.vals; have a := cmpVs_ord.anti z r.vals
        have : cmpVs z r.vals ≠ 0 := fun e => hne (cmpVs_zero.1 e)
        unfold leF at hle
        omega
      obtain ⟨l', rfl⟩ := List.getLast?_eq_some_iff.1 hz
      rcases List.mem_append.1 ha with ha | ha
      · exact cmpVs_ord.trans _ _ _ ((List.pairwise_append.1 h.asc).2.2 a ha z (by simp)) hzr
      · simp at ha; subst ha; exact hzr
  · rw [List.mem_append, List.mem_singleton, h.mem]
    constructor
    · rintro (⟨q, h1, h2⟩ | rfl)
      · exact ⟨q, by simp [h1], h2⟩
      · exact ⟨r, by simp, rfl⟩
    · rintro ⟨q, h1, h2⟩
      rcases List.mem_append.1 h1 with h1 | h1
      · exact .inl ⟨q, h1, h2⟩
      · simp at h1; subst h1; exact .inr h2.symm
theorem leRw_vals {q r : Rw} (h : leF cmpRw q r) : leF cmpVs q.vals r.vals := by
  unfold leF at *
  intro h1
  apply h
  unfold cmpRw
  rw [if_pos (by omega)]
  exact h1
def an83 : Ann where
  res := fun _ => none
  lend := fun | 27 => true | _ => false
  sch := fun | 6 => (tk [0, 1, 2, 3, 4, 8, 9] (.alt 5 (tk [6] (.alt 7 (.alt 10 (tk [11, 12] .done) .fin) .fin)) .fin)) | 9 => (tk [0, 1, 2, 3, 7] (.alt 4 (tk [5] (.alt 6 (.alt 8 (.alt 9 (.alt 10 (tk [11] (.alt 12 .done .fin)) .fin) .fin) .fin) (.alt 8 (.alt 6 (.alt 9 (.alt 10 (tk [11] (.alt 12 .done .fin)) .fin) .fin) .fin) .fin))) (.alt 8 (.alt 4 (tk [5] (.alt 6 (.alt 9 (.alt 10 (tk [11] (.alt 12 .done .fin)) .fin) .fin) .fin)) .fin) .fin))) | 10 => (tk [0, 1, 2, 3, 7, 8] (.alt 4 (tk [5] (.alt 6 (.alt 9 (.alt 10 (tk [11] (.alt 12 .done .fin)) .fin) .fin) .fin)) .fin)) | _ => .done
  opn := true
  oap := fun | 47 => true | _ => false
  lt := fun | 3 => [.slot 3 false [.row 64 129], .slot 10 false [.int .i64]] | _ => []
  tup := tups

theorem vc83 (P : Program) (H : Heap) (rowsA : Option Addr) (rowsN rowsC : Nat) (post : Option Addr → Nat → Nat → Heap → Prop) :
  vcFn P tab an83 Tryz.f83 [.slice rowsA rowsN rowsC] 1 H ⟨false, [(false, [.sl])]⟩ post =
  (  ∃ (post0 : Option Addr → Nat → Nat → Heap → Prop), ConT P 108 [.slice rowsA rowsN rowsC] H ⟨false, [(false, [.sl])]⟩ post0 ∧ ∀ (H1 : Heap), Heap.le H H1 → ∀ (A3 : Option Addr) (n4 c5 :
  Nat), post0 A3 n4 c5 H1 → ∃ (inv7 : Nat → List Value → Int → Heap → OMap → Prop), ∃ (m8 : Nat → List Value → Int → Nat), inv7 0 [] (0 : Int) H1 noO ∧ ∀ (H9 : Heap), Heap.le H1 H9 → ∀ (O11 :
  Nat → Option XO) (n12 : Nat) (xs13 : List Value) (n14 : Int), inv7 n12 xs13 n14 H9 O11 → (decide (n14 < (↑n4 : Int)) = true → someA A3 ∧ (0 : Int) ≤ n14 ∧ n14 < (↑n4 : Int) ∧ ∃ (A17 :
  Option Addr), ∃ (n18 : Nat), ∃ (c19 : Nat), ∃ (A20 : Option Addr), ∃ (n21 : Nat), ∃ (c22 : Nat), Cells H9 A3 (Int.toNat n14 * 2) [.slice A17 n18 c19, .slice A20 n21 c22] ∧ rng .i64 ((↑n12 :
  Int) - (1 : Int)) ∧ (decide ((↑n12 : Int) - (1 : Int) < (0 : Int)) = true → (n12 + 1) * 72 ≤ 140737488355328 ∧ rng .i64 ((↑n12 : Int) - (1 : Int) + (1 : Int)) ∧ ((0 : Int) ≤ (↑n12 : Int) -
  (1 : Int) + (1 : Int) ∧ (↑n12 : Int) - (1 : Int) + (1 : Int) < (↑(n12 + 1) : Int) ∧ (∃ (A24 : Option Addr), ∃ (n25 : Nat), ∃ (c26 : Nat), win (xs13 ++ [.slice A17 n18 c19, .slice none 0 0,
  .slice none 0 0]) (Int.toNat ((↑n12 : Int) - (1 : Int) + (1 : Int)) * 3 + 1) 1 = [.slice A24 n25 c26] ∧ ∃ (xs27 : List Value), isOpen O11 A24 45 n25 c26 ∧ Cells H9 A24 0 xs27 ∧ List.length
  xs27 = n25 * 2 ∧ (n25 + 1) * 48 ≤ 140737488355328 ∧ ∀ (A28 : Option Addr) (c29 : Nat) (H30 : Heap) (O31 : Nat → Option XO), Heap.le H9 H30 → Cells H30 A28 0 (xs27 ++ [.slice A17 n18 c19,
  .slice A20 n21 c22]) → n25 + 1 ≤ c29 → isOpen O31 A28 45 (n25 + 1) c29 → keepO O11 O31 A24 A28 → (0 : Int) ≤ (↑n12 : Int) - (1 : Int) + (1 : Int) ∧ (↑n12 : Int) - (1 : Int) + (1 : Int) <
  (↑(n12 + 1) : Int) ∧ Int.toNat ((↑n12 : Int) - (1 : Int) + (1 : Int)) * 3 + 1 + 1 ≤ List.length (xs13 ++ [.slice A17 n18 c19, .slice none 0 0, .slice none 0 0]) ∧ (0 : Int) ≤ (↑n12 : Int) -
  (1 : Int) + (1 : Int) ∧ (↑n12 : Int) - (1 : Int) + (1 : Int) < (↑(n12 + 1) : Int) ∧ ∃ (A37 : Option Addr), ∃ (n38 : Nat), ∃ (c39 : Nat), win (splice (xs13 ++ [.slice A17 n18 c19, .slice
  none 0 0, .slice none 0 0]) (Int.toNat ((↑n12 : Int) - (1 : Int) + (1 : Int)) * 3 + 1) [.slice A28 (n25 + 1) c29]) (Int.toNat ((↑n12 : Int) - (1 : Int) + (1 : Int)) * 3 + 2) 1 = [.slice A37
  n38 c39] ∧ ∃ (post40 : Option Addr → Nat → Nat → Heap → Prop), ConT P 55 [.slice A37 n38 c39, .slice A20 n21 c22] H30 ⟨false, [(false, [.sl])]⟩ post40 ∧ ∀ (H41 : Heap), Heap.le H30 H41 → ∀
  (A43 : Option Addr) (n44 c45 : Nat), post40 A43 n44 c45 H41 → (0 : Int) ≤ (↑n12 : Int) - (1 : Int) + (1 : Int) ∧ (↑n12 : Int) - (1 : Int) + (1 : Int) < (↑(n12 + 1) : Int) ∧ Int.toNat ((↑n12
  : Int) - (1 : Int) + (1 : Int)) * 3 + 2 + 1 ≤ List.length (splice (xs13 ++ [.slice A17 n18 c19, .slice none 0 0, .slice none 0 0]) (Int.toNat ((↑n12 : Int) - (1 : Int) + (1 : Int)) * 3 + 1)
  [.slice A28 (n25 + 1) c29]) ∧ rng .i64 (n14 + (1 : Int)) ∧ inv7 (n12 + 1) (splice (splice (xs13 ++ [.slice A17 n18 c19, .slice none 0 0, .slice none 0 0]) (Int.toNat ((↑n12 : Int) - (1 :
  Int) + (1 : Int)) * 3 + 1) [.slice A28 (n25 + 1) c29]) (Int.toNat ((↑n12 : Int) - (1 : Int) + (1 : Int)) * 3 + 2) [.slice A43 n44 c45]) (n14 + (1 : Int)) H41 O31 ∧ m8 (n12 + 1) (splice
  (splice (xs13 ++ [.slice A17 n18 c19, .slice none 0 0, .slice none 0 0]) (Int.toNat ((↑n12 : Int) - (1 : Int) + (1 : Int)) * 3 + 1) [.slice A28 (n25 + 1) c29]) (Int.toNat ((↑n12 : Int) - (1
  : Int) + (1 : Int)) * 3 + 2) [.slice A43 n44 c45]) (n14 + (1 : Int)) < m8 n12 xs13 n14) ∧ ∃ (A47 : Option Addr), ∃ (n48 : Nat), ∃ (c49 : Nat), win (xs13 ++ [.slice A17 n18 c19, .slice none
  0 0, .slice none 0 0]) (Int.toNat ((↑n12 : Int) - (1 : Int) + (1 : Int)) * 3 + 1) 1 = [.slice A47 n48 c49] ∧ ∃ (xs50 : List Value), isOpen O11 A47 45 n48 c49 ∧ Cells H9 A47 0 xs50 ∧
  List.length xs50 = n48 * 2 ∧ (n48 + 1) * 48 ≤ 140737488355328 ∧ ∀ (A51 : Option Addr) (c52 : Nat) (H53 : Heap) (O54 : Nat → Option XO), Heap.le H9 H53 → Cells H53 A51 0 (xs50 ++ [.slice A17
  n18 c19, .slice A20 n21 c22]) → n48 + 1 ≤ c52 → isOpen O54 A51 45 (n48 + 1) c52 → keepO O11 O54 A47 A51 → (0 : Int) ≤ (↑n12 : Int) - (1 : Int) + (1 : Int) ∧ (↑n12 : Int) - (1 : Int) + (1 :
  Int) < (↑(n12 + 1) : Int) ∧ Int.toNat ((↑n12 : Int) - (1 : Int) + (1 : Int)) * 3 + 1 + 1 ≤ List.length (xs13 ++ [.slice A17 n18 c19, .slice none 0 0, .slice none 0 0]) ∧ (0 : Int) ≤ (↑n12 :
  Int) - (1 : Int) + (1 : Int) ∧ (↑n12 : Int) - (1 : Int) + (1 : Int) < (↑(n12 + 1) : Int) ∧ ∃ (A60 : Option Addr), ∃ (n61 : Nat), ∃ (c62 : Nat), win (splice (xs13 ++ [.slice A17 n18 c19,
  .slice none 0 0, .slice none 0 0]) (Int.toNat ((↑n12 : Int) - (1 : Int) + (1 : Int)) * 3 + 1) [.slice A51 (n48 + 1) c52]) (Int.toNat ((↑n12 : Int) - (1 : Int) + (1 : Int)) * 3 + 2) 1 =
  [.slice A60 n61 c62] ∧ ∃ (post63 : Option Addr → Nat → Nat → Heap → Prop), ConT P 55 [.slice A60 n61 c62, .slice A20 n21 c22] H53 ⟨false, [(false, [.sl])]⟩ post63 ∧ ∀ (H64 : Heap), Heap.le
  H53 H64 → ∀ (A66 : Option Addr) (n67 c68 : Nat), post63 A66 n67 c68 H64 → (0 : Int) ≤ (↑n12 : Int) - (1 : Int) + (1 : Int) ∧ (↑n12 : Int) - (1 : Int) + (1 : Int) < (↑(n12 + 1) : Int) ∧
  Int.toNat ((↑n12 : Int) - (1 : Int) + (1 : Int)) * 3 + 2 + 1 ≤ List.length (splice (xs13 ++ [.slice A17 n18 c19, .slice none 0 0, .slice none 0 0]) (Int.toNat ((↑n12 : Int) - (1 : Int) + (1
  : Int)) * 3 + 1) [.slice A51 (n48 + 1) c52]) ∧ rng .i64 (n14 + (1 : Int)) ∧ inv7 (n12 + 1) (splice (splice (xs13 ++ [.slice A17 n18 c19, .slice none 0 0, .slice none 0 0]) (Int.toNat ((↑n12
  : Int) - (1 : Int) + (1 : Int)) * 3 + 1) [.slice A51 (n48 + 1) c52]) (Int.toNat ((↑n12 : Int) - (1 : Int) + (1 : Int)) * 3 + 2) [.slice A66 n67 c68]) (n14 + (1 : Int)) H64 O54 ∧ m8 (n12 +
  1) (splice (splice (xs13 ++ [.slice A17 n18 c19, .slice none 0 0, .slice none 0 0]) (Int.toNat ((↑n12 : Int) - (1 : Int) + (1 : Int)) * 3 + 1) [.slice A51 (n48 + 1) c52]) (Int.toNat ((↑n12
  : Int) - (1 : Int) + (1 : Int)) * 3 + 2) [.slice A66 n67 c68]) (n14 + (1 : Int)) < m8 n12 xs13 n14) ∧ (0 : Int) ≤ (↑n12 : Int) - (1 : Int) + (1 : Int) ∧ (↑n12 : Int) - (1 : Int) + (1 : Int)
  < (↑(n12 + 1) : Int) ∧ ∃ (A70 : Option Addr), ∃ (n71 : Nat), ∃ (c72 : Nat), win (xs13 ++ [.slice A17 n18 c19, .slice none 0 0, .slice none 0 0]) (Int.toNat ((↑n12 : Int) - (1 : Int) + (1 :
  Int)) * 3 + 1) 1 = [.slice A70 n71 c72] ∧ ∃ (xs73 : List Value), isOpen O11 A70 45 n71 c72 ∧ Cells H9 A70 0 xs73 ∧ List.length xs73 = n71 * 2 ∧ (n71 + 1) * 48 ≤ 140737488355328 ∧ ∀ (A74 :
  Option Addr) (c75 : Nat) (H76 : Heap) (O77 : Nat → Option XO), Heap.le H9 H76 → Cells H76 A74 0 (xs73 ++ [.slice A17 n18 c19, .slice A20 n21 c22]) → n71 + 1 ≤ c75 → isOpen O77 A74 45 (n71 +
  1) c75 → keepO O11 O77 A70 A74 → (0 : Int) ≤ (↑n12 : Int) - (1 : Int) + (1 : Int) ∧ (↑n12 : Int) - (1 : Int) + (1 : Int) < (↑(n12 + 1) : Int) ∧ Int.toNat ((↑n12 : Int) - (1 : Int) + (1 :
  Int)) * 3 + 1 + 1 ≤ List.length (xs13 ++ [.slice A17 n18 c19, .slice none 0 0, .slice none 0 0]) ∧ (0 : Int) ≤ (↑n12 : Int) - (1 : Int) + (1 : Int) ∧ (↑n12 : Int) - (1 : Int) + (1 : Int) <
  (↑(n12 + 1) : Int) ∧ ∃ (A83 : Option Addr), ∃ (n84 : Nat), ∃ (c85 : Nat), win (splice (xs13 ++ [.slice A17 n18 c19, .slice none 0 0, .slice none 0 0]) (Int.toNat ((↑n12 : Int) - (1 : Int) +
  (1 : Int)) * 3 + 1) [.slice A74 (n71 + 1) c75]) (Int.toNat ((↑n12 : Int) - (1 : Int) + (1 : Int)) * 3 + 2) 1 = [.slice A83 n84 c85] ∧ ∃ (post86 : Option Addr → Nat → Nat → Heap → Prop),
  ConT P 55 [.slice A83 n84 c85, .slice A20 n21 c22] H76 ⟨false, [(false, [.sl])]⟩ post86 ∧ ∀ (H87 : Heap), Heap.le H76 H87 → ∀ (A89 : Option Addr) (n90 c91 : Nat), post86 A89 n90 c91 H87 →
  (0 : Int) ≤ (↑n12 : Int) - (1 : Int) + (1 : Int) ∧ (↑n12 : Int) - (1 : Int) + (1 : Int) < (↑(n12 + 1) : Int) ∧ Int.toNat ((↑n12 : Int) - (1 : Int) + (1 : Int)) * 3 + 2 + 1 ≤ List.length
  (splice (xs13 ++ [.slice A17 n18 c19, .slice none 0 0, .slice none 0 0]) (Int.toNat ((↑n12 : Int) - (1 : Int) + (1 : Int)) * 3 + 1) [.slice A74 (n71 + 1) c75]) ∧ rng .i64 (n14 + (1 : Int))
  ∧ inv7 (n12 + 1) (splice (splice (xs13 ++ [.slice A17 n18 c19, .slice none 0 0, .slice none 0 0]) (Int.toNat ((↑n12 : Int) - (1 : Int) + (1 : Int)) * 3 + 1) [.slice A74 (n71 + 1) c75])
  (Int.toNat ((↑n12 : Int) - (1 : Int) + (1 : Int)) * 3 + 2) [.slice A89 n90 c91]) (n14 + (1 : Int)) H87 O77 ∧ m8 (n12 + 1) (splice (splice (xs13 ++ [.slice A17 n18 c19, .slice none 0 0,
  .slice none 0 0]) (Int.toNat ((↑n12 : Int) - (1 : Int) + (1 : Int)) * 3 + 1) [.slice A74 (n71 + 1) c75]) (Int.toNat ((↑n12 : Int) - (1 : Int) + (1 : Int)) * 3 + 2) [.slice A89 n90 c91])
  (n14 + (1 : Int)) < m8 n12 xs13 n14) ∧ (decide ((↑n12 : Int) - (1 : Int) < (0 : Int)) = false → (0 : Int) ≤ (↑n12 : Int) - (1 : Int) ∧ (↑n12 : Int) - (1 : Int) < (↑n12 : Int) ∧ ∃ (A94 :
  Option Addr), ∃ (n95 : Nat), ∃ (c96 : Nat), win xs13 (Int.toNat ((↑n12 : Int) - (1 : Int)) * 3 + 0) 1 = [.slice A94 n95 c96] ∧ ∃ (post97 : Int → Heap → Prop), ConT P 22 [.slice A94 n95 c96,
  .slice A17 n18 c19] H9 ⟨false, [(false, [.int .i64])]⟩ post97 ∧ ∀ (H98 : Heap), Heap.le H9 H98 → ∀ (n100 : Int), post97 n100 H98 → ((!decide (n100 = (0 : Int))) = true → (n12 + 1) * 72 ≤
  140737488355328 ∧ rng .i64 ((↑n12 : Int) - (1 : Int) + (1 : Int)) ∧ ((0 : Int) ≤ (↑n12 : Int) - (1 : Int) + (1 : Int) ∧ (↑n12 : Int) - (1 : Int) + (1 : Int) < (↑(n12 + 1) : Int) ∧ (∃ (A103
  : Option Addr), ∃ (n104 : Nat), ∃ (c105 : Nat), win (xs13 ++ [.slice A17 n18 c19, .slice none 0 0, .slice none 0 0]) (Int.toNat ((↑n12 : Int) - (1 : Int) + (1 : Int)) * 3 + 1) 1 = [.slice
  A103 n104 c105] ∧ ∃ (xs106 : List Value), isOpen O11 A103 45 n104 c105 ∧ Cells H98 A103 0 xs106 ∧ List.length xs106 = n104 * 2 ∧ (n104 + 1) * 48 ≤ 140737488355328 ∧ ∀ (A107 : Option Addr)
  (c108 : Nat) (H109 : Heap) (O110 : Nat → Option XO), Heap.le H98 H109 → Cells H109 A107 0 (xs106 ++ [.slice A17 n18 c19, .slice A20 n21 c22]) → n104 + 1 ≤ c108 → isOpen O110 A107 45 (n104 +
  1) c108 → keepO O11 O110 A103 A107 → (0 : Int) ≤ (↑n12 : Int) - (1 : Int) + (1 : Int) ∧ (↑n12 : Int) - (1 : Int) + (1 : Int) < (↑(n12 + 1) : Int) ∧ Int.toNat ((↑n12 : Int) - (1 : Int) + (1
  : Int)) * 3 + 1 + 1 ≤ List.length (xs13 ++ [.slice A17 n18 c19, .slice none 0 0, .slice none 0 0]) ∧ (0 : Int) ≤ (↑n12 : Int) - (1 : Int) + (1 : Int) ∧ (↑n12 : Int) - (1 : Int) + (1 : Int)
  < (↑(n12 + 1) : Int) ∧ ∃ (A116 : Option Addr), ∃ (n117 : Nat), ∃ (c118 : Nat), win (splice (xs13 ++ [.slice A17 n18 c19, .slice none 0 0, .slice none 0 0]) (Int.toNat ((↑n12 : Int) - (1 :
  Int) + (1 : Int)) * 3 + 1) [.slice A107 (n104 + 1) c108]) (Int.toNat ((↑n12 : Int) - (1 : Int) + (1 : Int)) * 3 + 2) 1 = [.slice A116 n117 c118] ∧ ∃ (post119 : Option Addr → Nat → Nat →
  Heap → Prop), ConT P 55 [.slice A116 n117 c118, .slice A20 n21 c22] H109 ⟨false, [(false, [.sl])]⟩ post119 ∧ ∀ (H120 : Heap), Heap.le H109 H120 → ∀ (A122 : Option Addr) (n123 c124 : Nat),
  post119 A122 n123 c124 H120 → (0 : Int) ≤ (↑n12 : Int) - (1 : Int) + (1 : Int) ∧ (↑n12 : Int) - (1 : Int) + (1 : Int) < (↑(n12 + 1) : Int) ∧ Int.toNat ((↑n12 : Int) - (1 : Int) + (1 : Int))
  * 3 + 2 + 1 ≤ List.length (splice (xs13 ++ [.slice A17 n18 c19, .slice none 0 0, .slice none 0 0]) (Int.toNat ((↑n12 : Int) - (1 : Int) + (1 : Int)) * 3 + 1) [.slice A107 (n104 + 1) c108])
  ∧ rng .i64 (n14 + (1 : Int)) ∧ inv7 (n12 + 1) (splice (splice (xs13 ++ [.slice A17 n18 c19, .slice none 0 0, .slice none 0 0]) (Int.toNat ((↑n12 : Int) - (1 : Int) + (1 : Int)) * 3 + 1)
  [.slice A107 (n104 + 1) c108]) (Int.toNat ((↑n12 : Int) - (1 : Int) + (1 : Int)) * 3 + 2) [.slice A122 n123 c124]) (n14 + (1 : Int)) H120 O110 ∧ m8 (n12 + 1) (splice (splice (xs13 ++
  [.slice A17 n18 c19, .slice none 0 0, .slice none 0 0]) (Int.toNat ((↑n12 : Int) - (1 : Int) + (1 : Int)) * 3 + 1) [.slice A107 (n104 + 1) c108]) (Int.toNat ((↑n12 : Int) - (1 : Int) + (1 :
  Int)) * 3 + 2) [.slice A122 n123 c124]) (n14 + (1 : Int)) < m8 n12 xs13 n14) ∧ ∃ (A126 : Option Addr), ∃ (n127 : Nat), ∃ (c128 : Nat), win (xs13 ++ [.slice A17 n18 c19, .slice none 0 0,
  .slice none 0 0]) (Int.toNat ((↑n12 : Int) - (1 : Int) + (1 : Int)) * 3 + 1) 1 = [.slice A126 n127 c128] ∧ ∃ (xs129 : List Value), isOpen O11 A126 45 n127 c128 ∧ Cells H98 A126 0 xs129 ∧
  List.length xs129 = n127 * 2 ∧ (n127 + 1) * 48 ≤ 140737488355328 ∧ ∀ (A130 : Option Addr) (c131 : Nat) (H132 : Heap) (O133 : Nat → Option XO), Heap.le H98 H132 → Cells H132 A130 0 (xs129 ++
  [.slice A17 n18 c19, .slice A20 n21 c22]) → n127 + 1 ≤ c131 → isOpen O133 A130 45 (n127 + 1) c131 → keepO O11 O133 A126 A130 → (0 : Int) ≤ (↑n12 : Int) - (1 : Int) + (1 : Int) ∧ (↑n12 :
  Int) - (1 : Int) + (1 : Int) < (↑(n12 + 1) : Int) ∧ Int.toNat ((↑n12 : Int) - (1 : Int) + (1 : Int)) * 3 + 1 + 1 ≤ List.length (xs13 ++ [.slice A17 n18 c19, .slice none 0 0, .slice none 0
  0]) ∧ (0 : Int) ≤ (↑n12 : Int) - (1 : Int) + (1 : Int) ∧ (↑n12 : Int) - (1 : Int) + (1 : Int) < (↑(n12 + 1) : Int) ∧ ∃ (A139 : Option Addr), ∃ (n140 : Nat), ∃ (c141 : Nat), win (splice
  (xs13 ++ [.slice A17 n18 c19, .slice none 0 0, .slice none 0 0]) (Int.toNat ((↑n12 : Int) - (1 : Int) + (1 : Int)) * 3 + 1) [.slice A130 (n127 + 1) c131]) (Int.toNat ((↑n12 : Int) - (1 :
  Int) + (1 : Int)) * 3 + 2) 1 = [.slice A139 n140 c141] ∧ ∃ (post142 : Option Addr → Nat → Nat → Heap → Prop), ConT P 55 [.slice A139 n140 c141, .slice A20 n21 c22] H132 ⟨false, [(false,
  [.sl])]⟩ post142 ∧ ∀ (H143 : Heap), Heap.le H132 H143 → ∀ (A145 : Option Addr) (n146 c147 : Nat), post142 A145 n146 c147 H143 → (0 : Int) ≤ (↑n12 : Int) - (1 : Int) + (1 : Int) ∧ (↑n12 :
  Int) - (1 : Int) + (1 : Int) < (↑(n12 + 1) : Int) ∧ Int.toNat ((↑n12 : Int) - (1 : Int) + (1 : Int)) * 3 + 2 + 1 ≤ List.length (splice (xs13 ++ [.slice A17 n18 c19, .slice none 0 0, .slice
  none 0 0]) (Int.toNat ((↑n12 : Int) - (1 : Int) + (1 : Int)) * 3 + 1) [.slice A130 (n127 + 1) c131]) ∧ rng .i64 (n14 + (1 : Int)) ∧ inv7 (n12 + 1) (splice (splice (xs13 ++ [.slice A17 n18
  c19, .slice none 0 0, .slice none 0 0]) (Int.toNat ((↑n12 : Int) - (1 : Int) + (1 : Int)) * 3 + 1) [.slice A130 (n127 + 1) c131]) (Int.toNat ((↑n12 : Int) - (1 : Int) + (1 : Int)) * 3 + 2)
  [.slice A145 n146 c147]) (n14 + (1 : Int)) H143 O133 ∧ m8 (n12 + 1) (splice (splice (xs13 ++ [.slice A17 n18 c19, .slice none 0 0, .slice none 0 0]) (Int.toNat ((↑n12 : Int) - (1 : Int) +
  (1 : Int)) * 3 + 1) [.slice A130 (n127 + 1) c131]) (Int.toNat ((↑n12 : Int) - (1 : Int) + (1 : Int)) * 3 + 2) [.slice A145 n146 c147]) (n14 + (1 : Int)) < m8 n12 xs13 n14) ∧ (0 : Int) ≤
  (↑n12 : Int) - (1 : Int) + (1 : Int) ∧ (↑n12 : Int) - (1 : Int) + (1 : Int) < (↑(n12 + 1) : Int) ∧ ∃ (A149 : Option Addr), ∃ (n150 : Nat), ∃ (c151 : Nat), win (xs13 ++ [.slice A17 n18 c19,
  .slice none 0 0, .slice none 0 0]) (Int.toNat ((↑n12 : Int) - (1 : Int) + (1 : Int)) * 3 + 1) 1 = [.slice A149 n150 c151] ∧ ∃ (xs152 : List Value), isOpen O11 A149 45 n150 c151 ∧ Cells H98
  A149 0 xs152 ∧ List.length xs152 = n150 * 2 ∧ (n150 + 1) * 48 ≤ 140737488355328 ∧ ∀ (A153 : Option Addr) (c154 : Nat) (H155 : Heap) (O156 : Nat → Option XO), Heap.le H98 H155 → Cells H155
  A153 0 (xs152 ++ [.slice A17 n18 c19, .slice A20 n21 c22]) → n150 + 1 ≤ c154 → isOpen O156 A153 45 (n150 + 1) c154 → keepO O11 O156 A149 A153 → (0 : Int) ≤ (↑n12 : Int) - (1 : Int) + (1 :
  Int) ∧ (↑n12 : Int) - (1 : Int) + (1 : Int) < (↑(n12 + 1) : Int) ∧ Int.toNat ((↑n12 : Int) - (1 : Int) + (1 : Int)) * 3 + 1 + 1 ≤ List.length (xs13 ++ [.slice A17 n18 c19, .slice none 0 0,
  .slice none 0 0]) ∧ (0 : Int) ≤ (↑n12 : Int) - (1 : Int) + (1 : Int) ∧ (↑n12 : Int) - (1 : Int) + (1 : Int) < (↑(n12 + 1) : Int) ∧ ∃ (A162 : Option Addr), ∃ (n163 : Nat), ∃ (c164 : Nat),
  win (splice (xs13 ++ [.slice A17 n18 c19, .slice none 0 0, .slice none 0 0]) (Int.toNat ((↑n12 : Int) - (1 : Int) + (1 : Int)) * 3 + 1) [.slice A153 (n150 + 1) c154]) (Int.toNat ((↑n12 :
  Int) - (1 : Int) + (1 : Int)) * 3 + 2) 1 = [.slice A162 n163 c164] ∧ ∃ (post165 : Option Addr → Nat → Nat → Heap → Prop), ConT P 55 [.slice A162 n163 c164, .slice A20 n21 c22] H155 ⟨false,
  [(false, [.sl])]⟩ post165 ∧ ∀ (H166 : Heap), Heap.le H155 H166 → ∀ (A168 : Option Addr) (n169 c170 : Nat), post165 A168 n169 c170 H166 → (0 : Int) ≤ (↑n12 : Int) - (1 : Int) + (1 : Int) ∧
  (↑n12 : Int) - (1 : Int) + (1 : Int) < (↑(n12 + 1) : Int) ∧ Int.toNat ((↑n12 : Int) - (1 : Int) + (1 : Int)) * 3 + 2 + 1 ≤ List.length (splice (xs13 ++ [.slice A17 n18 c19, .slice none 0 0,
  .slice none 0 0]) (Int.toNat ((↑n12 : Int) - (1 : Int) + (1 : Int)) * 3 + 1) [.slice A153 (n150 + 1) c154]) ∧ rng .i64 (n14 + (1 : Int)) ∧ inv7 (n12 + 1) (splice (splice (xs13 ++ [.slice
  A17 n18 c19, .slice none 0 0, .slice none 0 0]) (Int.toNat ((↑n12 : Int) - (1 : Int) + (1 : Int)) * 3 + 1) [.slice A153 (n150 + 1) c154]) (Int.toNat ((↑n12 : Int) - (1 : Int) + (1 : Int)) *
  3 + 2) [.slice A168 n169 c170]) (n14 + (1 : Int)) H166 O156 ∧ m8 (n12 + 1) (splice (splice (xs13 ++ [.slice A17 n18 c19, .slice none 0 0, .slice none 0 0]) (Int.toNat ((↑n12 : Int) - (1 :
  Int) + (1 : Int)) * 3 + 1) [.slice A153 (n150 + 1) c154]) (Int.toNat ((↑n12 : Int) - (1 : Int) + (1 : Int)) * 3 + 2) [.slice A168 n169 c170]) (n14 + (1 : Int)) < m8 n12 xs13 n14) ∧
  ((!decide (n100 = (0 : Int))) = false → ((0 : Int) ≤ (↑n12 : Int) - (1 : Int) ∧ (↑n12 : Int) - (1 : Int) < (↑n12 : Int) ∧ (∃ (A173 : Option Addr), ∃ (n174 : Nat), ∃ (c175 : Nat), win xs13
  (Int.toNat ((↑n12 : Int) - (1 : Int)) * 3 + 1) 1 = [.slice A173 n174 c175] ∧ ∃ (xs176 : List Value), isOpen O11 A173 45 n174 c175 ∧ Cells H98 A173 0 xs176 ∧ List.length xs176 = n174 * 2 ∧
  (n174 + 1) * 48 ≤ 140737488355328 ∧ ∀ (A177 : Option Addr) (c178 : Nat) (H179 : Heap) (O180 : Nat → Option XO), Heap.le H98 H179 → Cells H179 A177 0 (xs176 ++ [.slice A17 n18 c19, .slice
  A20 n21 c22]) → n174 + 1 ≤ c178 → isOpen O180 A177 45 (n174 + 1) c178 → keepO O11 O180 A173 A177 → (0 : Int) ≤ (↑n12 : Int) - (1 : Int) ∧ (↑n12 : Int) - (1 : Int) < (↑n12 : Int) ∧ Int.toNat
  ((↑n12 : Int) - (1 : Int)) * 3 + 1 + 1 ≤ List.length xs13 ∧ (0 : Int) ≤ (↑n12 : Int) - (1 : Int) ∧ (↑n12 : Int) - (1 : Int) < (↑n12 : Int) ∧ ∃ (A186 : Option Addr), ∃ (n187 : Nat), ∃ (c188
  : Nat), win (splice xs13 (Int.toNat ((↑n12 : Int) - (1 : Int)) * 3 + 1) [.slice A177 (n174 + 1) c178]) (Int.toNat ((↑n12 : Int) - (1 : Int)) * 3 + 2) 1 = [.slice A186 n187 c188] ∧ ∃
  (post189 : Option Addr → Nat → Nat → Heap → Prop), ConT P 55 [.slice A186 n187 c188, .slice A20 n21 c22] H179 ⟨false, [(false, [.sl])]⟩ post189 ∧ ∀ (H190 : Heap), Heap.le H179 H190 → ∀
  (A192 : Option Addr) (n193 c194 : Nat), post189 A192 n193 c194 H190 → (0 : Int) ≤ (↑n12 : Int) - (1 : Int) ∧ (↑n12 : Int) - (1 : Int) < (↑n12 : Int) ∧ Int.toNat ((↑n12 : Int) - (1 : Int)) *
  3 + 2 + 1 ≤ List.length (splice xs13 (Int.toNat ((↑n12 : Int) - (1 : Int)) * 3 + 1) [.slice A177 (n174 + 1) c178]) ∧ rng .i64 (n14 + (1 : Int)) ∧ inv7 n12 (splice (splice xs13 (Int.toNat
  ((↑n12 : Int) - (1 : Int)) * 3 + 1) [.slice A177 (n174 + 1) c178]) (Int.toNat ((↑n12 : Int) - (1 : Int)) * 3 + 2) [.slice A192 n193 c194]) (n14 + (1 : Int)) H190 O180 ∧ m8 n12 (splice
  (splice xs13 (Int.toNat ((↑n12 : Int) - (1 : Int)) * 3 + 1) [.slice A177 (n174 + 1) c178]) (Int.toNat ((↑n12 : Int) - (1 : Int)) * 3 + 2) [.slice A192 n193 c194]) (n14 + (1 : Int)) < m8 n12
  xs13 n14) ∧ ∃ (A196 : Option Addr), ∃ (n197 : Nat), ∃ (c198 : Nat), win xs13 (Int.toNat ((↑n12 : Int) - (1 : Int)) * 3 + 1) 1 = [.slice A196 n197 c198] ∧ ∃ (xs199 : List Value), isOpen O11
  A196 45 n197 c198 ∧ Cells H98 A196 0 xs199 ∧ List.length xs199 = n197 * 2 ∧ (n197 + 1) * 48 ≤ 140737488355328 ∧ ∀ (A200 : Option Addr) (c201 : Nat) (H202 : Heap) (O203 : Nat → Option XO),
  Heap.le H98 H202 → Cells H202 A200 0 (xs199 ++ [.slice A17 n18 c19, .slice A20 n21 c22]) → n197 + 1 ≤ c201 → isOpen O203 A200 45 (n197 + 1) c201 → keepO O11 O203 A196 A200 → (0 : Int) ≤
  (↑n12 : Int) - (1 : Int) ∧ (↑n12 : Int) - (1 : Int) < (↑n12 : Int) ∧ Int.toNat ((↑n12 : Int) - (1 : Int)) * 3 + 1 + 1 ≤ List.length xs13 ∧ (0 : Int) ≤ (↑n12 : Int) - (1 : Int) ∧ (↑n12 :
  Int) - (1 : Int) < (↑n12 : Int) ∧ ∃ (A209 : Option Addr), ∃ (n210 : Nat), ∃ (c211 : Nat), win (splice xs13 (Int.toNat ((↑n12 : Int) - (1 : Int)) * 3 + 1) [.slice A200 (n197 + 1) c201])
  (Int.toNat ((↑n12 : Int) - (1 : Int)) * 3 + 2) 1 = [.slice A209 n210 c211] ∧ ∃ (post212 : Option Addr → Nat → Nat → Heap → Prop), ConT P 55 [.slice A209 n210 c211, .slice A20 n21 c22] H202
  ⟨false, [(false, [.sl])]⟩ post212 ∧ ∀ (H213 : Heap), Heap.le H202 H213 → ∀ (A215 : Option Addr) (n216 c217 : Nat), post212 A215 n216 c217 H213 → (0 : Int) ≤ (↑n12 : Int) - (1 : Int) ∧ (↑n12
  : Int) - (1 : Int) < (↑n12 : Int) ∧ Int.toNat ((↑n12 : Int) - (1 : Int)) * 3 + 2 + 1 ≤ List.length (splice xs13 (Int.toNat ((↑n12 : Int) - (1 : Int)) * 3 + 1) [.slice A200 (n197 + 1) c201])
  ∧ rng .i64 (n14 + (1 : Int)) ∧ inv7 n12 (splice (splice xs13 (Int.toNat ((↑n12 : Int) - (1 : Int)) * 3 + 1) [.slice A200 (n197 + 1) c201]) (Int.toNat ((↑n12 : Int) - (1 : Int)) * 3 + 2)
  [.slice A215 n216 c217]) (n14 + (1 : Int)) H213 O203 ∧ m8 n12 (splice (splice xs13 (Int.toNat ((↑n12 : Int) - (1 : Int)) * 3 + 1) [.slice A200 (n197 + 1) c201]) (Int.toNat ((↑n12 : Int) -
  (1 : Int)) * 3 + 2) [.slice A215 n216 c217]) (n14 + (1 : Int)) < m8 n12 xs13 n14) ∧ (0 : Int) ≤ (↑n12 : Int) - (1 : Int) ∧ (↑n12 : Int) - (1 : Int) < (↑n12 : Int) ∧ ∃ (A219 : Option Addr),
  ∃ (n220 : Nat), ∃ (c221 : Nat), win xs13 (Int.toNat ((↑n12 : Int) - (1 : Int)) * 3 + 1) 1 = [.slice A219 n220 c221] ∧ ∃ (xs222 : List Value), isOpen O11 A219 45 n220 c221 ∧ Cells H98 A219 0
  xs222 ∧ List.length xs222 = n220 * 2 ∧ (n220 + 1) * 48 ≤ 140737488355328 ∧ ∀ (A223 : Option Addr) (c224 : Nat) (H225 : Heap) (O226 : Nat → Option XO), Heap.le H98 H225 → Cells H225 A223 0
  (xs222 ++ [.slice A17 n18 c19, .slice A20 n21 c22]) → n220 + 1 ≤ c224 → isOpen O226 A223 45 (n220 + 1) c224 → keepO O11 O226 A219 A223 → (0 : Int) ≤ (↑n12 : Int) - (1 : Int) ∧ (↑n12 : Int)
  - (1 : Int) < (↑n12 : Int) ∧ Int.toNat ((↑n12 : Int) - (1 : Int)) * 3 + 1 + 1 ≤ List.length xs13 ∧ (0 : Int) ≤ (↑n12 : Int) - (1 : Int) ∧ (↑n12 : Int) - (1 : Int) < (↑n12 : Int) ∧ ∃ (A232 :
  Option Addr), ∃ (n233 : Nat), ∃ (c234 : Nat), win (splice xs13 (Int.toNat ((↑n12 : Int) - (1 : Int)) * 3 + 1) [.slice A223 (n220 + 1) c224]) (Int.toNat ((↑n12 : Int) - (1 : Int)) * 3 + 2) 1
  = [.slice A232 n233 c234] ∧ ∃ (post235 : Option Addr → Nat → Nat → Heap → Prop), ConT P 55 [.slice A232 n233 c234, .slice A20 n21 c22] H225 ⟨false, [(false, [.sl])]⟩ post235 ∧ ∀ (H236 :
  Heap), Heap.le H225 H236 → ∀ (A238 : Option Addr) (n239 c240 : Nat), post235 A238 n239 c240 H236 → (0 : Int) ≤ (↑n12 : Int) - (1 : Int) ∧ (↑n12 : Int) - (1 : Int) < (↑n12 : Int) ∧ Int.toNat
  ((↑n12 : Int) - (1 : Int)) * 3 + 2 + 1 ≤ List.length (splice xs13 (Int.toNat ((↑n12 : Int) - (1 : Int)) * 3 + 1) [.slice A223 (n220 + 1) c224]) ∧ rng .i64 (n14 + (1 : Int)) ∧ inv7 n12
  (splice (splice xs13 (Int.toNat ((↑n12 : Int) - (1 : Int)) * 3 + 1) [.slice A223 (n220 + 1) c224]) (Int.toNat ((↑n12 : Int) - (1 : Int)) * 3 + 2) [.slice A238 n239 c240]) (n14 + (1 : Int))
  H236 O226 ∧ m8 n12 (splice (splice xs13 (Int.toNat ((↑n12 : Int) - (1 : Int)) * 3 + 1) [.slice A223 (n220 + 1) c224]) (Int.toNat ((↑n12 : Int) - (1 : Int)) * 3 + 2) [.slice A238 n239 c240])
  (n14 + (1 : Int)) < m8 n12 xs13 n14))) ∧ (decide (n14 < (↑n4 : Int)) = false → ∀ (A243 : Option Addr) (c244 : Nat) (H245 : Heap), Heap.le H9 H245 → Cells H245 A243 0 xs13 → n12 ≤ c244 →
  post A243 n12 c244 H245)) := by kernel_rfl
set_option maxHeartbeats 2000000 in
theorem ref9_runs {H : Heap} {A : Option Addr} {n c : Nat} {l : List Rw} (hs : Sl H A n c l) (hlin : ∀ r ∈ l, r.lin = []) (hb : n * 72 ≤ 140737488355328) :
    ConT Tryz.prog 83 [.slice A n c] H shS (fun A' n' c' H' => ∃ rs : List RunR, Sl H' A' n' c' rs ∧ (∀ r ∈ rs, r.lin = []) ∧ n' ≤ n ∧ ascV (rs.map (·.vals)) ∧ ∀ v, v ∈ rs.map (·.vals) ↔ ∃ r ∈ l, r.vals = v) := by
  refine con_of_vc (an := an83) (fn := Tryz.f83) mix tabOK Tryz.func83 (by kernel_rfl) (extra := 1) ?_
  rw [vc83]
  have hl := hs.len
  refine ⟨_, ref6_Sort hs, ?_⟩
  rintro H1 l1 A3 n4 c5 ⟨m, hm, hmp, hms⟩
  have hml := hm.len
  have hmn : n4 = n := by rw [← hml, hmp.length_eq, hl]
  subst hmn
  refine ⟨fun k xs i H' O => 0 ≤ i ∧ i ≤ n4 ∧ ∃ rs : List RunR, rs.length = k ∧ k ≤ i.toNat ∧ RunsOK O H' xs rs ∧ (∀ j (hj : j < rs.length), rs[j].m ≤ i.toNat) ∧ GrpV (rs.map (·.vals)) (m.take i.toNat), fun _ _ i => n4 - i.toNat,
    ⟨by omega, by omega, [], rfl, by omega, ⟨rfl, fun j h => by simp at h, fun j k h => by simp at h, fun j h => by simp at h⟩, fun j h => by simp at h, GrpV.nil⟩, ?_⟩
  rintro H9 l9 O k xs i ⟨i0, i1, rs, rfl, hki, hok, hmb, hgr⟩
  refine ⟨fun hlt => ?_, fun hge => ?_⟩
  · have hlt := of_decide_eq_true hlt
    obtain ⟨hi, hA, _, hc, hrel⟩ := hm.at l9 i0 hlt
    obtain ⟨A17, n18, c19, A20, n21, c22, rfl, q1, q2⟩ := hrel
    have hxl : m[i.toNat].lin = [] := hlin _ (hmp.mem_iff.1 (List.getElem_mem hi))
    have hsu : m.take (i + 1).toNat = m.take i.toNat ++ [m[i.toNat]] := by rw [show (i + 1).toNat = i.toNat + 1 by omega, List.take_succ_eq_append_getElem hi]
    have hbel : ∀ q ∈ m.take i.toNat, leF cmpVs q.vals m[i.toNat].vals := by
      intro q hq
      obtain ⟨j, hj, rfl⟩ := List.getElem_of_mem hq
      rw [List.length_take] at hj
      rw [List.getElem_take]
      exact leRw_vals (List.pairwise_iff_getElem.1 hms j i.toNat (by omega) hi (by omega))
    generalize m[i.toNat] = x at q1 q2 hxl hsu hbel
    have mb : ∀ {i' : Nat}, i' ≤ n4 → ∀ j, j ≤ i'.pred → (j + 1) * 48 ≤ 140737488355328 := fun {i'} h j hj => by
      cases i' with
      | zero => simp at hj; omega
      | succ i' => simp at hj; omega
    have newRun : ∀ {H' : Heap}, Heap.le H9 H' → (rs.map (·.vals)).getLast? ≠ some x.vals →
        RunF Tryz.prog H' O (rs.length + 1) (xs ++ [.slice A17 n18 c19, .slice none 0 0, .slice none 0 0]) ((rs.length : Int) - 1 + 1) A17 n18 c19 A20 n21 c22
          (fun xs' H' O' => rng .i64 (i + 1) ∧ (0 ≤ i + 1 ∧ i + 1 ≤ n4 ∧ ∃ rs' : List RunR, rs'.length = rs.length + 1 ∧ rs.length + 1 ≤ (i + 1).toNat ∧ RunsOK O' H' xs' rs' ∧ (∀ j (hj : j < rs'.length), rs'[j].m ≤ (i + 1).toNat) ∧ GrpV (rs'.map (·.vals)) (m.take (i + 1).toNat)) ∧ n4 - (i + 1).toNat < n4 - i.toNat) := by
      intro H' l' hlast
      refine runF_ok (x := x) ((hok.mono l').new (q1.mono l')) (by simp) (by omega) (by omega) (q1.mono l') (q2.mono l') hxl (fun j hj => ?_) ?_
      · have : (rs ++ [(⟨x.vals, none, 0, 0, [], []⟩ : RunR)])[j].m ≤ i.toNat := by
          rw [List.getElem_append]
          split
          · exact hmb j _
          · simp
        have : i.toNat < n4 := by omega
        omega
      · intro xs' H2 O' rs' l2 hok' hmap hm'
        have hrl : rs'.length = rs.length + 1 := by
          have := congrArg List.length hmap
          simpa using this
        refine ⟨by simp only [rng]; omega, ⟨by omega, by omega, rs', hrl, by omega, hok', fun j hj => ?_, ?_⟩, by omega⟩
        · have hj2 : j < (rs ++ [(⟨x.vals, none, 0, 0, [], []⟩ : RunR)]).length := by simp; omega
          have h1 := hm' j hj hj2
          have : (rs ++ [(⟨x.vals, none, 0, 0, [], []⟩ : RunR)])[j].m ≤ i.toNat := by
            rw [List.getElem_append]
            split
            · exact hmb j _
            · simp
          omega
        · rw [hmap, List.map_append, hsu]
          exact hgr.new hlast hbel
    refine ⟨hA, i0, hlt, _, _, _, _, _, _, hc, by simp only [rng]; omega, fun hk => ?_, fun hk => ?_⟩
    · have hk := of_decide_eq_true hk
      have : rs = [] := List.eq_nil_of_length_eq_zero (by omega)
      refine ⟨by omega, by simp only [rng]; omega, newRun (hle_refl _) ?_⟩
      rw [this]; simp
    · have hk := of_decide_eq_false hk
      have hj : ((rs.length : Int) - 1).toNat < rs.length := by omega
      obtain ⟨vs, ⟨A1, n1, c1, C1, k1, e1, rfl, p1, p2⟩, hg, -⟩ := hok.row.getf hj
      have hlast : (rs.map (·.vals)).getLast? = some rs[((rs.length : Int) - 1).toNat].vals := by
        rw [List.getLast?_eq_getElem?, List.length_map, List.getElem?_map, List.getElem?_eq_getElem (by omega)]
        simp only [Option.map_some]
        congr 3; omega
      refine ⟨by omega, by omega, _, _, _, hg 0 1 (by decide), _, ref6_CompareRows p1 q1, ?_⟩
      rintro H98 l98 _ rfl
      refine ⟨fun hne => ⟨by omega, by simp only [rng]; omega, newRun l98 ?_⟩, fun heq => ?_⟩
      · rw [hlast]
        intro e
        simp only [Option.some.injEq] at e
        rw [e, cmpVs_ord.refl] at hne
        simp at hne
      · have heq : rs[((rs.length : Int) - 1).toNat].vals = x.vals := by
          refine cmpVs_zero.1 ?_
          simpa using heq
        refine runF_ok (x := x) (R := fun xs' H' O' => rng .i64 (i + 1) ∧ (0 ≤ i + 1 ∧ i + 1 ≤ n4 ∧ ∃ rs' : List RunR, rs'.length = rs.length ∧ rs.length ≤ (i + 1).toNat ∧ RunsOK O' H' xs' rs' ∧ (∀ j (hj : j < rs'.length), rs'[j].m ≤ (i + 1).toNat) ∧ GrpV (rs'.map (·.vals)) (m.take (i + 1).toNat)) ∧ n4 - (i + 1).toNat < n4 - i.toNat)
          (hok.mono l98) rfl (by omega) (by omega) (q1.mono l98) (q2.mono l98) hxl (fun j hj => ?_) ?_
        · have := hmb j hj
          have : i.toNat < n4 := by omega
          omega
        · intro xs' H2 O' rs' l2 hok' hmap hm'
          have hrl : rs'.length = rs.length := by
            have := congrArg List.length hmap
            simpa using this
          refine ⟨by simp only [rng]; omega, ⟨by omega, by omega, rs', hrl, by omega, hok', fun j hj => ?_, ?_⟩, by omega⟩
          · have h1 := hm' j hj (by omega)
            have h2 := hmb j (by omega)
            omega
          · rw [hmap, hsu]
            exact hgr.old (by rw [hlast, heq])
  · have hge := of_decide_eq_false hge
    intro A2 c2 H2 l2 hc2 hn2
    have hall : m.take i.toNat = m := List.take_of_length_le (by omega)
    rw [hall] at hgr
    refine ⟨rs, hok.row.sl l2 hc2 rfl hn2 (by show rs.length * 72 ≤ _; omega) (by omega), fun r hr => ?_, by omega, hgr.asc, fun v => ?_⟩
    · obtain ⟨j, hj, rfl⟩ := List.getElem_of_mem hr
      exact hok.lin j hj
    · rw [hgr.mem]
      constructor
      · rintro ⟨r, h1, h2⟩; exact ⟨r, hmp.mem_iff.1 h1, h2⟩
      · rintro ⟨r, h1, h2⟩; exact ⟨r, hmp.mem_iff.2 h1, h2⟩
end Go.Vc
