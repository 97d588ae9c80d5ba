/- Tuples by key, their boundaries, merged lineages. -/
import Derived.Test.YtkfbbnagniolcaaGH713
import Derived.Test.YtkfbbnagniolcaaGH714
import Derived.Test.YtkfbbnagniolcaaGH710
set_option linter.unusedSectionVars false
set_option linter.unusedSimpArgs false
set_option linter.unusedVariables false
namespace Go.Vc
open Go Go.Proofs Go.Shelf
def byKeyL (l : List Tup) (cols : List Int) : List Kd := (l.filter fun t => pOk t.p).map fun t => ⟨keyVals t.vals cols, t⟩
theorem byKeyL_succ {l : List Tup} {cols : List Int} {i : Nat} (hi : i < l.length) : byKeyL (l.take (i + 1)) cols = byKeyL (l.take i) cols ++ (if pOk l[i].p then [⟨keyVals l[i].vals cols, l[i]⟩] else []) := by
  rw [List.take_succ_eq_append_getElem hi]
  simp only [byKeyL, List.filter_append, List.map_append, List.filter_cons, List.filter_nil]
  split <;> simp
theorem byKeyL_len (l : List Tup) (cols : List Int) : (byKeyL l cols).length ≤ l.length := by
  simp only [byKeyL, List.length_map]; exact List.length_filter_le _ _
def an31 : Ann where
  res := fun _ => none
  lend := fun | 16 => true | _ => false
  mt := fun | 48 => some true | _ => none
  sch := fun | 6 => (tk [0, 1, 2, 3, 5] (.alt 4 (tk [6] (.alt 7 (.alt 8 (tk [9] .done) .fin) .fin)) .fin)) | _ => .done
  lt := fun | 3 => [.slot 5 false [.row 30 68], .slot 10 false [.int .i64]] | _ => []
  tup := tups

theorem vc31 (P : Program) (H : Heap) (lA : Option Addr) (lN lC : Nat) (colsA : Option Addr) (colsN colsC : Nat) (post : Option Addr → Nat → Nat → Heap → Prop) :
  vcFn P tab an31 Try.f31 [.slice lA lN lC, .slice colsA colsN colsC] 1 H ⟨false, [(false, [.sl])]⟩ post =
  (  ∃ (inv0 : Nat → List Value → Int → Heap → Prop), ∃ (m1 : Nat → List Value → Int → Nat), inv0 0 [] (0 : Int) H ∧ ∀ (H2 : Heap), Heap.le H H2 → ∀ (n4 : Nat) (xs5 : List Value) (n6 : Int),
  inv0 n4 xs5 n6 H2 → (decide (n6 < (↑lN : Int)) = true → someA lA ∧ (0 : Int) ≤ n6 ∧ n6 < (↑lN : Int) ∧ ∃ (A9 : Option Addr), ∃ (n10 : Nat), ∃ (c11 : Nat), ∃ (n12 : Int), ∃ (n13 : Int), ∃
  (A14 : Option Addr), ∃ (n15 : Nat), ∃ (c16 : Nat), Cells H2 lA (Int.toNat n6 * 4) [.slice A9 n10 c11, .int .i64 n12, .int .i64 n13, .slice A14 n15 c16] ∧ ∃ (post17 : Bool → Heap → Prop),
  ConT P 37 [.agg ⟨[.int .i64 n12, .int .i64 n13]⟩] H2 ⟨false, [(false, [.bool])]⟩ post17 ∧ ∀ (H18 : Heap), Heap.le H2 H18 → ∀ (b20 : Bool), post17 b20 H18 → (b20 = true → ∃ (post23 : Option
  Addr → Nat → Nat → Heap → Prop), ConT P 11 [.slice A9 n10 c11, .slice colsA colsN colsC] H18 ⟨false, [(false, [.sl])]⟩ post23 ∧ ∀ (H24 : Heap), Heap.le H18 H24 → ∀ (A26 : Option Addr) (n27
  c28 : Nat), post23 A26 n27 c28 H24 → (n4 + 1) * 88 ≤ 140737488355328 ∧ rng .i64 (n6 + (1 : Int)) ∧ inv0 (n4 + 1) (xs5 ++ [.slice A26 n27 c28, .slice A9 n10 c11, .int .i64 n12, .int .i64
  n13, .slice A14 n15 c16]) (n6 + (1 : Int)) H24 ∧ m1 (n4 + 1) (xs5 ++ [.slice A26 n27 c28, .slice A9 n10 c11, .int .i64 n12, .int .i64 n13, .slice A14 n15 c16]) (n6 + (1 : Int)) < m1 n4 xs5
  n6) ∧ (b20 = false → rng .i64 (n6 + (1 : Int)) ∧ inv0 n4 xs5 (n6 + (1 : Int)) H18 ∧ m1 n4 xs5 (n6 + (1 : Int)) < m1 n4 xs5 n6)) ∧ (decide (n6 < (↑lN : Int)) = false → ∃ (post32 : List Value
  → Heap → Prop), ConM P 48 [.slice none 0 0, .func (.func 49) ⟨[]⟩ ⟨[]⟩] 0 68 n4 xs5 true H2 ⟨true, []⟩ post32 ∧ ∀ (H33 : Heap), Heap.le H2 H33 → ∀ (ys35 : List Value), post32 ys35 H33 → ∀
  (A37 : Option Addr) (c38 : Nat) (H39 : Heap), Heap.le H33 H39 → Cells H39 A37 0 ys35 → n4 ≤ c38 → post A37 n4 c38 H39)) := by kernel_rfl
theorem keys_byKey {H : Heap} {A B : Option Addr} {n c m d : Nat} {l : List Tup} {cols : List Int} (hs : Sl H A n c l) (ht : Sl H B m d cols) (hb : m * 32 ≤ 140737488355328) (hn : n < 300) :
    ConT Try.prog 31 [.slice A n c, .slice B m d] H shS (fun A' n' c' H' => ∃ g : List Kd, Sl H' A' n' c' g ∧ g.Perm (byKeyL l cols) ∧ g.Pairwise (fun a b => ¬ cmpKd b a < 0)) := by
  refine con_of_vc (an := an31) (fn := Try.f31) mix tabOK Try.func31 (by kernel_rfl) (extra := 1) ?_
  rw [vc31]
  have hl := hs.len
  refine ⟨fun k xs i H' => 0 ≤ i ∧ i ≤ n ∧ k = (byKeyL (l.take i.toNat) cols).length ∧ Row H' xs (byKeyL (l.take i.toNat) cols), fun _ _ i => n - i.toNat, ⟨by omega, by omega, rfl, rfl⟩, ?_⟩
  rintro H2 hle k xs i ⟨h0, h1, hk, hr⟩
  have hlen := byKeyL_len (l.take i.toNat) cols
  rw [List.length_take] at hlen
  have e1 : (i + 1).toNat = i.toNat + 1 := by omega
  refine ⟨fun hlt => ?_, fun hge => ?_⟩
  · have hlt := of_decide_eq_true hlt
    obtain ⟨hi, hA, _, hc, ⟨A9, n9, c9, A14, n15, c16, rfl, q1, q2, q3, q4⟩⟩ := hs.at hle h0 hlt
    refine ⟨hA, h0, hlt, _, _, _, _, _, _, _, _, hc, _, period_Valid, ?_⟩
    rintro H3 l3 _ rfl
    have hsu := byKeyL_succ (cols := cols) hi
    refine ⟨fun hp => ?_, fun hp => ?_⟩
    · refine ⟨_, keys_Values (q1.mono l3) (ht.mono (hle_trans hle l3)) hb, ?_⟩
      intro H4 l4 A4 n4 c4 h4
      have hp' : pOk l[i.toNat].p = true := hp
      rw [if_pos hp'] at hsu
      refine ⟨by omega, by simp only [rng]; omega, ⟨by omega, by omega, by rw [e1, hsu, List.length_append, ← hk]; rfl, ?_⟩, by dsimp only; omega⟩
      rw [e1, hsu]
      refine (hr.mono (hle_trans l3 l4)).append ⟨_, [], by simp, ⟨_, _, _, _, _, _, _, _, _, rfl, h4, q1.mono (hle_trans l3 l4), q2, q3, q4.mono (hle_trans l3 l4)⟩, rfl⟩
    · have hp' : ¬ pOk l[i.toNat].p = true := by
        have hp : pOk ⟨l[i.toNat].p.lo, l[i.toNat].p.hi⟩ = false := hp
        intro h
        have h : pOk ⟨l[i.toNat].p.lo, l[i.toNat].p.hi⟩ = true := h
        rw [hp] at h; cases h
      rw [if_neg hp', List.append_nil] at hsu
      exact ⟨by simp only [rng]; omega, ⟨by omega, by omega, by rw [e1, hsu]; exact hk, by rw [e1, hsu]; exact hr.mono l3⟩, by dsimp only; omega⟩
  · have hge := of_decide_eq_false hge
    rw [List.take_of_length_le (by omega)] at hk hr
    have hlen := byKeyL_len l cols
    refine ⟨_, SortStable_Kd hr hk.symm (by omega) ⟨_, Try.func49, rfl, by kernel_rfl⟩ cmpKd_swo (fun H' vs us s t h1 h2 h3 => keys_byKey1 (H := H) H' vs us s t (hle_trans hle h1) h2 h3), ?_⟩
    rintro H3 l3 ys ⟨g, g1, g2, g3⟩ A4 c4 H4 l4 hc4 hn4
    exact ⟨g, g1.sl l4 hc4 (by rw [g2.length_eq, hk]) hn4 (by show k * 88 ≤ _; omega) (by omega), g2, g3⟩
def sortI (l : List Int) : List Int := l.mergeSort fun x y => decide (x ≤ y)
def ends (l : List Kd) : List Int := l.flatMap fun k => [k.t.p.lo, k.t.p.hi]
def points (l : List Kd) : List Int := Lib.compact (sortI (ends l))
theorem ends_succ {l : List Kd} {i : Nat} (hi : i < l.length) : ends (l.take (i + 1)) = ends (l.take i) ++ [l[i].t.p.lo, l[i].t.p.hi] := by
  rw [List.take_succ_eq_append_getElem hi, ends, List.flatMap_append]; simp [ends]
theorem ends_len : ∀ l : List Kd, (ends l).length = 2 * l.length
  | [] => rfl
  | k :: l => by
    have := ends_len l
    simp only [ends, List.flatMap_cons, List.length_append, List.length_cons, List.length_nil] at *
    omega
theorem compact_len (l : List Int) : (Lib.compact l).length ≤ l.length := (compact_sub l).length_le
theorem sortI_len (l : List Int) : (sortI l).length = l.length := by simp [sortI]
def an54 : Ann where
  res := fun | 27 => some ⟨false, [(false, [.row 28 3])]⟩ | _ => none
  lend := fun _ => false
  mt := fun | 61 => some true | 74 => some false | _ => none
  sch := fun _ => .done
  lt := fun | 3 => [.slot 3 false [.row 29 3], .slot 8 false [.int .i64]] | _ => []
  tup := tups

theorem vc54 (P : Program) (H : Heap) (lA : Option Addr) (lN lC : Nat) (post : Option Addr → Nat → Nat → Heap → Prop) :
  vcFn P tab an54 Try.f54 [.slice lA lN lC] 2 H ⟨false, [(false, [.sl])]⟩ post =
  (  ∃ (inv0 : Nat → List Value → Int → Heap → Prop), ∃ (m1 : Nat → List Value → Int → Nat), inv0 0 [] (0 : Int) H ∧ ∀ (H2 : Heap), Heap.le H H2 → ∀ (n4 : Nat) (xs5 : List Value) (n6 : Int),
  inv0 n4 xs5 n6 H2 → (decide (n6 < (↑lN : Int)) = true → someA lA ∧ (0 : Int) ≤ n6 ∧ n6 < (↑lN : Int) ∧ ∃ (A9 : Option Addr), ∃ (n10 : Nat), ∃ (c11 : Nat), ∃ (A12 : Option Addr), ∃ (n13 :
  Nat), ∃ (c14 : Nat), ∃ (n15 : Int), ∃ (n16 : Int), ∃ (A17 : Option Addr), ∃ (n18 : Nat), ∃ (c19 : Nat), Cells H2 lA (Int.toNat n6 * 5) [.slice A9 n10 c11, .slice A12 n13 c14, .int .i64 n15,
  .int .i64 n16, .slice A17 n18 c19] ∧ (n4 + 2) * 8 ≤ 140737488355328 ∧ rng .i64 (n6 + (1 : Int)) ∧ inv0 (n4 + 2) (xs5 ++ [.int .i64 n15, .int .i64 n16]) (n6 + (1 : Int)) H2 ∧ m1 (n4 + 2)
  (xs5 ++ [.int .i64 n15, .int .i64 n16]) (n6 + (1 : Int)) < m1 n4 xs5 n6) ∧ (decide (n6 < (↑lN : Int)) = false → ∃ (post21 : List Value → Heap → Prop), ConM P 61 [.slice none 0 0] 0 3 n4 xs5
  true H2 ⟨true, []⟩ post21 ∧ ∀ (H22 : Heap), Heap.le H2 H22 → ∀ (ys24 : List Value), post21 ys24 H22 → ∃ (post26 : List Value → Nat → List Value → Heap → Prop), ConM P 74 [.slice none 0 0] 0
  3 n4 ys24 false H22 ⟨false, [(false, [.row 28 3])]⟩ post26 ∧ ∀ (H27 : Heap), Heap.le H22 H27 → ∀ (ys29 : List Value) (n30 : Nat) (xs31 : List Value), post26 ys29 n30 xs31 H27 → ∀ (A33 :
  Option Addr) (c34 : Nat) (H35 : Heap), Heap.le H27 H35 → Cells H35 A33 0 xs31 → n30 ≤ c34 → post A33 n30 c34 H35)) := by kernel_rfl
theorem keys_boundaries {H : Heap} {A : Option Addr} {n c : Nat} {l : List Kd} (hs : Sl H A n c l) : ConT Try.prog 54 [.slice A n c] H shS (fun A' n' c' H' => Sl H' A' n' c' (points l)) := by
  refine con_of_vc (an := an54) (fn := Try.f54) mix tabOK Try.func54 (by kernel_rfl) (extra := 2) ?_
  rw [vc54]
  have hl := hs.len
  have hbd : n * 88 ≤ 140737488355328 := hs.bnd
  refine ⟨fun k xs i H' => 0 ≤ i ∧ i ≤ n ∧ k = (ends (l.take i.toNat)).length ∧ Row H' xs (ends (l.take i.toNat)), fun _ _ i => n - i.toNat, ⟨by omega, by omega, rfl, rfl⟩, ?_⟩
  rintro H2 hle k xs i ⟨h0, h1, hk, hr⟩
  have hlen := ends_len (l.take i.toNat)
  rw [List.length_take] at hlen
  have e1 : (i + 1).toNat = i.toNat + 1 := by omega
  refine ⟨fun hlt => ?_, fun hge => ?_⟩
  · have hlt := of_decide_eq_true hlt
    obtain ⟨hi, hA, _, hc, ⟨E9, n9, c9, A12, n13, c14, A17, n18, c19, rfl, q0, q1, q2, q3, q4⟩⟩ := hs.at hle h0 hlt
    have hsu := ends_succ hi
    refine ⟨hA, h0, hlt, _, _, _, _, _, _, _, _, _, _, _, hc, by omega, by simp only [rng]; omega, ⟨by omega, by omega, by rw [e1, hsu, List.length_append, ← hk]; rfl, ?_⟩, by dsimp only; omega⟩
    rw [e1, hsu]
    exact hr.append ⟨[_], [_], rfl, ⟨rfl, q2⟩, [_], [], rfl, ⟨rfl, q3⟩, rfl⟩
  · have hge := of_decide_eq_false hge
    rw [List.take_of_length_le (by omega)] at hk hr
    have hlen := ends_len l
    refine ⟨_, Sort_Int hr hk.symm (by omega), ?_⟩
    intro H3 l3 ys h3
    have h3 : Row H3 ys (sortI (ends l)) := h3
    refine ⟨_, Compact_Int h3 (by rw [sortI_len, hk]) (by omega), ?_⟩
    rintro H4 l4 zs n4 xs4 ⟨rfl, h4⟩ A5 c5 H5 l5 hc5 hn5
    have b1 := compact_len (sortI (ends l))
    rw [sortI_len] at b1
    exact h4.sl l5 hc5 rfl hn5 (by show (Lib.compact (sortI (ends l))).length * 8 ≤ _; omega) (by omega)
def growL_Int_ren : Go.Shelf.Ren := ⟨fun | 4 => 112 | n => n, fun | 22 => 23 | 25 => 3 | 3 => 3 | 4 => 4 | 9 => 9 | 20 => 20 | 0 => 0 | n => n, fun n => n⟩
theorem growL_Int : Lays8.n4 Try.prog growL_Int_ren where
  mixed := by kernel_rfl
  f4 := ⟨Try.f112.name, by kernel_rfl, Try.func112.trans (congrArg some (by kernel_rfl))⟩
  t0 := Try.underlying0
  a0 := Try.isAgg0
  z0 := Try.sizeOf0
  v0 := Try.zeroValue0
  t3 := Try.underlying3
  a3 := Try.isAgg3
  z3 := Try.sizeOf3
  v3 := Try.zeroValue3
  t4 := Try.underlying4
  a4 := Try.isAgg4
  z4 := Try.sizeOf4
  v4 := Try.zeroValue4
  t9 := Try.underlying9
  a9 := Try.isAgg9
  z9 := Try.sizeOf9
  v9 := Try.zeroValue9
  t20 := Try.underlying20
  a20 := Try.isAgg20
  z20 := Try.sizeOf20
  v20 := Try.zeroValue20
  t22 := Try.underlying23
  a22 := Try.isAgg23
  z22 := Try.sizeOf23
  v22 := Try.zeroValue23
theorem Grow_Int {n : Int} {r : Nat} {H : Heap} (h0 : 0 ≤ n) (hb : n * 8 ≤ 140737488355328) :
    ConT Try.prog 112 [.slice none 0 0, .int .i64 n] H ⟨false, [(false, [.row r 3])]⟩ (fun m xs _ => m = 0 ∧ xs = []) := by
  have h := grow_con (Γ := tab) tabOK growL_Int (j := (tab 3).get rfl) rfl (by decide) (by decide) (n := n.toNat) (r := r) (H := H) (by show n.toNat * 8 ≤ _; omega)
  rw [Int.toNat_of_nonneg h0] at h
  exact h
def an90 : Ann where
  res := fun | 24 => some ⟨false, [(false, [.row 36 3])]⟩ | _ => none
  lend := fun _ => false
  sch := fun _ => .done
  lt := fun | 3 => [.slot 3 false [.int .i64], .slot 11 false [.int .i64]] | 11 => [.slot 6 false [.row 37 3], .slot 27 false [.int .i64]] | _ => []
  tup := tups

theorem vc90 (P : Program) (H : Heap) (slicesA : Option Addr) (slicesN slicesC : Nat) (ri0 : Nat) (post : Nat → List Value → Heap → Prop) :
  vcFn P tab an90 Try.f90 [.slice slicesA slicesN slicesC] 2 H ⟨false, [(false, [.row ri0 3])]⟩ post =
  (  ∃ (inv0 : Int → Int → Heap → Prop), ∃ (m1 : Int → Int → Nat), inv0 (0 : Int) (0 : Int) H ∧ ∀ (H2 : Heap), Heap.le H H2 → ∀ (n4 n5 : Int), inv0 n4 n5 H2 → (decide (n5 < (↑slicesN : Int)) =
  true → someA slicesA ∧ (0 : Int) ≤ n5 ∧ n5 < (↑slicesN : Int) ∧ ∃ (A8 : Option Addr), ∃ (n9 : Nat), ∃ (c10 : Nat), Cells H2 slicesA (Int.toNat n5 * 1) [.slice A8 n9 c10] ∧ rng .i64 (n4 +
  (↑n9 : Int)) ∧ (decide (n4 + (↑n9 : Int) < (0 : Int)) = true → False) ∧ (decide (n4 + (↑n9 : Int) < (0 : Int)) = false → rng .i64 (n5 + (1 : Int)) ∧ inv0 (n4 + (↑n9 : Int)) (n5 + (1 : Int))
  H2 ∧ m1 (n4 + (↑n9 : Int)) (n5 + (1 : Int)) < m1 n4 n5)) ∧ (decide (n5 < (↑slicesN : Int)) = false → ∃ (post14 : Nat → List Value → Heap → Prop), ConT P 112 [.slice none 0 0, .int .i64 n4]
  H2 ⟨false, [(false, [.row 36 3])]⟩ post14 ∧ ∀ (H15 : Heap), Heap.le H2 H15 → ∀ (n17 : Nat) (xs18 : List Value), post14 n17 xs18 H15 → ∃ (inv20 : Nat → List Value → Int → Heap → Prop), ∃
  (m21 : Nat → List Value → Int → Nat), inv20 n17 xs18 (0 : Int) H15 ∧ ∀ (H22 : Heap), Heap.le H15 H22 → ∀ (n24 : Nat) (xs25 : List Value) (n26 : Int), inv20 n24 xs25 n26 H22 → (decide (n26 <
  (↑slicesN : Int)) = true → someA slicesA ∧ (0 : Int) ≤ n26 ∧ n26 < (↑slicesN : Int) ∧ ∃ (A29 : Option Addr), ∃ (n30 : Nat), ∃ (c31 : Nat), Cells H22 slicesA (Int.toNat n26 * 1) [.slice A29
  n30 c31] ∧ ∃ (ys32 : List Value), Cells H22 A29 0 ys32 ∧ List.length ys32 = n30 * 1 ∧ (n24 + n30) * 8 ≤ 140737488355328 ∧ rng .i64 (n26 + (1 : Int)) ∧ inv20 (n24 + n30) (xs25 ++ ys32) (n26
  + (1 : Int)) H22 ∧ m21 (n24 + n30) (xs25 ++ ys32) (n26 + (1 : Int)) < m21 n24 xs25 n26) ∧ (decide (n26 < (↑slicesN : Int)) = false → post n24 xs25 H22))) := by kernel_rfl
theorem Concat_Int {H : Heap} {A : Option Addr} {n c r : Nat} {ls : List (List Int)} (hs : Sl H A n c ls) (hb : ls.flatten.length * 8 ≤ 140737488355328) :
    ConT Try.prog 90 [.slice A n c] H ⟨false, [(false, [.row r 3])]⟩ (fun m xs H' => m = ls.flatten.length ∧ Row H' xs ls.flatten) := by
  refine con_of_vc (an := an90) (fn := Try.f90) mix tabOK Try.func90 (by kernel_rfl) (extra := 2) ?_
  rw [vc90]
  have b1 := hs.bn; have b2 := hs.len
  have hle0 : ∀ k, (ls.take k).flatten.length ≤ ls.flatten.length := fun k => by
    have : ls.flatten.length = (ls.take k).flatten.length + (ls.drop k).flatten.length := by rw [← List.length_append, ← List.flatten_append, List.take_append_drop]
    omega
  have hsucc : ∀ {i : Int} (h0 : 0 ≤ i) (hi : i.toNat < ls.length), (ls.take (i + 1).toNat).flatten = (ls.take i.toNat).flatten ++ ls[i.toNat] := fun {i} h0 hi => by
    rw [show (i + 1).toNat = i.toNat + 1 by omega, List.take_succ_eq_append_getElem hi, List.flatten_append]; simp
  refine ⟨fun m i _ => 0 ≤ i ∧ i ≤ n ∧ m = (ls.take i.toNat).flatten.length, fun _ i => n - i.toNat, ⟨by omega, by omega, by simp⟩, ?_⟩
  rintro H2 l2 m i ⟨h0, h1, rfl⟩
  refine ⟨fun hlt => ?_, fun hge => ?_⟩
  · have hlt := of_decide_eq_true hlt
    obtain ⟨hi, hA, _, hc, ⟨A3, n3, c3, rfl, hs3⟩⟩ := hs.at l2 h0 hlt
    have e3 := hs3.len
    have k1 := hle0 (i + 1).toNat
    have k2 := congrArg List.length (hsucc h0 hi)
    rw [List.length_append, e3] at k2
    refine ⟨hA, h0, hlt, _, _, _, hc, by simp only [rng]; omega, fun hf => ?_, fun _ => ⟨by simp only [rng]; omega, ⟨by omega, by omega, by omega⟩, by dsimp only; omega⟩⟩
    have := of_decide_eq_true hf
    omega
  · have hge := of_decide_eq_false hge
    have hall : (ls.take i.toNat).flatten = ls.flatten := by rw [List.take_of_length_le (by omega)]
    rw [hall]
    refine ⟨_, Grow_Int (by omega) (by omega), ?_⟩
    rintro H3 l3 _ _ ⟨rfl, rfl⟩
    refine ⟨fun m xs i H' => 0 ≤ i ∧ i ≤ n ∧ m = (ls.take i.toNat).flatten.length ∧ Row H' xs (ls.take i.toNat).flatten, fun _ _ i => n - i.toNat, ⟨by omega, by omega, by simp, by simp [Row]⟩, ?_⟩
    rintro H4 l4 _ xs j ⟨j0, j1, rfl, hr⟩
    refine ⟨fun hlt => ?_, fun hge => ?_⟩
    · have hlt := of_decide_eq_true hlt
      obtain ⟨hi, hA, _, hc, ⟨A3, n3, c3, rfl, hs3⟩⟩ := hs.at (hle_trans l2 (hle_trans l3 l4)) j0 hlt
      have e3 := hs3.len
      have k1 := hle0 (j + 1).toNat
      have k2 := congrArg List.length (hsucc j0 hi)
      rw [List.length_append, e3] at k2
      obtain ⟨ys, y1, y2⟩ := hs3.row
      refine ⟨hA, j0, hlt, _, _, _, hc, ys, y1, by rw [y2.length, e3]; rfl, by omega, by simp only [rng]; omega, ⟨by omega, by omega, by omega, ?_⟩, by dsimp only; omega⟩
      rw [hsucc j0 hi]
      exact hr.append y2
    · have hge := of_decide_eq_false hge
      have hall : (ls.take j.toNat).flatten = ls.flatten := by rw [List.take_of_length_le (by omega)]
      rw [hall] at hr
      rw [hall]
      exact ⟨rfl, hr⟩
def mergeLin (a b : List Int) : List Int := Lib.compact (sortI (a ++ b))
def an77 : Ann where
  res := fun | 9 => some ⟨false, [(false, [.row 14 3])]⟩ | 13 => some ⟨false, [(false, [.row 15 3])]⟩ | _ => none
  lend := fun _ => false
  mt := fun | 61 => some true | 74 => some false | _ => none
  sch := fun _ => .done
  lt := fun _ => []
  tup := tups

theorem vc77 (P : Program) (H : Heap) (aA : Option Addr) (aN aC : Nat) (bA : Option Addr) (bN bC : Nat) (ri0 : Nat) (post : Nat → List Value → Heap → Prop) :
  vcFn P tab an77 Try.f77 [.slice aA aN aC, .slice bA bN bC] 2 H ⟨false, [(false, [.row ri0 3])]⟩ post =
  (  ∀ (A0 : Option Addr) (c1 : Nat) (H2 : Heap), Heap.le H H2 → Cells H2 A0 0 [.slice aA aN aC, .slice bA bN bC] → 2 ≤ c1 → ∃ (post6 : Nat → List Value → Heap → Prop), ConT P 90 [.slice A0 2
  c1] H2 ⟨false, [(false, [.row 14 3])]⟩ post6 ∧ ∀ (H7 : Heap), Heap.le H2 H7 → ∀ (n9 : Nat) (xs10 : List Value), post6 n9 xs10 H7 → ∃ (post12 : List Value → Heap → Prop), ConM P 61 [.slice
  none 0 0] 0 3 n9 xs10 true H7 ⟨true, []⟩ post12 ∧ ∀ (H13 : Heap), Heap.le H7 H13 → ∀ (ys15 : List Value), post12 ys15 H13 → ∃ (post17 : List Value → Nat → List Value → Heap → Prop), ConM P
  74 [.slice none 0 0] 0 3 n9 ys15 false H13 ⟨false, [(false, [.row 15 3])]⟩ post17 ∧ ∀ (H18 : Heap), Heap.le H13 H18 → ∀ (ys20 : List Value) (n21 : Nat) (xs22 : List Value), post17 ys20 n21
  xs22 H18 → post n21 xs22 H18) := by kernel_rfl
theorem bag_MergeLineage {H : Heap} {A B : Option Addr} {n c m d r : Nat} {a b : List Int} (hs : Sl H A n c a) (ht : Sl H B m d b) (hb : (n + m) * 8 ≤ 140737488355328) :
    ConT Try.prog 77 [.slice A n c, .slice B m d] H ⟨false, [(false, [.row r 3])]⟩ (fun k xs H' => k = (mergeLin a b).length ∧ Row H' xs (mergeLin a b)) := by
  refine con_of_vc (an := an77) (fn := Try.f77) mix tabOK Try.func77 (by kernel_rfl) (extra := 2) ?_
  rw [vc77]
  intro A0 c0 H2 l2 hc hn
  have h0 : Sl H2 A0 2 c0 [a, b] := Row.sl (H := H2) (T := List Int) (l := [a, b]) ⟨[_], [_], rfl, ⟨A, n, c, rfl, hs.mono l2⟩, [_], [], rfl, ⟨B, m, d, rfl, ht.mono l2⟩, rfl⟩ (hle_refl H2) hc rfl hn (by decide) (by decide)
  have hl := hs.len; have hm := ht.len
  have e : [a, b].flatten = a ++ b := by simp
  have hlen : (a ++ b).length = n + m := by rw [List.length_append, hl, hm]
  refine ⟨_, Concat_Int h0 (by rw [e, hlen]; exact hb), ?_⟩
  rw [e]
  rintro H3 l3 k xs ⟨rfl, h3⟩
  refine ⟨_, Sort_Int h3 rfl (by omega), ?_⟩
  intro H4 l4 ys h4
  have h4 : Row H4 ys (sortI (a ++ b)) := h4
  refine ⟨_, Compact_Int h4 (sortI_len _) (by omega), ?_⟩
  rintro H5 l5 zs k5 xs5 h5
  exact h5
def lins (l : List Kd) : List Int := l.flatMap fun k => k.t.lin
theorem lins_succ {l : List Kd} {i : Nat} (hi : i < l.length) : lins (l.take (i + 1)) = lins (l.take i) ++ l[i].t.lin := by
  rw [List.take_succ_eq_append_getElem hi, lins, List.flatMap_append]; simp [lins]
theorem lins_take (l : List Kd) (i : Nat) : (lins (l.take i)).length ≤ (lins l).length := by
  have : lins l = lins (l.take i) ++ lins (l.drop i) := by rw [lins, lins, lins, ← List.flatMap_append, List.take_append_drop]
  rw [this, List.length_append]; omega
def mergedL (l : List Kd) : List Int := mergeLin (lins l) []
def an58 : Ann where
  res := fun | 19 => some ⟨false, [(false, [.row 20 3])]⟩ | _ => none
  lend := fun _ => false
  sch := fun _ => .done
  lt := fun | 3 => [.slot 3 false [.row 21 3], .slot 8 false [.int .i64]] | _ => []
  tup := tups

theorem vc58 (P : Program) (H : Heap) (lA : Option Addr) (lN lC : Nat) (ri0 : Nat) (post : Nat → List Value → Heap → Prop) :
  vcFn P tab an58 Try.f58 [.slice lA lN lC] 2 H ⟨false, [(false, [.row ri0 3])]⟩ post =
  (  ∃ (inv0 : Nat → List Value → Int → Heap → Prop), ∃ (m1 : Nat → List Value → Int → Nat), inv0 0 [] (0 : Int) H ∧ ∀ (H2 : Heap), Heap.le H H2 → ∀ (n4 : Nat) (xs5 : List Value) (n6 : Int),
  inv0 n4 xs5 n6 H2 → (decide (n6 < (↑lN : Int)) = true → someA lA ∧ (0 : Int) ≤ n6 ∧ n6 < (↑lN : Int) ∧ ∃ (A9 : Option Addr), ∃ (n10 : Nat), ∃ (c11 : Nat), ∃ (A12 : Option Addr), ∃ (n13 :
  Nat), ∃ (c14 : Nat), ∃ (n15 : Int), ∃ (n16 : Int), ∃ (A17 : Option Addr), ∃ (n18 : Nat), ∃ (c19 : Nat), Cells H2 lA (Int.toNat n6 * 5) [.slice A9 n10 c11, .slice A12 n13 c14, .int .i64 n15,
  .int .i64 n16, .slice A17 n18 c19] ∧ ∃ (ys20 : List Value), Cells H2 A17 0 ys20 ∧ List.length ys20 = n18 * 1 ∧ (n4 + n18) * 8 ≤ 140737488355328 ∧ rng .i64 (n6 + (1 : Int)) ∧ inv0 (n4 + n18)
  (xs5 ++ ys20) (n6 + (1 : Int)) H2 ∧ m1 (n4 + n18) (xs5 ++ ys20) (n6 + (1 : Int)) < m1 n4 xs5 n6) ∧ (decide (n6 < (↑lN : Int)) = false → ∀ (A22 : Option Addr) (c23 : Nat) (H24 : Heap),
  Heap.le H2 H24 → Cells H24 A22 0 xs5 → n4 ≤ c23 → ∃ (post28 : Nat → List Value → Heap → Prop), ConT P 77 [.slice A22 n4 c23, .slice none 0 0] H24 ⟨false, [(false, [.row 20 3])]⟩ post28 ∧ ∀
  (H29 : Heap), Heap.le H24 H29 → ∀ (n31 : Nat) (xs32 : List Value), post28 n31 xs32 H29 → post n31 xs32 H29)) := by kernel_rfl
theorem keys_merged {H : Heap} {A : Option Addr} {n c r : Nat} {l : List Kd} (hs : Sl H A n c l) (hb : (lins l).length * 8 ≤ 140737488355328) :
    ConT Try.prog 58 [.slice A n c] H ⟨false, [(false, [.row r 3])]⟩ (fun k xs H' => k = (mergedL l).length ∧ Row H' xs (mergedL l)) := by
  refine con_of_vc (an := an58) (fn := Try.f58) mix tabOK Try.func58 (by kernel_rfl) (extra := 2) ?_
  rw [vc58]
  have hl := hs.len; have hbn := hs.bn
  refine ⟨fun k xs i H' => 0 ≤ i ∧ i ≤ n ∧ k = (lins (l.take i.toNat)).length ∧ Row H' xs (lins (l.take i.toNat)), fun _ _ i => n - i.toNat, ⟨by omega, by omega, rfl, rfl⟩, ?_⟩
  rintro H2 hle k xs i ⟨h0, h1, hk, hr⟩
  have e1 : (i + 1).toNat = i.toNat + 1 := by omega
  refine ⟨fun hlt => ?_, fun hge => ?_⟩
  · have hlt := of_decide_eq_true hlt
    obtain ⟨hi, hA, _, hc, ⟨E9, n9, c9, A12, n13, c14, A17, n18, c19, rfl, q0, q1, q2, q3, q4⟩⟩ := hs.at hle h0 hlt
    have hsu := lins_succ hi
    have hlen := congrArg List.length hsu
    rw [List.length_append, q4.len] at hlen
    have ht := lins_take l (i.toNat + 1)
    obtain ⟨ys, y1, y2⟩ := q4.row
    refine ⟨hA, h0, hlt, _, _, _, _, _, _, _, _, _, _, _, hc, ys, y1, by rw [y2.length, q4.len]; rfl, by omega, by simp only [rng]; omega, ⟨by omega, by omega, by rw [e1, hlen, hk], ?_⟩, by dsimp only; omega⟩
    rw [e1, hsu]
    exact hr.append y2
  · have hge := of_decide_eq_false hge
    rw [List.take_of_length_le (by omega)] at hk hr
    intro A4 c4 H4 l4 hc4 hn4
    refine ⟨_, bag_MergeLineage (r := 20) (hr.sl l4 hc4 hk.symm hn4 (by show k * 8 ≤ _; omega) (by omega)) (Sl.nil (T := Int)) (by omega), ?_⟩
    rintro H5 l5 k5 xs5 h5
    exact h5
end Go.Vc
/- Violations of one key: extending, the active tuples. -/
namespace Go.Vc
open Go Go.Proofs Go.Shelf
def an76 : Ann where
  res := fun _ => none
  lend := fun _ => false
  sch := fun | 6 => (tk [0, 1, 2, 3, 4, 5, 6, 7, 8] .done) | _ => .done
  lt := fun | 4 => [.slot 13 false [.int .i64]] | _ => []
  tup := tups

theorem vc76 (P : Program) (H : Heap) (s1A : Option Addr) (s1N s1C : Nat) (s2A : Option Addr) (s2N s2C : Nat) (post : Bool → Heap → Prop) :
  vcFn P tab an76 Try.f76 [.slice s1A s1N s1C, .slice s2A s2N s2C] 0 H ⟨false, [(false, [.bool])]⟩ post =
  (  ((!decide ((↑s1N : Int) = (↑s2N : Int))) = true → post false H) ∧ ((!decide ((↑s1N : Int) = (↑s2N : Int))) = false → ∃ (inv2 : Int → Heap → Prop), ∃ (m3 : Int → Nat), inv2 (0 : Int) H ∧ ∀
  (H4 : Heap), Heap.le H H4 → ∀ (n6 : Int), inv2 n6 H4 → (decide (n6 < (↑s1N : Int)) = true → someA s1A ∧ (0 : Int) ≤ n6 ∧ n6 < (↑s1N : Int) ∧ ∃ (n9 : Int), Cells H4 s1A (Int.toNat n6 * 1)
  [.int .i64 n9] ∧ someA s2A ∧ (0 : Int) ≤ n6 ∧ n6 < (↑s2N : Int) ∧ ∃ (n10 : Int), Cells H4 s2A (Int.toNat n6 * 1) [.int .i64 n10] ∧ ((!decide (n9 = n10)) = true → post false H4) ∧ ((!decide
  (n9 = n10)) = false → rng .i64 (n6 + (1 : Int)) ∧ inv2 (n6 + (1 : Int)) H4 ∧ m3 (n6 + (1 : Int)) < m3 n6)) ∧ (decide (n6 < (↑s1N : Int)) = false → post true H4))) := by kernel_rfl
theorem Equal_Int {H : Heap} {A B : Option Addr} {n c m d : Nat} {a b : List Int} (hs : Sl H A n c a) (ht : Sl H B m d b) :
    ConT Try.prog 76 [.slice A n c, .slice B m d] H shB (fun r _ => r = decide (a = b)) := by
  refine con_of_vc (an := an76) (fn := Try.f76) mix tabOK Try.func76 (by kernel_rfl) (extra := 0) ?_
  rw [vc76]
  have hl := hs.len; have hm := ht.len; have hb := hs.bn
  refine ⟨fun hne => ?_, fun he => ?_⟩
  · have : ¬ a = b := fun e => by subst e; simp at hne; omega
    simp [this]
  have hnm' : (n : Int) = m := by simpa using he
  have hnm : n = m := by omega
  refine ⟨fun i _ => 0 ≤ i ∧ i ≤ n ∧ (a = b ↔ a.drop i.toNat = b.drop i.toNat), fun i => n - i.toNat, ⟨by omega, by omega, by simp⟩, ?_⟩
  rintro H2 hle i ⟨h0, h1, h2⟩
  refine ⟨fun hlt => ?_, fun hge => ?_⟩
  · have hlt := of_decide_eq_true hlt
    obtain ⟨hi, hA, _, hc, ⟨rfl, q⟩⟩ := hs.at hle h0 hlt
    obtain ⟨hj, hB, _, hd, ⟨rfl, q'⟩⟩ := ht.at hle h0 (by omega)
    rw [drop_at h0 hi, drop_at h0 hj] at h2
    refine ⟨hA, h0, hlt, _, hc, hB, h0, by omega, _, hd, fun hne => ?_, fun he => ⟨by simp only [rng]; omega, ⟨by omega, by omega, ?_⟩, by dsimp only; omega⟩⟩
    · have : ¬ a = b := fun e => by
        have := h2.1 e
        simp only [List.cons.injEq] at this
        simp [this.1] at hne
      simp [this]
    · have he : a[i.toNat] = b[i.toNat] := by simpa using he
      rw [h2, he]; simp
  · have hge := of_decide_eq_false hge
    rw [drop_end hge hl, List.drop_eq_nil_of_le (by omega)] at h2
    simp [h2.2 rfl]
theorem set_last {T : Type} {l : List T} {x : T} (h : 0 < l.length) : l.set (l.length - 1) x = l.dropLast ++ [x] := by
  rw [List.set_eq_take_append_cons_drop, if_pos (by omega), List.dropLast_eq_take, show l.length - 1 + 1 = l.length by omega, List.drop_length]
def extV (l : List Vio) (v : Vio) : List Vio := match l.getLast? with
  | some u => if u.p.hi = v.p.lo ∧ u.ids = v.ids then l.dropLast ++ [⟨⟨u.p.lo, v.p.hi⟩, u.ids⟩] else l ++ [v]
  | none => l ++ [v]
def an57 : Ann where
  res := fun _ => none
  lend := fun | 32 => true | _ => false
  sch := fun | 2 => (tk [0, 1, 2, 3, 4, 5, 10, 11, 12] (.alt 6 (tk [7, 8] (.alt 9 (tk [13, 14, 15, 16, 17, 18, 22, 23] (.alt 19 (tk [20] (.alt 21 (.alt 24 (tk [25] .done) .fin) .fin)) .fin)) .fin)) .fin)) | _ => .done
  lt := fun _ => []
  tup := tups

theorem vc57 (P : Program) (H : Heap) (vValidFrom : Int) (vValidTo : Int) (vIDsA : Option Addr) (vIDsN vIDsC : Nat) (rowN : Nat) (rowXs : List Value) (ri0 : Nat) (post : Nat → List Value → Heap → Prop) :
  vcFnM P tab an57 Try.f57 [.slice none 0 0, .agg #[.int .i64 vValidFrom, .int .i64 vValidTo, .slice vIDsA vIDsN vIDsC]] 0 44 rowN rowXs 0 H ⟨false, [(false, [.row ri0 44])]⟩ post =
  (  (decide ((0 : Int) < (↑rowN : Int)) = true → rng .i64 ((↑rowN : Int) - (1 : Int)) ∧ (0 : Int) ≤ (↑rowN : Int) - (1 : Int) ∧ (↑rowN : Int) - (1 : Int) < (↑rowN : Int) ∧ ∃ (n1 : Int), win
  rowXs (Int.toNat ((↑rowN : Int) - (1 : Int)) * 3 + 0 + 1) 1 = [.int .i64 n1] ∧ (decide (n1 = vValidFrom) = true → rng .i64 ((↑rowN : Int) - (1 : Int)) ∧ (0 : Int) ≤ (↑rowN : Int) - (1 :
  Int) ∧ (↑rowN : Int) - (1 : Int) < (↑rowN : Int) ∧ ∃ (A3 : Option Addr), ∃ (n4 : Nat), ∃ (c5 : Nat), win rowXs (Int.toNat ((↑rowN : Int) - (1 : Int)) * 3 + 2) 1 = [.slice A3 n4 c5] ∧ ∃
  (post6 : Bool → Heap → Prop), ConT P 76 [.slice A3 n4 c5, .slice vIDsA vIDsN vIDsC] H ⟨false, [(false, [.bool])]⟩ post6 ∧ ∀ (H7 : Heap), Heap.le H H7 → ∀ (b9 : Bool), post6 b9 H7 → (b9 =
  true → rng .i64 ((↑rowN : Int) - (1 : Int)) ∧ (0 : Int) ≤ (↑rowN : Int) - (1 : Int) ∧ (↑rowN : Int) - (1 : Int) < (↑rowN : Int) ∧ Int.toNat ((↑rowN : Int) - (1 : Int)) * 3 + 0 + 1 + 1 ≤
  List.length rowXs ∧ post rowN (splice rowXs (Int.toNat ((↑rowN : Int) - (1 : Int)) * 3 + 0 + 1) [.int .i64 vValidTo]) H7) ∧ (b9 = false → (rowN + 1) * 40 ≤ 140737488355328 ∧ post (rowN + 1)
  (rowXs ++ [.int .i64 vValidFrom, .int .i64 vValidTo, .slice vIDsA vIDsN vIDsC]) H7)) ∧ (decide (n1 = vValidFrom) = false → (rowN + 1) * 40 ≤ 140737488355328 ∧ post (rowN + 1) (rowXs ++
  [.int .i64 vValidFrom, .int .i64 vValidTo, .slice vIDsA vIDsN vIDsC]) H)) ∧ (decide ((0 : Int) < (↑rowN : Int)) = false → (rowN + 1) * 40 ≤ 140737488355328 ∧ post (rowN + 1) (rowXs ++ [.int
  .i64 vValidFrom, .int .i64 vValidTo, .slice vIDsA vIDsN vIDsC]) H)) := by kernel_rfl
theorem keys_extend {H : Heap} {n r : Nat} {xs : List Value} {l : List Vio} {v : Vio} {A : Option Addr} {m c : Nat} (hr : Row H xs l) (hl : l.length = n) (hb : (n + 1) * 40 ≤ 140737488355328) (h1 : rng .i64 v.p.lo) (h2 : rng .i64 v.p.hi) (hs : Sl H A m c v.ids) :
    ConM Try.prog 57 [.slice none 0 0, .agg ⟨[.int .i64 v.p.lo, .int .i64 v.p.hi, .slice A m c]⟩] 0 44 n xs false H ⟨false, [(false, [.row r 44])]⟩
      (fun _ => fun k ys H' => k = (extV l v).length ∧ Row H' ys (extV l v)) := by
  refine conM_of_vc (an := an57) (fn := Try.f57) mix tabOK Try.func57 (by kernel_rfl) (extra := 0) (by simp) ?_
  rw [vc57]
  have happ : ∀ {H' : Heap}, Heap.le H H' → Row H' (xs ++ [.int .i64 v.p.lo, .int .i64 v.p.hi, .slice A m c]) (l ++ [v]) := fun hle => (hr.mono hle).append ⟨_, [], by simp, ⟨_, _, _, rfl, h1, h2, hs.mono hle⟩, rfl⟩
  have hlen := hr.length
  refine ⟨fun hn => ?_, fun hn => ?_⟩
  · have hn := of_decide_eq_true hn
    have hi : ((n : Int) - 1).toNat < l.length := by omega
    obtain ⟨vs, ⟨A1, n1, c1, rfl, q1, q2, q3⟩, hg, hsp⟩ := hr.getf hi
    have hlast : l.getLast? = some l[((n : Int) - 1).toNat] := by
      rw [List.getLast?_eq_getElem?, List.getElem?_eq_getElem (by omega)]
      congr 2; omega
    have hw1 := hg 1 1 (by decide)
    have hw2 := hg 2 1 (by decide)
    refine ⟨by simp only [rng]; omega, by omega, by omega, _, hw1, fun he => ⟨by simp only [rng]; omega, by omega, by omega, _, _, _, hw2, _, Equal_Int q3 hs, ?_⟩, fun he => ⟨by omega, ?_⟩⟩
    · have he := of_decide_eq_true he
      rintro H3 l3 _ rfl
      refine ⟨fun hq => ?_, fun hq => ⟨by omega, ?_⟩⟩
      · have hq := of_decide_eq_true hq
        have hext : extV l v = l.set ((n : Int) - 1).toNat ⟨⟨l[((n : Int) - 1).toNat].p.lo, v.p.hi⟩, l[((n : Int) - 1).toNat].ids⟩ := by
          unfold extV
          rw [hlast]
          simp only
          rw [if_pos ⟨he, hq⟩, ← set_last (by omega), show l.length - 1 = ((n : Int) - 1).toNat by omega]
        refine ⟨by simp only [rng]; omega, by omega, by omega, ?_, ?_⟩
        · rw [hlen]
          show _ ≤ l.length * 3
          omega
        · rw [hext]
          refine ⟨by simp [hl], ?_⟩
          exact (hsp 1 [.int .i64 v.p.hi] ⟨⟨l[((n : Int) - 1).toNat].p.lo, v.p.hi⟩, l[((n : Int) - 1).toNat].ids⟩ (by show 1 + 1 ≤ 3; omega) ⟨A1, n1, c1, rfl, q1, h2, q3⟩).mono l3
      · have hq := of_decide_eq_false hq
        have hext : extV l v = l ++ [v] := by
          unfold extV
          rw [hlast]
          simp only
          rw [if_neg (fun h => hq h.2)]
        rw [hext]
        exact ⟨by simp [hl], happ l3⟩
    · have he := of_decide_eq_false he
      have hext : extV l v = l ++ [v] := by
        unfold extV
        rw [hlast]
        simp only
        rw [if_neg (fun h => he h.1)]
      rw [hext]
      exact ⟨by simp [hl], happ (hle_refl H)⟩
  · have hn := of_decide_eq_false hn
    have : l = [] := List.eq_nil_of_length_eq_zero (by omega)
    subst this
    exact ⟨by omega, by simp [extV]; omega, happ (hle_refl H)⟩
def an75 : Ann where
  res := fun _ => none
  lend := fun | 16 => true | _ => false
  sch := fun _ => .done
  lt := fun | 2 => [.slot 8 false [.int .i64]] | _ => []
  tup := tups

theorem vc75 (P : Program) (H : Heap) (sA : Option Addr) (sN sC : Nat) (fF : FuncId) (fP : Value) (post : Int → Heap → Prop) :
  vcFn P tab an75 Try.f75 [.slice sA sN sC, .func (.func fF) #[] #[fP]] 0 H ⟨false, [(false, [.int .i64])]⟩ post =
  (  ∃ (inv0 : Int → Heap → Prop), ∃ (m1 : Int → Nat), inv0 (0 : Int) H ∧ ∀ (H2 : Heap), Heap.le H H2 → ∀ (n4 : Int), inv0 n4 H2 → (decide (n4 < (↑sN : Int)) = true → someA sA ∧ (0 : Int) ≤ n4 ∧
  n4 < (↑sN : Int) ∧ ∃ (A7 : Option Addr), ∃ (n8 : Nat), ∃ (c9 : Nat), ∃ (A10 : Option Addr), ∃ (n11 : Nat), ∃ (c12 : Nat), ∃ (n13 : Int), ∃ (n14 : Int), ∃ (A15 : Option Addr), ∃ (n16 : Nat),
  ∃ (c17 : Nat), Cells H2 sA (Int.toNat n4 * 5) [.slice A7 n8 c9, .slice A10 n11 c12, .int .i64 n13, .int .i64 n14, .slice A15 n16 c17] ∧ ∃ (post18 : Bool → Heap → Prop), ConT P fF [.agg
  ⟨[.slice A7 n8 c9, .slice A10 n11 c12, .int .i64 n13, .int .i64 n14, .slice A15 n16 c17]⟩, fP] H2 ⟨false, [(false, [.bool])]⟩ post18 ∧ ∀ (H19 : Heap), Heap.le H2 H19 → ∀ (b21 : Bool),
  post18 b21 H19 → (b21 = true → post n4 H19) ∧ (b21 = false → rng .i64 (n4 + (1 : Int)) ∧ inv0 (n4 + (1 : Int)) H19 ∧ m1 (n4 + (1 : Int)) < m1 n4)) ∧ (decide (n4 < (↑sN : Int)) = false →
  post (-1 : Int) H2)) := by kernel_rfl
theorem IndexFunc_Kd {H : Heap} {A : Option Addr} {n c : Nat} {l : List Kd} {f : FuncId} {q : Value} {p : Kd → Bool} (hs : Sl H A n c l) (hf : PredFn Try.prog Kd H f q p) :
    ConT Try.prog 75 [.slice A n c, .func (.func f) #[] #[q]] H shI (fun r _ => r = idxOf p 0 l) := by
  refine con_of_vc (an := an75) (fn := Try.f75) mix tabOK Try.func75 (by kernel_rfl) (extra := 0) ?_
  rw [vc75]
  refine ⟨fun n _ => 0 ≤ n ∧ n ≤ l.length ∧ idxOf p 0 l = idxOf p n (l.drop n.toNat), fun n => l.length - n.toNat, ⟨by omega, by omega, rfl⟩, ?_⟩
  rintro H2 hle i ⟨h0, h1, h2⟩
  simp only [decide_eq_true_eq, decide_eq_false_iff_not]
  refine ⟨fun hlt => ?_, fun hge => ?_⟩
  · obtain ⟨hi, hA, _, hc, hr⟩ := hs.at hle h0 hlt
    have hcon := hf H2 _ _ hle hr
    obtain ⟨E9, k9, e9, A9, n9, c9, B9, m9, d9, rfl, -⟩ := hr
    refine ⟨hA, h0, hlt, _, _, _, _, _, _, _, _, _, _, _, hc, _, hcon, ?_⟩
    rintro H3 _ b rfl
    rw [drop_at h0 hi, idxOf] at h2
    refine ⟨fun hp => ?_, fun hp => ⟨?_, ⟨by omega, by omega, ?_⟩, by omega⟩⟩
    · rw [h2, if_pos hp]
    · have := hs.bn; have := hs.len; simp only [rng]; omega
    · rw [h2, if_neg (by simp [hp])]
  · rw [drop_end hge hs.len, idxOf] at h2
    exact h2.symm
theorem idxOf_spec {T : Type} (p : T → Bool) : ∀ (l : List T) (i : Int), 0 ≤ i → (idxOf p i l = -1 ∧ l.filter (fun x => !p x) = l) ∨ (∃ k : Nat, idxOf p i l = i + k ∧ k < l.length ∧ (l.take (k + 1)).filter (fun x => !p x) = l.take k)
  | [], i, h => .inl ⟨rfl, rfl⟩
  | x :: r, i, h => by
    by_cases hp : p x = true
    · exact .inr ⟨0, by simp [idxOf, hp], by simp, by simp [hp]⟩
    · have hp' : p x = false := by simpa using hp
      rcases idxOf_spec p r (i + 1) (by omega) with ⟨h1, h2⟩ | ⟨k, h1, h2, h3⟩
      · exact .inl ⟨by simp [idxOf, hp', h1], by simp [hp', h2]⟩
      · refine .inr ⟨k + 1, by simp [idxOf, hp', h1]; omega, by simp; omega, ?_⟩
        rw [List.take_succ_cons, List.filter_cons, if_pos (by simp [hp']), h3, List.take_succ_cons]
theorem Row.take {T : Type} [Rep T] {H : Heap} : ∀ {xs : List Value} {l : List T} (i : Nat), Row H xs l → Row H (xs.take (i * Rep.sz T)) (l.take i)
  | xs, [], i, h => by rw [show xs = [] from h]; simp [Row]
  | xs, t :: l, 0, h => by simp [Row]
  | xs, t :: l, i + 1, ⟨vs, ys, h1, h2, h3⟩ => by
    have hl := Rep.len h2
    refine ⟨vs, ys.take (i * Rep.sz T), ?_, h2, Row.take i h3⟩
    rw [h1, Nat.succ_mul, List.take_append, List.take_of_length_le (by omega), hl, Nat.add_sub_cancel]
/- the head of a row behind which cells were written -/
theorem cut_splice {T : Type} [Rep T] {H : Heap} {ys Z : List Value} {cur : List T} {n i : Nat} (hr : Row H ys cur) (hl : cur.length = n) (hi : i ≤ n) (hZ : Z.length = (n - i) * Rep.sz T) :
    Row H (List.take (List.length (splice ys (i * Rep.sz T) Z) / n * (i - 0)) (splice ys (i * Rep.sz T) Z)) (cur.take i) := by
  have hy := hr.length
  rw [hl] at hy
  have hle : i * Rep.sz T ≤ n * Rep.sz T := Nat.mul_le_mul_right _ hi
  have hsub : (n - i) * Rep.sz T = n * Rep.sz T - i * Rep.sz T := Nat.sub_mul _ _ _
  have hlen : (splice ys (i * Rep.sz T) Z).length = n * Rep.sz T := by
    simp only [splice, List.length_append, List.length_take, List.length_drop]; omega
  have hk : (splice ys (i * Rep.sz T) Z).length / n * (i - 0) = i * Rep.sz T := by
    rw [hlen, Nat.sub_zero]
    rcases Nat.eq_zero_or_pos n with h0 | h0
    · have : i = 0 := by omega
      subst this; simp
    · rw [Nat.mul_div_cancel_left _ h0, Nat.mul_comm]
  rw [hk]
  have : List.take (i * Rep.sz T) (splice ys (i * Rep.sz T) Z) = ys.take (i * Rep.sz T) := by
    simp only [splice]
    rw [List.append_assoc, List.take_append_of_le_length (by rw [List.length_take]; omega), List.take_take, Nat.min_self]
  rw [this]
  exact hr.take i
theorem filter_take_succ {T : Type} (p : T → Bool) {l : List T} {j : Nat} (hj : j < l.length) : (l.take (j + 1)).filter (fun x => !p x) = (l.take j).filter (fun x => !p x) ++ (if p l[j] then [] else [l[j]]) := by
  rw [List.take_succ_eq_append_getElem hj, List.filter_append]
  by_cases h : p l[j] <;> simp [h]
def an55 : Ann where
  res := fun _ => none
  lend := fun | 10 => true | 28 => true | _ => false
  sch := fun _ => .done
  lt := fun | 5 => [.slot 0 false [.row 42 68], .slot 5 false [.int .i64], .slot 6 false [.int .i64]] | _ => []
  tup := tups

theorem vc55 (P : Program) (H : Heap) (delF : FuncId) (delP : Value) (rowN : Nat) (rowXs : List Value) (ri0 : Nat) (post : Nat → List Value → Heap → Prop) :
  vcFnM P tab an55 Try.f55 [.slice none 0 0, .func (.func delF) #[] #[delP]] 0 68 rowN rowXs 1 H ⟨false, [(false, [.row ri0 68])]⟩ post =
  (  ∃ (post0 : Int → Heap → Prop), (∀ (A1 : Option Addr) (c2 : Nat) (H3 : Heap), Heap.le H H3 → Cells H3 A1 0 rowXs → rowN ≤ c2 → ConT P 75 [.slice A1 rowN c2, .func (.func delF) ⟨[]⟩ ⟨[delP]⟩]
  H3 ⟨false, [(false, [.int .i64])]⟩ post0) ∧ ∀ (H7 : Heap) (n8 : Int), post0 n8 H7 → (decide (n8 = (-1 : Int)) = true → post rowN rowXs H) ∧ (decide (n8 = (-1 : Int)) = false → rng .i64 (n8
  + (1 : Int)) ∧ ∃ (inv12 : Nat → List Value → Int → Int → Heap → Prop), ∃ (m13 : Nat → List Value → Int → Int → Nat), inv12 rowN rowXs n8 (n8 + (1 : Int)) H ∧ ∀ (H14 : Heap), Heap.le H H14 →
  ∀ (n16 : Nat) (xs17 : List Value) (n18 n19 : Int), inv12 n16 xs17 n18 n19 H14 → (decide (n19 < (↑n16 : Int)) = true → (0 : Int) ≤ n19 ∧ n19 < (↑n16 : Int) ∧ ∃ (A22 : Option Addr), ∃ (n23 :
  Nat), ∃ (c24 : Nat), ∃ (A25 : Option Addr), ∃ (n26 : Nat), ∃ (c27 : Nat), ∃ (n28 : Int), ∃ (n29 : Int), ∃ (A30 : Option Addr), ∃ (n31 : Nat), ∃ (c32 : Nat), win xs17 (Int.toNat n19 * 5) 5 =
  [.slice A22 n23 c24, .slice A25 n26 c27, .int .i64 n28, .int .i64 n29, .slice A30 n31 c32] ∧ ∃ (post33 : Bool → Heap → Prop), ConT P delF [.agg ⟨[.slice A22 n23 c24, .slice A25 n26 c27,
  .int .i64 n28, .int .i64 n29, .slice A30 n31 c32]⟩, delP] H14 ⟨false, [(false, [.bool])]⟩ post33 ∧ ∀ (H34 : Heap), Heap.le H14 H34 → ∀ (b36 : Bool), post33 b36 H34 → ((!b36) = true → (0 :
  Int) ≤ n18 ∧ n18 < (↑n16 : Int) ∧ Int.toNat n18 * 5 + 5 ≤ List.length xs17 ∧ rng .i64 (n18 + (1 : Int)) ∧ rng .i64 (n19 + (1 : Int)) ∧ inv12 n16 (splice xs17 (Int.toNat n18 * 5) [.slice A22
  n23 c24, .slice A25 n26 c27, .int .i64 n28, .int .i64 n29, .slice A30 n31 c32]) (n18 + (1 : Int)) (n19 + (1 : Int)) H34 ∧ m13 n16 (splice xs17 (Int.toNat n18 * 5) [.slice A22 n23 c24,
  .slice A25 n26 c27, .int .i64 n28, .int .i64 n29, .slice A30 n31 c32]) (n18 + (1 : Int)) (n19 + (1 : Int)) < m13 n16 xs17 n18 n19) ∧ ((!b36) = false → rng .i64 (n19 + (1 : Int)) ∧ inv12 n16
  xs17 n18 (n19 + (1 : Int)) H34 ∧ m13 n16 xs17 n18 (n19 + (1 : Int)) < m13 n16 xs17 n18 n19)) ∧ (decide (n19 < (↑n16 : Int)) = false → (0 : Int) ≤ n18 ∧ n18 ≤ (↑n16 : Int) ∧ (↑n16 : Int) ≤
  (↑n16 : Int) ∧ (0 : Int) ≤ (0 : Int) ∧ (0 : Int) ≤ n18 ∧ n18 ≤ (↑n16 : Int) ∧ post (Int.toNat n18 - 0) (List.take (List.length (splice xs17 (Int.toNat n18 * 5) (repl [.slice none 0 0,
  .slice none 0 0, .int .i64 (0 : Int), .int .i64 (0 : Int), .slice none 0 0] (Int.toNat (↑n16 : Int) - Int.toNat n18))) / n16 * (Int.toNat n18 - 0)) (splice xs17 (Int.toNat n18 * 5) (repl
  [.slice none 0 0, .slice none 0 0, .int .i64 (0 : Int), .int .i64 (0 : Int), .slice none 0 0] (Int.toNat (↑n16 : Int) - Int.toNat n18)))) H14))) := by kernel_rfl
theorem DeleteFunc_Kd {H0 H : Heap} {n r : Nat} {xs : List Value} {l : List Kd} {f : FuncId} {q : Value} {p : Kd → Bool} (hle0 : Heap.le H0 H) (hr : Row H0 xs l) (hl : l.length = n) (hb : n * 88 ≤ 140737488355328) (hf : PredFn Try.prog Kd H f q p) :
    ConM Try.prog 55 [.slice none 0 0, .func (.func f) #[] #[q]] 0 68 n xs false H ⟨false, [(false, [.row r 68])]⟩
      (fun _ => fun k ys _ => k = (l.filter fun x => !p x).length ∧ Row H0 ys (l.filter fun x => !p x)) := by
  refine conM_of_vc (an := an55) (fn := Try.f55) mix tabOK Try.func55 (by kernel_rfl) (extra := 1) (by simp) ?_
  rw [vc55]
  refine ⟨_, fun A1 c1 H3 l3 hc hn => IndexFunc_Kd (hr.sl (hle_trans hle0 l3) hc hl hn hb (by omega)) (fun H' vs t h1 h2 => hf H' vs t (hle_trans l3 h1) h2), ?_⟩
  rintro H7 i0 rfl
  rcases idxOf_spec p l 0 (by omega) with ⟨h1, h2⟩ | ⟨k0, h1, h2, h3⟩
  · refine ⟨fun _ => ⟨by rw [h2, hl], by rw [h2]; exact hr⟩, fun he => ?_⟩
    have := of_decide_eq_false he
    exact absurd h1 this
  rw [h1]
  refine ⟨fun he => by have := of_decide_eq_true he; omega, fun he => ⟨by simp only [rng]; omega, ?_⟩⟩
  refine ⟨fun k ys i j _ => k = n ∧ 0 ≤ i ∧ i < j ∧ j ≤ n ∧ ∃ cur : List Kd, Row H0 ys cur ∧ cur.length = n ∧ cur.take i.toNat = (l.take j.toNat).filter (fun x => !p x) ∧ cur.drop j.toNat = l.drop j.toNat,
    fun _ _ _ j => n - j.toNat, ⟨rfl, by omega, by omega, by omega, l, hr, hl, by rw [show ((0 : Int) + k0 + 1).toNat = k0 + 1 by omega, h3]; congr 1; omega, rfl⟩, ?_⟩
  rintro H14 l14 k ys i j ⟨rfl, i0, hij, hjn, cur, hc, hcl, ht, hd⟩
  have hyl := hc.length
  refine ⟨fun hlt => ?_, fun hge => ?_⟩
  · have hlt := of_decide_eq_true hlt
    have hj : j.toNat < cur.length := by omega
    have hj' : j.toNat < l.length := by omega
    have hcj : cur[j.toNat] = l[j.toNat] := by
      have := congrArg (fun x => x[0]?) hd
      simp only [List.getElem?_drop, Nat.add_zero] at this
      rw [List.getElem?_eq_getElem hj, List.getElem?_eq_getElem hj'] at this
      simpa using this
    have hw := hc.getw hj
    rw [hcj] at hw
    have hset := hc.setw (i := i.toNat) (by omega) hw
    have hcon := hf H14 _ _ l14 (Rep.mono (hle_trans hle0 l14) hw)
    have hsu := filter_take_succ p hj'
    have e1 : (j + 1).toNat = j.toNat + 1 := by omega
    have hdr : cur.drop (j.toNat + 1) = l.drop (j.toNat + 1) := by
      rw [← List.drop_drop, ← List.drop_drop, hd]
    generalize hwv : win ys (j.toNat * Rep.sz Kd) (Rep.sz Kd) = wv at hw hset hcon
    obtain ⟨E9, k9, e9, A9, n9, c9, B9, m9, d9, rfl, -⟩ := hw
    refine ⟨by omega, hlt, _, _, _, _, _, _, _, _, _, _, _, rfl, _, hcon, ?_⟩
    rintro H34 l34 _ rfl
    refine ⟨fun hp => ?_, fun hp => ?_⟩
    · have hp : p l[j.toNat] = false := by simpa using hp
      rw [if_neg (by simp [hp])] at hsu
      refine ⟨i0, by omega, ?_, by simp only [rng]; omega, by simp only [rng]; omega, ⟨rfl, by omega, by omega, by omega, cur.set i.toNat l[j.toNat], hset, by simpa using hcl, ?_, ?_⟩, by dsimp only; omega⟩
      · rw [hyl]
        show i.toNat * 5 + 5 ≤ cur.length * 5
        omega
      · rw [e1, hsu, ← ht, show (i + 1).toNat = i.toNat + 1 by omega, List.take_succ_eq_append_getElem (by simp; omega), List.take_set_of_le (by omega)]
        simp
      · rw [e1, List.drop_set_of_lt (by omega), hdr]
    · have hp : p l[j.toNat] = true := by simpa using hp
      rw [if_pos hp, List.append_nil] at hsu
      exact ⟨by simp only [rng]; omega, ⟨rfl, i0, by omega, by omega, cur, hc, hcl, by rw [e1, hsu]; exact ht, by rw [e1]; exact hdr⟩, by dsimp only; omega⟩
  · have hge := of_decide_eq_false hge
    rw [List.take_of_length_le (by omega : l.length ≤ j.toNat)] at ht
    have hil : i.toNat = (l.filter fun x => !p x).length := by
      rw [← ht, List.length_take]; omega
    have hfin := cut_splice (Z := repl [.slice none 0 0, .slice none 0 0, .int .i64 0, .int .i64 0, .slice none 0 0] (Int.toNat (k : Int) - i.toNat)) hc hcl (i := i.toNat) (by omega) (by rw [repl_length]; simp only [Int.toNat_natCast]; rfl)
    refine ⟨i0, by omega, by omega, by omega, i0, by omega, by omega, ?_⟩
    rw [← ht]
    exact hfin
end Go.Vc
/- Violations of one key: the program's sweep. -/
namespace Go.Vc
open Go Go.Proofs Go.Shelf
def stepA (f : Int) (act rest : List Kd) : List Kd := act.filter (fun x => !decide (x.t.p.hi ≤ f)) ++ rest.takeWhile (fun x => decide (x.t.p.lo = f))
def stepR (f : Int) (rest : List Kd) : List Kd := rest.dropWhile (fun x => decide (x.t.p.lo = f))
def confGo : List Int → List Kd → List Kd → List Vio → List Vio
  | f :: t :: ps, act, rest, out => confGo (t :: ps) (stepA f act rest) (stepR f rest) (if 2 ≤ (stepA f act rest).length then extV out ⟨⟨f, t⟩, mergedL (stepA f act rest)⟩ else out)
  | _, _, _, out => out
def confl (g : List Kd) : List Vio := confGo (points g) [] g []
theorem lins_sub {a b : List Kd} (h : a.Sublist b) : (lins a).length ≤ (lins b).length := by
  induction h with
  | slnil => exact Nat.le_refl _
  | cons x _ ih => simp only [lins, List.flatMap_cons, List.length_append] at *; omega
  | cons_cons x _ ih => simp only [lins, List.flatMap_cons, List.length_append] at *; omega
theorem extV_len (l : List Vio) (v : Vio) : (extV l v).length ≤ l.length + 1 := by
  unfold extV
  split
  · split
    · simp only [List.length_append, List.length_dropLast, List.length_cons, List.length_nil]; omega
    · simp
  · simp
def an56 : Ann where
  res := fun _ => none
  lend := fun _ => false
  sch := fun _ => .done
  lt := fun _ => []
  tup := tups

theorem vc56 (P : Program) (H : Heap) (kkeyA : Option Addr) (kkeyN kkeyC : Nat) (ktupleValsA : Option Addr) (ktupleValsN ktupleValsC : Nat) (ktupleValidFrom : Int) (ktupleValidTo : Int) (ktupleLineageA : Option Addr) (ktupleLineageN ktupleLineageC : Nat) (free0B : Nat) (post : Bool → Heap → Prop) :
  vcFn P tab an56 Try.f56 [.agg #[.slice kkeyA kkeyN kkeyC, .slice ktupleValsA ktupleValsN ktupleValsC, .int .i64 ktupleValidFrom, .int .i64 ktupleValidTo, .slice ktupleLineageA ktupleLineageN ktupleLineageC], .pointer (some ⟨free0B, 0, none⟩)] 0 H ⟨false, [(false, [.bool])]⟩ post =
  (  ∃ (n0 : Int), Cells H (some ⟨free0B, 0, none⟩) 0 [.int .i64 n0] ∧ post (decide (ktupleValidTo ≤ n0)) H) := by kernel_rfl
theorem keys_conflicts1 {H : Heap} {g : Nat} {f : Int} (hc : Cells H (some ⟨g, 0, none⟩) 0 [.int .i64 f]) :
    PredFn Try.prog Kd H 56 (.pointer (some ⟨g, 0, none⟩)) (fun x => decide (x.t.p.hi ≤ f)) := by
  rintro H' vs t hle ⟨E, k, e, A, n, c, B, m, d, rfl, -⟩
  refine con_of_vc (an := an56) (fn := Try.f56) mix tabOK Try.func56 (by kernel_rfl) (extra := 0) ?_
  rw [vc56]
  exact ⟨f, hc.mono hle, rfl⟩
def an33 : Ann where
  res := fun | 24 => some ⟨false, [(false, [.row 65 68])]⟩ | 61 => some ⟨false, [(false, [.row 66 3])]⟩ | 63 => some ⟨false, [(false, [.row 67 44])]⟩ | _ => none
  lend := fun | 24 => true | 61 => true | _ => false
  mt := fun | 55 => some false | 57 => some false | _ => none
  sch := fun | 10 => (tk [0, 1, 2, 3, 4, 5, 6, 7, 8, 9, 10, 11, 12, 13, 14] .done) | 14 => (tk [0, 1, 2, 3, 4, 5, 6, 7, 8] (.alt 9 (tk [10] (.alt 11 (tk [12] .done) .fin)) .fin)) | _ => .done
  lt := fun | 6 => [.slot 3 false [.row 68 44], .slot 4 false [.row 69 68], .slot 5 false [.int .i64], .slot 7 false [.int .i64]] | 10 => [.slot 4 false [.row 70 68], .slot 5 false [.int .i64]] | _ => []
  tup := tups

theorem vc33 (P : Program) (H : Heap) (groupA : Option Addr) (groupN groupC : Nat) (post : Option Addr → Nat → Nat → Heap → Prop) :
  vcFn P tab an33 Try.f33 [.slice groupA groupN groupC] 6 H ⟨false, [(false, [.sl])]⟩ post =
  (  ∃ (post0 : Option Addr → Nat → Nat → Heap → Prop), ConT P 54 [.slice groupA groupN groupC] H ⟨false, [(false, [.sl])]⟩ post0 ∧ ∀ (H1 : Heap), Heap.le H H1 → ∀ (A3 : Option Addr) (n4 c5 :
  Nat), post0 A3 n4 c5 H1 → ∃ (inv7 : Nat → List Value → Nat → List Value → Int → Int → Heap → Prop), ∃ (m8 : Nat → List Value → Nat → List Value → Int → Int → Nat), inv7 0 [] 0 [] (0 : Int)
  (0 : Int) H1 ∧ ∀ (H9 : Heap), Heap.le H1 H9 → ∀ (n11 : Nat) (xs12 : List Value) (n13 : Nat) (xs14 : List Value) (n15 n16 : Int), inv7 n11 xs12 n13 xs14 n15 n16 H9 → rng .i64 (n16 + (1 :
  Int)) ∧ (decide (n16 + (1 : Int) < (↑n4 : Int)) = true → someA A3 ∧ (0 : Int) ≤ n16 ∧ n16 < (↑n4 : Int) ∧ ∃ (n19 : Int), Cells H9 A3 (Int.toNat n16 * 1) [.int .i64 n19] ∧ ∃ (post20 : List
  Value → Nat → List Value → Heap → Prop), (∀ (g21 : Nat) (H22 : Heap), Heap.le H9 H22 → Cells H22 (some ⟨g21, 0, none⟩) 0 [.int .i64 n19] → ConM P 55 [.slice none 0 0, .func (.func 56) ⟨[]⟩
  ⟨[.pointer (some ⟨g21, 0, none⟩)]⟩] 0 68 n13 xs14 false H22 ⟨false, [(false, [.row 65 68])]⟩ post20) ∧ ∀ (H25 : Heap) (ys26 : List Value) (n27 : Nat) (xs28 : List Value), post20 ys26 n27
  xs28 H25 → ∃ (inv30 : Nat → List Value → Int → Heap → Prop), ∃ (m31 : Nat → List Value → Int → Nat), inv30 n27 xs28 n15 H9 ∧ ∀ (H32 : Heap), Heap.le H9 H32 → ∀ (n34 : Nat) (xs35 : List
  Value) (n36 : Int), inv30 n34 xs35 n36 H32 → (decide (n36 < (↑groupN : Int)) = true → someA groupA ∧ (0 : Int) ≤ n36 ∧ n36 < (↑groupN : Int) ∧ ∃ (n39 : Int), Cells H32 groupA (Int.toNat n36
  * 5 + 1 + 1 + 0) [.int .i64 n39] ∧ (decide (n39 = n19) = true → someA groupA ∧ (0 : Int) ≤ n36 ∧ n36 < (↑groupN : Int) ∧ ∃ (A41 : Option Addr), ∃ (n42 : Nat), ∃ (c43 : Nat), ∃ (A44 : Option
  Addr), ∃ (n45 : Nat), ∃ (c46 : Nat), ∃ (n47 : Int), ∃ (n48 : Int), ∃ (A49 : Option Addr), ∃ (n50 : Nat), ∃ (c51 : Nat), Cells H32 groupA (Int.toNat n36 * 5) [.slice A41 n42 c43, .slice A44
  n45 c46, .int .i64 n47, .int .i64 n48, .slice A49 n50 c51] ∧ (n34 + 1) * 88 ≤ 140737488355328 ∧ rng .i64 (n36 + (1 : Int)) ∧ inv30 (n34 + 1) (xs35 ++ [.slice A41 n42 c43, .slice A44 n45
  c46, .int .i64 n47, .int .i64 n48, .slice A49 n50 c51]) (n36 + (1 : Int)) H32 ∧ m31 (n34 + 1) (xs35 ++ [.slice A41 n42 c43, .slice A44 n45 c46, .int .i64 n47, .int .i64 n48, .slice A49 n50
  c51]) (n36 + (1 : Int)) < m31 n34 xs35 n36) ∧ (decide (n39 = n19) = false → (decide ((2 : Int) ≤ (↑n34 : Int)) = true → rng .i64 (n16 + (1 : Int)) ∧ someA A3 ∧ (0 : Int) ≤ n16 + (1 : Int) ∧
  n16 + (1 : Int) < (↑n4 : Int) ∧ ∃ (n54 : Int), Cells H32 A3 (Int.toNat (n16 + (1 : Int)) * 1) [.int .i64 n54] ∧ ∃ (post55 : Nat → List Value → Heap → Prop), (∀ (A56 : Option Addr) (c57 :
  Nat) (H58 : Heap), Heap.le H32 H58 → Cells H58 A56 0 xs35 → n34 ≤ c57 → ConT P 58 [.slice A56 n34 c57] H58 ⟨false, [(false, [.row 66 3])]⟩ post55) ∧ ∀ (H62 : Heap) (n63 : Nat) (xs64 : List
  Value), post55 n63 xs64 H62 → ∀ (A66 : Option Addr) (c67 : Nat) (H68 : Heap), Heap.le H32 H68 → Cells H68 A66 0 xs64 → n63 ≤ c67 → ∃ (post72 : List Value → Nat → List Value → Heap → Prop),
  ConM P 57 [.slice none 0 0, .agg ⟨[.int .i64 n19, .int .i64 n54, .slice A66 n63 c67]⟩] 0 44 n11 xs12 false H68 ⟨false, [(false, [.row 67 44])]⟩ post72 ∧ ∀ (H73 : Heap), Heap.le H68 H73 → ∀
  (ys75 : List Value) (n76 : Nat) (xs77 : List Value), post72 ys75 n76 xs77 H73 → rng .i64 (n16 + (1 : Int)) ∧ inv7 n76 xs77 n34 xs35 n36 (n16 + (1 : Int)) H73 ∧ m8 n76 xs77 n34 xs35 n36 (n16
  + (1 : Int)) < m8 n11 xs12 n13 xs14 n15 n16) ∧ (decide ((2 : Int) ≤ (↑n34 : Int)) = false → rng .i64 (n16 + (1 : Int)) ∧ inv7 n11 xs12 n34 xs35 n36 (n16 + (1 : Int)) H32 ∧ m8 n11 xs12 n34
  xs35 n36 (n16 + (1 : Int)) < m8 n11 xs12 n13 xs14 n15 n16))) ∧ (decide (n36 < (↑groupN : Int)) = false → (decide ((2 : Int) ≤ (↑n34 : Int)) = true → rng .i64 (n16 + (1 : Int)) ∧ someA A3 ∧
  (0 : Int) ≤ n16 + (1 : Int) ∧ n16 + (1 : Int) < (↑n4 : Int) ∧ ∃ (n82 : Int), Cells H32 A3 (Int.toNat (n16 + (1 : Int)) * 1) [.int .i64 n82] ∧ ∃ (post83 : Nat → List Value → Heap → Prop), (∀
  (A84 : Option Addr) (c85 : Nat) (H86 : Heap), Heap.le H32 H86 → Cells H86 A84 0 xs35 → n34 ≤ c85 → ConT P 58 [.slice A84 n34 c85] H86 ⟨false, [(false, [.row 66 3])]⟩ post83) ∧ ∀ (H90 :
  Heap) (n91 : Nat) (xs92 : List Value), post83 n91 xs92 H90 → ∀ (A94 : Option Addr) (c95 : Nat) (H96 : Heap), Heap.le H32 H96 → Cells H96 A94 0 xs92 → n91 ≤ c95 → ∃ (post100 : List Value →
  Nat → List Value → Heap → Prop), ConM P 57 [.slice none 0 0, .agg ⟨[.int .i64 n19, .int .i64 n82, .slice A94 n91 c95]⟩] 0 44 n11 xs12 false H96 ⟨false, [(false, [.row 67 44])]⟩ post100 ∧ ∀
  (H101 : Heap), Heap.le H96 H101 → ∀ (ys103 : List Value) (n104 : Nat) (xs105 : List Value), post100 ys103 n104 xs105 H101 → rng .i64 (n16 + (1 : Int)) ∧ inv7 n104 xs105 n34 xs35 n36 (n16 +
  (1 : Int)) H101 ∧ m8 n104 xs105 n34 xs35 n36 (n16 + (1 : Int)) < m8 n11 xs12 n13 xs14 n15 n16) ∧ (decide ((2 : Int) ≤ (↑n34 : Int)) = false → rng .i64 (n16 + (1 : Int)) ∧ inv7 n11 xs12 n34
  xs35 n36 (n16 + (1 : Int)) H32 ∧ m8 n11 xs12 n34 xs35 n36 (n16 + (1 : Int)) < m8 n11 xs12 n13 xs14 n15 n16))) ∧ (decide (n16 + (1 : Int) < (↑n4 : Int)) = false → ∀ (A109 : Option Addr)
  (c110 : Nat) (H111 : Heap), Heap.le H9 H111 → Cells H111 A109 0 xs12 → n11 ≤ c110 → post A109 n11 c110 H111)) := by kernel_rfl
set_option maxHeartbeats 2000000 in
theorem keys_conflicts {H : Heap} {A : Option Addr} {n c : Nat} {g : List Kd} (hs : Sl H A n c g) (hb : (lins g).length * 8 ≤ 140737488355328) :
    ConT Try.prog 33 [.slice A n c] H shS (fun A' n' c' H' => Sl H' A' n' c' (confl g)) := by
  refine con_of_vc (an := an33) (fn := Try.f33) mix tabOK Try.func33 (by kernel_rfl) (extra := 6) ?_
  rw [vc33]
  have hl := hs.len; have hbn : n * 88 ≤ 140737488355328 := hs.bnd
  refine ⟨_, keys_boundaries hs, ?_⟩
  intro H1 l1 A3 n4 c5 hp
  have hpl := hp.len
  have hpb : n4 ≤ 2 * n := by
    have b1 := compact_len (sortI (ends g))
    rw [sortI_len, ends_len, hl] at b1
    have : (points g).length ≤ 2 * n := b1
    omega
  refine ⟨fun k1 xs1 k2 xs2 nx i H' => 0 ≤ i ∧ 0 ≤ nx ∧ nx ≤ n ∧ ∃ (out : List Vio) (act : List Kd), Row H' xs1 out ∧ out.length = k1 ∧ Row H' xs2 act ∧ act.length = k2 ∧ out.length ≤ i.toNat ∧ i ≤ n4 ∧ act.Sublist (g.take nx.toNat) ∧
      confl g = confGo ((points g).drop i.toNat) act (g.drop nx.toNat) out,
    fun _ _ _ _ _ i => n4 - i.toNat, ⟨by omega, by omega, by omega, [], [], rfl, rfl, rfl, rfl, by simp, by omega, by simp, by simp [confl]⟩, ?_⟩
  rintro H9 l9 k1 xs1 k2 xs2 nx i ⟨i0, nx0, nx1, out, act, ho, hol, ha, hal, hoi, hin, hsub, he⟩
  have hp9 := hp.mono l9
  have hs9 := hs.mono (hle_trans l1 l9)
  refine ⟨by simp only [rng]; omega, fun hlt => ?_, fun hge => ?_⟩
  · have hlt := of_decide_eq_true hlt
    obtain ⟨hi, hA, _, hc, ⟨rfl, hrf⟩⟩ := hp9.at (hle_refl H9) i0 (by omega)
    obtain ⟨hi1, hA1, _, hc1, ⟨rfl, hrt⟩⟩ := hp9.at (hle_refl H9) (i := i + 1) (by omega) hlt
    have e1 : (i + 1).toNat = i.toNat + 1 := by omega
    have hi1' : i.toNat + 1 < (points g).length := by omega
    have hpts : (points g).drop i.toNat = (points g)[i.toNat] :: (points g)[i.toNat + 1] :: (points g).drop (i.toNat + 1 + 1) := by
      rw [List.drop_eq_getElem_cons hi, List.drop_eq_getElem_cons hi1']
    have hpts1 : (points g).drop (i.toNat + 1) = (points g)[i.toNat + 1] :: (points g).drop (i.toNat + 1 + 1) := List.drop_eq_getElem_cons hi1'
    simp only [e1] at hc1 hrt
    generalize hf : (points g)[i.toNat] = f at *
    generalize ht : (points g)[i.toNat + 1] = t at *
    rw [hpts, confGo] at he
    refine ⟨hA, i0, by omega, _, hc, _, fun g21 H22 l22 hc22 => DeleteFunc_Kd (H0 := H9) l22 ha hal (by have := hsub.length_le; rw [List.length_take] at this; omega) (keys_conflicts1 hc22), ?_⟩
    rintro H25 _ k27 xs28 ⟨rfl, hd⟩
    refine ⟨fun k xs nx' H' => 0 ≤ nx' ∧ nx' ≤ n ∧ ∃ cur : List Kd, Row H' xs cur ∧ cur.length = k ∧ cur.Sublist (g.take nx'.toNat) ∧ stepA f act (g.drop nx.toNat) = cur ++ (g.drop nx'.toNat).takeWhile (fun x => decide (x.t.p.lo = f)) ∧
        stepR f (g.drop nx.toNat) = (g.drop nx'.toNat).dropWhile (fun x => decide (x.t.p.lo = f)),
      fun _ _ nx' => n - nx'.toNat, ⟨nx0, nx1, _, hd, rfl, List.filter_sublist.trans hsub, rfl, rfl⟩, ?_⟩
    rintro H32 l32 k34 xs35 nx' ⟨m0, m1, cur, hcu, hcl, hcs, hA', hR'⟩
    have hcb := hcs.length_le
    rw [List.length_take] at hcb
    have hlb : (lins cur).length ≤ (lins g).length := lins_sub (hcs.trans (List.take_sublist _ _))
    refine ⟨fun hnl => ?_, fun hnl => ?_⟩
    · have hnl := of_decide_eq_true hnl
      obtain ⟨hj, hB, _, hcj, hrel⟩ := hs9.at l32 m0 hnl
      obtain ⟨E9, k9, e9, A9, n9, c9, B9, m9, d9, rfl, q⟩ := id hrel
      have hdr : g.drop nx'.toNat = g[nx'.toNat] :: g.drop (nx'.toNat + 1) := List.drop_eq_getElem_cons hj
      rw [hdr] at hA' hR'
      have e2 : (nx' + 1).toNat = nx'.toNat + 1 := by omega
      refine ⟨hB, m0, hnl, g[nx'.toNat].t.p.lo, hcj.at1 (k := 2) rfl, fun heq => ?_, fun hne => ?_⟩
      · have heq := of_decide_eq_true heq
        rw [List.takeWhile_cons, if_pos (by simpa using heq)] at hA'
        rw [List.dropWhile_cons, if_pos (by simpa using heq)] at hR'
        refine ⟨hB, m0, hnl, _, _, _, _, _, _, _, _, _, _, _, hcj, by omega, by simp only [rng]; omega, ⟨by omega, by omega, cur ++ [g[nx'.toNat]], hcu.append ⟨_, [], by simp, hrel, rfl⟩, by simp [hcl], ?_, ?_, ?_⟩, by dsimp only; omega⟩
        · rw [e2, List.take_succ_eq_append_getElem hj]; exact hcs.append (List.Sublist.refl _)
        · rw [e2, hA']; simp
        · rw [e2, hR']
      · have hne := of_decide_eq_false hne
        rw [List.takeWhile_cons, if_neg (by simpa using hne), List.append_nil] at hA'
        rw [List.dropWhile_cons, if_neg (by simpa using hne), ← hdr] at hR'
        rw [hA', hR'] at he
        refine ⟨fun h2 => ?_, fun h2 => ?_⟩
        · have h2 := of_decide_eq_true h2
          rw [if_pos (by omega)] at he
          refine ⟨by simp only [rng]; omega, hA1, by omega, by omega, t, by rw [e1]; exact hc1.mono l32, _, fun A56 c57 H58 l58 hc58 hn58 => keys_merged (r := 66) (hcu.sl l58 hc58 hcl hn58 (by show k34 * 88 ≤ _; omega) (by omega)) (by omega), ?_⟩
          rintro H62 _ xs64 ⟨rfl, hm⟩
          intro A66 c67 H68 l68 hc68 hn68
          obtain ⟨m1', m2'⟩ := row_int hm
          have hmb := compact_len (sortI (lins cur ++ []))
          rw [sortI_len, List.append_nil] at hmb
          have hmb : (mergedL cur).length ≤ (lins cur).length := by unfold mergedL mergeLin; rw [List.append_nil]; exact hmb
          have hmS : Sl H68 A66 (mergedL cur).length c67 (mergedL cur) := Row.sl (H := H68) (m1' ▸ int_row m2') (hle_refl H68) hc68 rfl hn68 (by show _ * 8 ≤ _; omega) (by omega)
          refine ⟨_, keys_extend (r := 67) (v := ⟨⟨f, t⟩, mergedL cur⟩) ((ho.mono l32).mono l68) hol (by omega) hrf hrt hmS, ?_⟩
          rintro H73 l73 _ k76 xs77 ⟨rfl, hx⟩
          have hxl := extV_len out ⟨⟨f, t⟩, mergedL cur⟩
          exact ⟨by simp only [rng]; omega, ⟨by omega, m0, m1, _, cur, hx, rfl, (hcu.mono l68).mono l73, hcl, by omega, by omega, hcs, by rw [e1, hpts1]; exact he⟩, by dsimp only; omega⟩
        · have h2 := of_decide_eq_false h2
          rw [if_neg (by omega)] at he
          exact ⟨by simp only [rng]; omega, ⟨by omega, m0, m1, out, cur, ho.mono l32, hol, hcu, hcl, by omega, by omega, hcs, by rw [e1, hpts1]; exact he⟩, by dsimp only; omega⟩
    · have hnl := of_decide_eq_false hnl
      have hdr : g.drop nx'.toNat = [] := List.drop_eq_nil_of_le (by omega)
      rw [hdr] at hA' hR'
      simp only [List.takeWhile_nil, List.append_nil, List.dropWhile_nil] at hA' hR'
      rw [← hdr] at hR'
      rw [hA', hR'] at he
      refine ⟨fun h2 => ?_, fun h2 => ?_⟩
      · have h2 := of_decide_eq_true h2
        rw [if_pos (by omega)] at he
        refine ⟨by simp only [rng]; omega, hA1, by omega, by omega, t, by rw [e1]; exact hc1.mono l32, _, fun A56 c57 H58 l58 hc58 hn58 => keys_merged (r := 66) (hcu.sl l58 hc58 hcl hn58 (by show k34 * 88 ≤ _; omega) (by omega)) (by omega), ?_⟩
        rintro H62 _ xs64 ⟨rfl, hm⟩
        intro A66 c67 H68 l68 hc68 hn68
        obtain ⟨m1', m2'⟩ := row_int hm
        have hmb := compact_len (sortI (lins cur ++ []))
        rw [sortI_len, List.append_nil] at hmb
        have hmb : (mergedL cur).length ≤ (lins cur).length := by unfold mergedL mergeLin; rw [List.append_nil]; exact hmb
        have hmS : Sl H68 A66 (mergedL cur).length c67 (mergedL cur) := Row.sl (H := H68) (m1' ▸ int_row m2') (hle_refl H68) hc68 rfl hn68 (by show _ * 8 ≤ _; omega) (by omega)
        refine ⟨_, keys_extend (r := 67) (v := ⟨⟨f, t⟩, mergedL cur⟩) ((ho.mono l32).mono l68) hol (by omega) hrf hrt hmS, ?_⟩
        rintro H73 l73 _ k76 xs77 ⟨rfl, hx⟩
        have hxl := extV_len out ⟨⟨f, t⟩, mergedL cur⟩
        exact ⟨by simp only [rng]; omega, ⟨by omega, m0, m1, _, cur, hx, rfl, (hcu.mono l68).mono l73, hcl, by omega, by omega, hcs, by rw [e1, hpts1]; exact he⟩, by dsimp only; omega⟩
      · have h2 := of_decide_eq_false h2
        rw [if_neg (by omega)] at he
        exact ⟨by simp only [rng]; omega, ⟨by omega, m0, m1, out, cur, ho.mono l32, hol, hcu, hcl, by omega, by omega, hcs, by rw [e1, hpts1]; exact he⟩, by dsimp only; omega⟩
  · have hge := of_decide_eq_false hge
    intro A9 c9 H11 l11 hc11 hn11
    have hend : confl g = out := by
      rw [he]
      have : ((points g).drop i.toNat).length ≤ 1 := by rw [List.length_drop]; omega
      match (points g).drop i.toNat, this with
      | [], _ => simp [confGo]
      | [x], _ => simp [confGo]
    rw [hend]
    exact ho.sl l11 hc11 hol hn11 (by show k1 * 40 ≤ _; omega) (by omega)
end Go.Vc
/- keys.Violations and keys.Holds (fewer than twenty tuples). -/
namespace Go.Vc
open Go Go.Proofs Go.Shelf
def sameK (k x : Kd) : Bool := decide (cmpVs x.key k.key = 0)
def violGo : Nat → List Kd → List Vio
  | 0, _ => []
  | _ + 1, [] => []
  | f + 1, k :: r => (if 2 ≤ (k :: r.takeWhile (sameK k)).length then confl (k :: r.takeWhile (sameK k)) else []) ++ violGo f (r.dropWhile (sameK k))
def violL (g : List Kd) : List Vio := violGo g.length g
theorem dropWhile_le {T : Type} (p : T → Bool) : ∀ l : List T, (l.dropWhile p).length ≤ l.length
  | [] => Nat.le_refl _
  | x :: l => by
    rw [List.dropWhile_cons]
    split
    · have := dropWhile_le p l; simp only [List.length_cons]; omega
    · exact Nat.le_refl _
theorem violGo_fuel : ∀ (f f' : Nat) (g : List Kd), g.length ≤ f → g.length ≤ f' → violGo f g = violGo f' g
  | 0, f', g, h, _ => by
    have : g = [] := List.eq_nil_of_length_eq_zero (by omega)
    subst this
    cases f' <;> rfl
  | f + 1, 0, g, _, h => by
    have : g = [] := List.eq_nil_of_length_eq_zero (by omega)
    subst this; rfl
  | f + 1, f' + 1, [], _, _ => rfl
  | f + 1, f' + 1, k :: r, h, h' => by
    have := dropWhile_le (sameK k) r
    simp only [List.length_cons] at h h'
    rw [violGo, violGo, violGo_fuel f f' _ (by omega) (by omega)]
theorem violL_cons (k : Kd) (r : List Kd) : violL (k :: r) = (if 2 ≤ (k :: r.takeWhile (sameK k)).length then confl (k :: r.takeWhile (sameK k)) else []) ++ violL (r.dropWhile (sameK k)) := by
  unfold violL
  have := dropWhile_le (sameK k) r
  rw [List.length_cons, violGo, violGo_fuel r.length _ _ this (Nat.le_refl _)]
theorem confGo_len : ∀ (ps : List Int) (act rest : List Kd) (out : List Vio), (confGo ps act rest out).length ≤ out.length + ps.length
  | [], _, _, out => by simp [confGo]
  | [x], _, _, out => by simp [confGo]
  | f :: t :: ps, act, rest, out => by
    rw [confGo]
    have h := confGo_len (t :: ps) (stepA f act rest) (stepR f rest) (if 2 ≤ (stepA f act rest).length then extV out ⟨⟨f, t⟩, mergedL (stepA f act rest)⟩ else out)
    have h2 : (if 2 ≤ (stepA f act rest).length then extV out ⟨⟨f, t⟩, mergedL (stepA f act rest)⟩ else out).length ≤ out.length + 1 := by
      split
      · exact extV_len _ _
      · omega
    simp only [List.length_cons] at h ⊢
    omega
theorem confl_len (g : List Kd) : (confl g).length ≤ 2 * g.length := by
  have h := confGo_len (points g) [] g []
  have b1 := compact_len (sortI (ends g))
  rw [sortI_len, ends_len] at b1
  have : (points g).length ≤ 2 * g.length := b1
  unfold confl
  simp only [List.length_nil] at h
  omega
def tlins (l : List Tup) : List Int := l.flatMap fun t => t.lin
theorem lins_byKey : ∀ (l : List Tup) (cols : List Int), (lins (byKeyL l cols)).length ≤ (tlins l).length
  | [], _ => by simp [lins, byKeyL, tlins]
  | t :: l, cols => by
    have ih := lins_byKey l cols
    simp only [lins, byKeyL, tlins, List.filter_cons, List.flatMap_cons, List.length_append] at *
    split
    · simp only [List.map_cons, List.flatMap_cons, List.length_append]; omega
    · omega
theorem lins_perm {a b : List Kd} (h : a.Perm b) : (lins a).length = (lins b).length := (h.flatMap_right _).length_eq
def an16 : Ann where
  res := fun _ => none
  lend := fun | 28 => true | _ => false
  sch := fun | 5 => (tk [0, 1, 2, 3, 4, 5, 6, 7, 8, 9, 10, 11, 12, 13] (.alt 14 (tk [15, 16] .done) .fin)) | _ => .done
  lt := fun | 3 => [.slot 5 false [.row 45 44], .slot 6 false [.sl]] | 5 => [.slot 7 false [.int .i64]] | _ => []
  tup := tups

theorem vc16 (P : Program) (H : Heap) (lA : Option Addr) (lN lC : Nat) (colsA : Option Addr) (colsN colsC : Nat) (post : Option Addr → Nat → Nat → Heap → Prop) :
  vcFn P tab an16 Try.f16 [.slice lA lN lC, .slice colsA colsN colsC] 1 H ⟨false, [(false, [.sl])]⟩ post =
  (  ∃ (post0 : Option Addr → Nat → Nat → Heap → Prop), ConT P 31 [.slice lA lN lC, .slice colsA colsN colsC] H ⟨false, [(false, [.sl])]⟩ post0 ∧ ∀ (H1 : Heap), Heap.le H H1 → ∀ (A3 : Option
  Addr) (n4 c5 : Nat), post0 A3 n4 c5 H1 → ∃ (inv7 : Nat → List Value → Option Addr → Nat → Nat → Heap → Prop), ∃ (m8 : Nat → List Value → Option Addr → Nat → Nat → Nat), inv7 0 [] A3 n4 c5
  H1 ∧ ∀ (H9 : Heap), Heap.le H1 H9 → ∀ (n11 : Nat) (xs12 : List Value) (A13 : Option Addr) (n14 c15 : Nat), inv7 n11 xs12 A13 n14 c15 H9 → (decide ((0 : Int) < (↑n14 : Int)) = true → ∃
  (inv18 : Int → Heap → Prop), ∃ (m19 : Int → Nat), inv18 (1 : Int) H9 ∧ ∀ (H20 : Heap), Heap.le H9 H20 → ∀ (n22 : Int), inv18 n22 H20 → (decide (n22 < (↑n14 : Int)) = true → someA A13 ∧ (0 :
  Int) ≤ n22 ∧ n22 < (↑n14 : Int) ∧ ∃ (A25 : Option Addr), ∃ (n26 : Nat), ∃ (c27 : Nat), Cells H20 A13 (Int.toNat n22 * 5 + 0) [.slice A25 n26 c27] ∧ someA A13 ∧ (0 : Int) ≤ (0 : Int) ∧ (0 :
  Int) < (↑n14 : Int) ∧ ∃ (A28 : Option Addr), ∃ (n29 : Nat), ∃ (c30 : Nat), Cells H20 A13 (Int.toNat (0 : Int) * 5 + 0) [.slice A28 n29 c30] ∧ ∃ (post31 : Int → Heap → Prop), ConT P 32
  [.slice A25 n26 c27, .slice A28 n29 c30] H20 ⟨false, [(false, [.int .i64])]⟩ post31 ∧ ∀ (H32 : Heap), Heap.le H20 H32 → ∀ (n34 : Int), post31 n34 H32 → (decide (n34 = (0 : Int)) = true →
  rng .i64 (n22 + (1 : Int)) ∧ inv18 (n22 + (1 : Int)) H32 ∧ m19 (n22 + (1 : Int)) < m19 n22) ∧ (decide (n34 = (0 : Int)) = false → (decide ((2 : Int) ≤ n22) = true → (0 : Int) ≤ (0 : Int) ∧
  (0 : Int) ≤ n22 ∧ n22 ≤ (↑c15 : Int) ∧ ∀ (A39 : Option Addr), A39 = subA A13 c15 (Int.toNat (0 : Int)) 5 → ∃ (post41 : Option Addr → Nat → Nat → Heap → Prop), ConT P 33 [.slice A39
  (Int.toNat n22 - Int.toNat (0 : Int)) (c15 - Int.toNat (0 : Int))] H32 ⟨false, [(false, [.sl])]⟩ post41 ∧ ∀ (H42 : Heap), Heap.le H32 H42 → ∀ (A44 : Option Addr) (n45 c46 : Nat), post41 A44
  n45 c46 H42 → ∃ (ys48 : List Value), Cells H42 A44 0 ys48 ∧ List.length ys48 = n45 * 3 ∧ (n11 + n45) * 40 ≤ 140737488355328 ∧ (0 : Int) ≤ n22 ∧ n22 ≤ (↑n14 : Int) ∧ (↑n14 : Int) ≤ (↑c15 :
  Int) ∧ ∀ (A49 : Option Addr), A49 = subA A13 c15 (Int.toNat n22) 5 → inv7 (n11 + n45) (xs12 ++ ys48) A49 (Int.toNat (↑n14 : Int) - Int.toNat n22) (c15 - Int.toNat n22) H42 ∧ m8 (n11 + n45)
  (xs12 ++ ys48) A49 (Int.toNat (↑n14 : Int) - Int.toNat n22) (c15 - Int.toNat n22) < m8 n11 xs12 A13 n14 c15) ∧ (decide ((2 : Int) ≤ n22) = false → (0 : Int) ≤ n22 ∧ n22 ≤ (↑n14 : Int) ∧
  (↑n14 : Int) ≤ (↑c15 : Int) ∧ ∀ (A52 : Option Addr), A52 = subA A13 c15 (Int.toNat n22) 5 → inv7 n11 xs12 A52 (Int.toNat (↑n14 : Int) - Int.toNat n22) (c15 - Int.toNat n22) H32 ∧ m8 n11
  xs12 A52 (Int.toNat (↑n14 : Int) - Int.toNat n22) (c15 - Int.toNat n22) < m8 n11 xs12 A13 n14 c15))) ∧ (decide (n22 < (↑n14 : Int)) = false → (decide ((2 : Int) ≤ n22) = true → (0 : Int) ≤
  (0 : Int) ∧ (0 : Int) ≤ n22 ∧ n22 ≤ (↑c15 : Int) ∧ ∀ (A56 : Option Addr), A56 = subA A13 c15 (Int.toNat (0 : Int)) 5 → ∃ (post58 : Option Addr → Nat → Nat → Heap → Prop), ConT P 33 [.slice
  A56 (Int.toNat n22 - Int.toNat (0 : Int)) (c15 - Int.toNat (0 : Int))] H20 ⟨false, [(false, [.sl])]⟩ post58 ∧ ∀ (H59 : Heap), Heap.le H20 H59 → ∀ (A61 : Option Addr) (n62 c63 : Nat), post58
  A61 n62 c63 H59 → ∃ (ys65 : List Value), Cells H59 A61 0 ys65 ∧ List.length ys65 = n62 * 3 ∧ (n11 + n62) * 40 ≤ 140737488355328 ∧ (0 : Int) ≤ n22 ∧ n22 ≤ (↑n14 : Int) ∧ (↑n14 : Int) ≤ (↑c15
  : Int) ∧ ∀ (A66 : Option Addr), A66 = subA A13 c15 (Int.toNat n22) 5 → inv7 (n11 + n62) (xs12 ++ ys65) A66 (Int.toNat (↑n14 : Int) - Int.toNat n22) (c15 - Int.toNat n22) H59 ∧ m8 (n11 +
  n62) (xs12 ++ ys65) A66 (Int.toNat (↑n14 : Int) - Int.toNat n22) (c15 - Int.toNat n22) < m8 n11 xs12 A13 n14 c15) ∧ (decide ((2 : Int) ≤ n22) = false → (0 : Int) ≤ n22 ∧ n22 ≤ (↑n14 : Int)
  ∧ (↑n14 : Int) ≤ (↑c15 : Int) ∧ ∀ (A69 : Option Addr), A69 = subA A13 c15 (Int.toNat n22) 5 → inv7 n11 xs12 A69 (Int.toNat (↑n14 : Int) - Int.toNat n22) (c15 - Int.toNat n22) H20 ∧ m8 n11
  xs12 A69 (Int.toNat (↑n14 : Int) - Int.toNat n22) (c15 - Int.toNat n22) < m8 n11 xs12 A13 n14 c15))) ∧ (decide ((0 : Int) < (↑n14 : Int)) = false → ∀ (A72 : Option Addr) (c73 : Nat) (H74 :
  Heap), Heap.le H9 H74 → Cells H74 A72 0 xs12 → n11 ≤ c73 → post A72 n11 c73 H74)) := by kernel_rfl
set_option maxHeartbeats 2000000 in
theorem keys_Violations {H : Heap} {A B : Option Addr} {n c m d : Nat} {l : List Tup} {cols : List Int} (hs : Sl H A n c l) (ht : Sl H B m d cols) (hb : m * 32 ≤ 140737488355328) (hn : n < 300) (hlin : (tlins l).length * 8 ≤ 140737488355328) :
    ConT Try.prog 16 [.slice A n c, .slice B m d] H shS (fun A' n' c' H' => ∃ g : List Kd, g.Perm (byKeyL l cols) ∧ g.Pairwise (fun a b => ¬ cmpKd b a < 0) ∧ Sl H' A' n' c' (violL g)) := by
  refine con_of_vc (an := an16) (fn := Try.f16) mix tabOK Try.func16 (by kernel_rfl) (extra := 1) ?_
  rw [vc16]
  refine ⟨_, keys_byKey hs ht hb hn, ?_⟩
  rintro H1 l1 A3 n4 c5 ⟨g, hg, hgp, hgo⟩
  have hgl := hg.len
  have hgn : g.length ≤ n := by rw [hgp.length_eq, ← hs.len]; exact byKeyL_len _ _
  have hgb : (lins g).length * 8 ≤ 140737488355328 := by have := lins_perm hgp; have := lins_byKey l cols; omega
  refine ⟨fun k xs A n' c H' => ∃ (out : List Vio) (rest : List Kd), Row H' xs out ∧ out.length = k ∧ Sl H' A n' c rest ∧ rest.Sublist g ∧ out.length + 2 * rest.length ≤ 2 * g.length ∧ violL g = out ++ violL rest,
    fun _ _ _ n' _ => n', ⟨[], g, rfl, rfl, hg, List.Sublist.refl _, by simp, by simp⟩, ?_⟩
  rintro H9 l9 k xs A13 n14 c15 ⟨out, rest, ho, hol, hr, hsub, hbd, he⟩
  have hrl := hr.len; have hrc := hr.cap
  refine ⟨fun hlt => ?_, fun hge => ?_⟩
  · have hlt := of_decide_eq_true hlt
    obtain ⟨k0, r, rfl⟩ : ∃ k0 r, rest = k0 :: r := by
      cases rest with
      | nil => simp at hrl; omega
      | cons k0 r => exact ⟨k0, r, rfl⟩
    simp only [List.length_cons] at hrl hbd
    rw [violL_cons] at he
    refine ⟨fun j _ => 1 ≤ j ∧ j ≤ n14 ∧ r.takeWhile (sameK k0) = r.take (j.toNat - 1) ++ (r.drop (j.toNat - 1)).takeWhile (sameK k0) ∧ r.dropWhile (sameK k0) = (r.drop (j.toNat - 1)).dropWhile (sameK k0),
      fun j => n14 - j.toNat, ⟨by omega, by omega, by simp, by simp⟩, ?_⟩
    rintro H20 l20 j ⟨j1, jn, hT, hD⟩
    have hr20 := hr.mono l20
    have tail : ∀ {H32 : Heap}, Heap.le H20 H32 → r.takeWhile (sameK k0) = r.take (j.toNat - 1) → r.dropWhile (sameK k0) = r.drop (j.toNat - 1) →
        (decide ((2) ≤ j) = true → (0 : Int) ≤ (0) ∧ (0) ≤ j ∧ j ≤ (↑c15) ∧ ∀ (A39 : Option Addr), A39 = subA A13 c15 (Int.toNat (0)) (5) → ∃ (post41 : Option Addr → Nat → Nat → Heap → Prop), ConT Try.prog 33 [.slice A39 (Int.toNat j - Int.toNat (0)) (c15 - Int.toNat (0))] H32 shS post41 ∧ ∀ (H42 : Heap), Heap.le H32 H42 → ∀ (A44 : Option Addr) (n45 c46 : Nat), post41 A44 n45 c46 H42 → ∃ (ys48 : List Value), Cells H42 A44 (0) ys48 ∧ List.length ys48 = n45 * (3) ∧ (k + n45) * (40) ≤ (140737488355328) ∧ (0) ≤ j ∧ j ≤ (↑n14) ∧ ((n14 : Nat) : Int) ≤ (↑c15) ∧ ∀ (A49 : Option Addr), A49 = subA A13 c15 (Int.toNat j) (5) →
          (∃ (out : List Vio) (rest : List Kd), Row H42 (xs ++ ys48) out ∧ out.length = k + n45 ∧ Sl H42 A49 (Int.toNat (↑n14) - Int.toNat j) (c15 - Int.toNat j) rest ∧ rest.Sublist g ∧ out.length + 2 * rest.length ≤ 2 * g.length ∧ violL g = out ++ violL rest) ∧ (Int.toNat (↑n14) - Int.toNat j) < n14) ∧
        (decide ((2) ≤ j) = false → (0 : Int) ≤ j ∧ j ≤ (↑n14) ∧ ((n14 : Nat) : Int) ≤ (↑c15) ∧ ∀ (A52 : Option Addr), A52 = subA A13 c15 (Int.toNat j) (5) →
          (∃ (out : List Vio) (rest : List Kd), Row H32 xs out ∧ out.length = k ∧ Sl H32 A52 (Int.toNat (↑n14) - Int.toNat j) (c15 - Int.toNat j) rest ∧ rest.Sublist g ∧ out.length + 2 * rest.length ≤ 2 * g.length ∧ violL g = out ++ violL rest) ∧ (Int.toNat (↑n14) - Int.toNat j) < n14) := by
      intro H32 l32 e1 e2
      have hr32 := hr20.mono l32
      have hsubd : ((k0 :: r).drop j.toNat).Sublist g := (List.drop_sublist _ _).trans hsub
      have hdr : (k0 :: r).drop j.toNat = r.drop (j.toNat - 1) := by
        rw [show j.toNat = (j.toNat - 1) + 1 by omega, List.drop_succ_cons, Nat.add_sub_cancel]
      have htk : (k0 :: r).take j.toNat = k0 :: r.take (j.toNat - 1) := by
        rw [show j.toNat = (j.toNat - 1) + 1 by omega, List.take_succ_cons, Nat.add_sub_cancel]
      rw [e1, e2] at he
      have hgl2 : (k0 :: r.take (j.toNat - 1)).length = j.toNat := by simp only [List.length_cons, List.length_take]; omega
      refine ⟨fun h2 => ?_, fun h2 => ?_⟩
      · have h2 := of_decide_eq_true h2
        rw [if_pos (by omega)] at he
        refine ⟨by omega, by omega, by omega, ?_⟩
        rintro A39 rfl
        have hgrp : Sl H32 (subA A13 c15 (Int.toNat 0) 5) (Int.toNat j - Int.toNat 0) (c15 - Int.toNat 0) (k0 :: r.take (j.toNat - 1)) := by
          have := (hr32.take (k := j.toNat) (by omega)).drop (k := 0) (by omega)
          rw [htk, List.drop_zero] at this
          exact this
        refine ⟨_, keys_conflicts hgrp (by have := lins_sub ((List.take_sublist j.toNat (k0 :: r)).trans hsub); rw [htk] at this; omega), ?_⟩
        intro H42 l42 A44 n45 c46 hcf
        obtain ⟨ys, y1, y2⟩ := hcf.row
        have hcl := confl_len (k0 :: r.take (j.toNat - 1))
        rw [hcf.len, hgl2] at hcl
        refine ⟨ys, y1, by rw [y2.length, hcf.len]; rfl, by omega, by omega, by omega, by omega, ?_⟩
        rintro A49 rfl
        refine ⟨⟨out ++ confl (k0 :: r.take (j.toNat - 1)), (k0 :: r).drop j.toNat, (ho.mono (hle_trans l20 (hle_trans l32 l42))).append y2, by rw [List.length_append, hcf.len, hol], ?_, hsubd, ?_, ?_⟩, by omega⟩
        · exact (hr32.mono l42).drop (k := j.toNat) (by omega)
        · rw [List.length_append, hcf.len, List.length_drop, List.length_cons]; omega
        · rw [he, hdr, List.append_assoc]
      · have h2 := of_decide_eq_false h2
        rw [if_neg (by omega), List.nil_append] at he
        refine ⟨by omega, by omega, by omega, ?_⟩
        rintro A49 rfl
        refine ⟨⟨out, (k0 :: r).drop j.toNat, ho.mono (hle_trans l20 l32), hol, hr32.drop (k := j.toNat) (by omega), hsubd, ?_, ?_⟩, by omega⟩
        · rw [List.length_drop, List.length_cons]; omega
        · rw [he, hdr]
    refine ⟨fun hjl => ?_, fun hjl => ?_⟩
    · have hjl := of_decide_eq_true hjl
      obtain ⟨hj, hA, _, hc, ⟨E9, k9, e9, A9, n9, c9, B9, m9, d9, rfl, q, -⟩⟩ := hr20.at (hle_refl H20) (i := j) (by omega) hjl
      obtain ⟨h00, hA0, _, hc0, ⟨E8, k8, e8, A8, n8, c8, B8, m8, d8, rfl, q0, -⟩⟩ := hr20.at (hle_refl H20) (i := 0) (by omega) (by omega)
      have hjr : j.toNat - 1 < r.length := by omega
      have hkj : (k0 :: r)[j.toNat] = r[j.toNat - 1] := by
        rw [List.getElem_cons, dif_neg (by omega)]
      have hdr : r.drop (j.toNat - 1) = r[j.toNat - 1] :: r.drop (j.toNat - 1 + 1) := List.drop_eq_getElem_cons hjr
      rw [hdr] at hT hD
      rw [hkj] at q
      refine ⟨hA, by omega, hjl, _, _, _, hc.at1 (k := 0) rfl, hA0, by omega, by omega, _, _, _, hc0.at1 (k := 0) rfl, _, value_CompareRows q q0, ?_⟩
      rintro H32 l32 _ rfl
      refine ⟨fun hz => ?_, fun hz => ?_⟩
      · have hz := of_decide_eq_true hz
        have hz' : sameK k0 r[j.toNat - 1] = true := by
          simp only [sameK, decide_eq_true_eq]; exact hz
        rw [List.takeWhile_cons, if_pos hz'] at hT
        rw [List.dropWhile_cons, if_pos hz'] at hD
        have e3 : (j + 1).toNat - 1 = j.toNat - 1 + 1 := by omega
        refine ⟨by simp only [rng]; have := hr.bn; omega, ⟨by omega, by omega, ?_, ?_⟩, by dsimp only; omega⟩
        · rw [e3, List.take_succ_eq_append_getElem hjr, List.append_assoc]; exact hT
        · rw [e3, hD]
      · have hz := of_decide_eq_false hz
        have hz' : ¬ sameK k0 r[j.toNat - 1] = true := by
          simp only [sameK, decide_eq_true_eq]; exact hz
        rw [List.takeWhile_cons, if_neg hz', List.append_nil] at hT
        rw [List.dropWhile_cons, if_neg hz', ← hdr] at hD
        exact tail l32 hT hD
    · have hjl := of_decide_eq_false hjl
      have hdr : r.drop (j.toNat - 1) = [] := List.drop_eq_nil_of_le (by omega)
      rw [hdr] at hT hD
      simp only [List.takeWhile_nil, List.append_nil, List.dropWhile_nil] at hT hD
      rw [← hdr] at hD
      exact tail (hle_refl H20) hT hD
  · have hge := of_decide_eq_false hge
    have : rest = [] := List.eq_nil_of_length_eq_zero (by omega)
    subst this
    intro A5 c6 H6 l6 hc6 hn6
    rw [show violL [] = [] from rfl, List.append_nil] at he
    refine ⟨g, hgp, hgo, ?_⟩
    rw [he]
    exact ho.sl l6 hc6 hol hn6 (by show k * 40 ≤ _; omega) (by omega)
def an17 : Ann where
  res := fun _ => none
  lend := fun _ => false
  sch := fun _ => .done
  lt := fun _ => []
  tup := tups

theorem vc17 (P : Program) (H : Heap) (lA : Option Addr) (lN lC : Nat) (colsA : Option Addr) (colsN colsC : Nat) (post : Bool → Heap → Prop) :
  vcFn P tab an17 Try.f17 [.slice lA lN lC, .slice colsA colsN colsC] 0 H ⟨false, [(false, [.bool])]⟩ post =
  (  ∃ (post0 : Option Addr → Nat → Nat → Heap → Prop), ConT P 16 [.slice lA lN lC, .slice colsA colsN colsC] H ⟨false, [(false, [.sl])]⟩ post0 ∧ ∀ (H1 : Heap), Heap.le H H1 → ∀ (A3 : Option
  Addr) (n4 c5 : Nat), post0 A3 n4 c5 H1 → post (decide ((↑n4 : Int) = (0 : Int))) H1) := by kernel_rfl
theorem keys_Holds {H : Heap} {A B : Option Addr} {n c m d : Nat} {l : List Tup} {cols : List Int} (hs : Sl H A n c l) (ht : Sl H B m d cols) (hb : m * 32 ≤ 140737488355328) (hn : n < 300) (hlin : (tlins l).length * 8 ≤ 140737488355328) :
    ConT Try.prog 17 [.slice A n c, .slice B m d] H shB (fun r _ => ∃ g : List Kd, g.Perm (byKeyL l cols) ∧ g.Pairwise (fun a b => ¬ cmpKd b a < 0) ∧ r = decide ((violL g).length = 0)) := by
  refine con_of_vc (an := an17) (fn := Try.f17) mix tabOK Try.func17 (by kernel_rfl) (extra := 0) ?_
  rw [vc17]
  refine ⟨_, keys_Violations hs ht hb hn hlin, ?_⟩
  rintro H1 l1 A3 n4 c5 ⟨g, h1, h2, h3⟩
  refine ⟨g, h1, h2, ?_⟩
  rw [h3.len]
  exact decide_eq_decide.2 (by omega)
end Go.Vc
/- Plain laws of the violations of one key: in ascending order, separated or with other IDs. -/
namespace Go.Vc
open Go
def apartV (u v : Vio) : Prop := u.p.hi ≤ v.p.lo ∧ ¬ (u.p.hi = v.p.lo ∧ u.ids = v.ids)
def chainV : List Vio → Prop
  | [] => True
  | [_] => True
  | u :: v :: r => apartV u v ∧ chainV (v :: r)
theorem chainV_snoc : ∀ (l : List Vio) (v : Vio), chainV (l ++ [v]) ↔ chainV l ∧ ∀ u, l.getLast? = some u → apartV u v
  | [], v => by simp [chainV]
  | [u], v => by simp [chainV]
  | u :: w :: r, v => by
    have ih := chainV_snoc (w :: r) v
    simp only [List.cons_append, chainV] at ih ⊢
    rw [ih, and_assoc]
    simp [List.getLast?_cons_cons]
theorem chainV_get : ∀ (l : List Vio), chainV l → ∀ i (h : i + 1 < l.length), apartV l[i] l[i + 1]
  | [], _, i, h => by simp at h
  | [_], _, i, h => by simp at h
  | u :: v :: r, hc, 0, h => hc.1
  | u :: v :: r, hc, i + 1, h => by
    have := chainV_get (v :: r) hc.2 i (by simpa using h)
    simpa using this
theorem extV_chain {l : List Vio} {v : Vio} (hc : chainV l) (hl : ∀ u, l.getLast? = some u → u.p.hi ≤ v.p.lo) : chainV (extV l v) ∧ ∀ u, (extV l v).getLast? = some u → u.p.hi = v.p.hi := by
  unfold extV
  split
  · rename_i u hu
    obtain ⟨l', rfl⟩ : ∃ l', l = l' ++ [u] := by
      rw [List.getLast?_eq_some_iff] at hu
      exact hu
    rw [List.dropLast_concat]
    obtain ⟨h1, h2⟩ := (chainV_snoc l' u).1 hc
    split
    · rename_i h
      refine ⟨(chainV_snoc _ _).2 ⟨h1, fun w hw => ?_⟩, fun w hw => ?_⟩
      · have := h2 w hw
        exact this
      · simp at hw; subst hw; rfl
    · rename_i h
      refine ⟨(chainV_snoc _ _).2 ⟨hc, fun w hw => ?_⟩, fun w hw => ?_⟩
      · simp at hw; subst hw
        exact ⟨hl u (by simp), h⟩
      · simp at hw; subst hw; rfl
  · rename_i h
    refine ⟨(chainV_snoc _ _).2 ⟨hc, fun w hw => ?_⟩, fun w hw => ?_⟩
    · rw [h] at hw; cases hw
    · simp at hw; subst hw; rfl
theorem confGo_chain : ∀ (ps : List Int) (act rest : List Kd) (out : List Vio), ps.Pairwise (fun a b => a < b) → chainV out → (∀ u f, out.getLast? = some u → ps.head? = some f → u.p.hi ≤ f) → chainV (confGo ps act rest out)
  | [], _, _, out, _, hc, _ => by simpa [confGo] using hc
  | [x], _, _, out, _, hc, _ => by simpa [confGo] using hc
  | f :: t :: ps, act, rest, out, hp, hc, hl => by
    rw [confGo]
    have hft : f < t := (List.pairwise_cons.1 hp).1 t (by simp)
    obtain ⟨h1, h2⟩ := extV_chain (v := ⟨⟨f, t⟩, mergedL (stepA f act rest)⟩) hc (fun u hu => hl u f hu rfl)
    refine confGo_chain (t :: ps) _ _ _ (List.pairwise_cons.1 hp).2 ?_ ?_
    · split
      · exact h1
      · exact hc
    · intro u g hu hg
      simp at hg; subst hg
      split at hu
      · rw [h2 u hu]; exact Int.le_refl _
      · have := hl u f hu rfl; omega
end Go.Vc
/- Plain laws: dropping neighbours that are equal, out of an ascending list. -/
namespace Go.Vc
open Go
theorem snoc_ind {T : Type} {p : List T → Prop} (h0 : p []) (h1 : ∀ l x, p l → p (l ++ [x])) (l : List T) : p l := by
  have key : ∀ r : List T, p r.reverse := by
    intro r
    induction r with
    | nil => exact h0
    | cons x r ih => rw [List.reverse_cons]; exact h1 _ _ ih
  have := key l.reverse
  rwa [List.reverse_reverse] at this
theorem compact_last (l : List Int) : (Lib.compact l).getLast? = l.getLast? := by
  refine snoc_ind (p := fun l => (Lib.compact l).getLast? = l.getLast?) rfl (fun l x ih => ?_) l
  rw [compact_snoc]
  split
  · rename_i h
    rw [List.append_nil, ih, h]; simp
  · simp
theorem compact_mem (l : List Int) (y : Int) : y ∈ Lib.compact l ↔ y ∈ l := by
  refine snoc_ind (p := fun l => y ∈ Lib.compact l ↔ y ∈ l) (by simp [show Lib.compact ([] : List Int) = [] from rfl]) (fun l x ih => ?_) l
  rw [compact_snoc]
  split
  · rename_i h
    have hx : x ∈ l := List.mem_of_getLast? h
    rw [List.append_nil, ih]
    simp only [List.mem_append, List.mem_singleton]
    exact ⟨.inl, fun h => h.elim id (fun e => e ▸ hx)⟩
  · simp [ih]
theorem compact_asc (l : List Int) (h : l.Pairwise (fun a b => a ≤ b)) : (Lib.compact l).Pairwise (fun a b => a < b) := by
  revert h
  refine snoc_ind (p := fun l => l.Pairwise (fun a b => a ≤ b) → (Lib.compact l).Pairwise (fun a b => a < b)) (fun _ => by simp [show Lib.compact ([] : List Int) = [] from rfl]) (fun l x ih => ?_) l
  intro h
  obtain ⟨h1, -, h2⟩ := List.pairwise_append.1 h
  have h2 : ∀ a ∈ l, a ≤ x := fun a ha => h2 a ha x (by simp)
  rw [compact_snoc]
  split
  · rw [List.append_nil]; exact ih h1
  · rename_i hne
    refine List.pairwise_append.2 ⟨ih h1, by simp, fun a ha b hb => ?_⟩
    simp at hb; subst hb
    -- a is below the last, which is below x
    obtain ⟨z, hz⟩ : ∃ z, (Lib.compact l).getLast? = some z := by
      cases hl : (Lib.compact l).getLast? with
      | none => rw [List.getLast?_eq_none_iff] at hl; rw [hl] at ha; cases ha
      | some z => exact ⟨z, rfl⟩
    have hzl : l.getLast? = some z := by rw [← compact_last]; exact hz
    have hzx : z ≠ b := fun e => hne (by rw [hzl, e])
    have hz1 := h2 z (List.mem_of_getLast? hzl)
    obtain ⟨l', hl'⟩ := List.getLast?_eq_some_iff.1 hz
    have hp := ih h1
    rw [hl'] at hp ha
    rcases List.mem_append.1 ha with ha | ha
    · have := (List.pairwise_append.1 hp).2.2 a ha z (by simp)
      omega
    · simp at ha; subst ha; omega
theorem sortI_asc (l : List Int) : (sortI l).Pairwise (fun a b => a ≤ b) := by
  have h1 := List.pairwise_mergeSort (le := fun x y : Int => decide (x ≤ y)) (fun a b c h1 h2 => by simp only [decide_eq_true_eq] at *; omega) (fun a b => by simp only [Bool.or_eq_true, decide_eq_true_eq]; omega) l
  exact h1.imp fun h => by simpa using h
theorem points_asc (g : List Kd) : (points g).Pairwise (fun a b => a < b) := compact_asc _ (sortI_asc _)
theorem confl_chain (g : List Kd) : chainV (confl g) := confGo_chain _ _ _ _ (points_asc g) trivial (fun u f h => by cases h)
end Go.Vc
/- Plain laws: which days the violations of one key cover. -/
namespace Go.Vc
open Go
def inV (v : Vio) (d : Int) : Prop := v.p.lo ≤ d ∧ d < v.p.hi
def covV (l : List Vio) (d : Int) : Prop := ∃ v ∈ l, inV v d
theorem extV_cov {l : List Vio} {v : Vio} {d : Int} (hl : ∀ u, l.getLast? = some u → u.p.lo < u.p.hi) (hv : v.p.lo < v.p.hi) :
    (covV (extV l v) d ↔ covV l d ∨ inV v d) ∧ ∀ u, (extV l v).getLast? = some u → u.p.lo < u.p.hi := by
  unfold extV
  split
  · rename_i u hu
    have hu0 := hl u hu
    obtain ⟨l', rfl⟩ := List.getLast?_eq_some_iff.1 hu
    rw [List.dropLast_concat]
    split
    · rename_i h
      refine ⟨?_, fun w hw => by simp at hw; subst hw; show u.p.lo < v.p.hi; omega⟩
      simp only [covV, List.mem_append, List.mem_singleton, inV]
      constructor
      · rintro ⟨w, hw | rfl, h1, h2⟩
        · exact .inl ⟨w, .inl hw, h1, h2⟩
        · have h1 : u.p.lo ≤ d := h1
          have h2 : d < v.p.hi := h2
          by_cases hd : d < u.p.hi
          · exact .inl ⟨u, .inr rfl, h1, hd⟩
          · exact .inr ⟨by omega, h2⟩
      · rintro (⟨w, hw | rfl, h1, h2⟩ | ⟨h1, h2⟩)
        · exact ⟨w, .inl hw, h1, h2⟩
        · exact ⟨_, .inr rfl, h1, by show d < v.p.hi; omega⟩
        · exact ⟨_, .inr rfl, by show u.p.lo ≤ d; omega, h2⟩
    · refine ⟨?_, fun w hw => by simp at hw; subst hw; exact hv⟩
      simp only [covV, List.mem_append, List.mem_singleton]
      constructor
      · rintro ⟨w, hw | rfl, h⟩
        · exact .inl ⟨w, hw, h⟩
        · exact .inr h
      · rintro (⟨w, hw, h⟩ | h)
        · exact ⟨w, .inl hw, h⟩
        · exact ⟨v, .inr rfl, h⟩
  · rename_i h
    have : l = [] := List.getLast?_eq_none_iff.1 h
    subst this
    refine ⟨?_, fun w hw => by simp at hw; subst hw; exact hv⟩
    simp [covV]
/- the days of the steps at which two or more tuples hold -/
def covGo : List Int → List Kd → List Kd → Int → Prop
  | f :: t :: ps, act, rest, d => ((f ≤ d ∧ d < t) ∧ 2 ≤ (stepA f act rest).length) ∨ covGo (t :: ps) (stepA f act rest) (stepR f rest) d
  | _, _, _, _ => False
theorem confGo_cov : ∀ (ps : List Int) (act rest : List Kd) (out : List Vio) (d : Int), ps.Pairwise (fun a b => a < b) → (∀ u, out.getLast? = some u → u.p.lo < u.p.hi) → (covV (confGo ps act rest out) d ↔ covV out d ∨ covGo ps act rest d)
  | [], _, _, out, d, _, _ => by simp [confGo, covGo]
  | [x], _, _, out, d, _, _ => by simp [confGo, covGo]
  | f :: t :: ps, act, rest, out, d, hp, hl => by
    rw [confGo, covGo]
    have hft : f < t := (List.pairwise_cons.1 hp).1 t (by simp)
    obtain ⟨h1, h2⟩ := extV_cov (d := d) (v := ⟨⟨f, t⟩, mergedL (stepA f act rest)⟩) hl hft
    by_cases h : 2 ≤ (stepA f act rest).length
    · rw [if_pos h, confGo_cov (t :: ps) _ _ _ d (List.pairwise_cons.1 hp).2 h2, h1, or_assoc]
      simp only [inV, h, and_true]
    · rw [if_neg h, confGo_cov (t :: ps) _ _ _ d (List.pairwise_cons.1 hp).2 hl]
      simp only [h, and_false, false_or]
theorem confl_cov (g : List Kd) (d : Int) : covV (confl g) d ↔ covGo (points g) [] g d := by
  unfold confl
  rw [confGo_cov _ _ _ _ d (points_asc g) (fun u h => by cases h)]
  simp [covV]
end Go.Vc
/- Plain laws: the tuples that the sweep holds active are those that hold on the day. -/
namespace Go.Vc
open Go
theorem tw_mem {T : Type} {p : T → Bool} : ∀ {l : List T} {x : T}, x ∈ l.takeWhile p → p x = true
  | [], x, h => by cases h
  | y :: l, x, h => by
    rw [List.takeWhile_cons] at h
    split at h
    · rcases List.mem_cons.1 h with rfl | h
      · assumption
      · exact tw_mem h
    · cases h
def atD (d : Int) (x : Kd) : Bool := decide (x.t.p.lo ≤ d) && decide (d < x.t.p.hi)
/- no end of a tuple of g lies strictly between f and t -/
theorem atD_same {x : Kd} {f t d : Int} (h1 : f ≤ d) (h2 : d < t) (ha : x.t.p.lo ≤ f ∨ t ≤ x.t.p.lo) (hb : x.t.p.hi ≤ f ∨ t ≤ x.t.p.hi) : atD d x = atD f x := by
  unfold atD
  rw [Bool.eq_iff_iff]
  simp only [Bool.and_eq_true, decide_eq_true_eq]
  omega
def ascK (l : List Kd) : Prop := l.Pairwise (fun a b => a.t.p.lo ≤ b.t.p.lo)
def lateK (f : Int) (l : List Kd) : List Kd := l.filter (fun x => !decide (x.t.p.hi ≤ f))
theorem rest_take {f : Int} : ∀ {rest : List Kd}, ascK rest → (∀ x ∈ rest, f ≤ x.t.p.lo ∧ x.t.p.lo < x.t.p.hi) →
    rest.filter (atD f) = rest.takeWhile (fun x => decide (x.t.p.lo = f)) ∧ (∀ x ∈ stepR f rest, f < x.t.p.lo)
  | [], _, _ => ⟨rfl, fun x h => by cases h⟩
  | x :: r, hs, h => by
    obtain ⟨h1, h2⟩ := List.pairwise_cons.1 hs
    obtain ⟨a1, a2⟩ := h x (by simp)
    obtain ⟨i1, i2⟩ := rest_take h2 (fun y hy => h y (by simp [hy]))
    by_cases e : x.t.p.lo = f
    · have ha : atD f x = true := by simp only [atD, Bool.and_eq_true, decide_eq_true_eq]; omega
      rw [List.filter_cons, if_pos ha, List.takeWhile_cons, if_pos (by simpa using e), i1]
      refine ⟨rfl, ?_⟩
      unfold stepR
      rw [List.dropWhile_cons, if_pos (by simpa using e)]
      exact i2
    · have ha : ∀ y ∈ x :: r, f < y.t.p.lo := by
        intro y hy
        rcases List.mem_cons.1 hy with rfl | hy
        · omega
        · have := h1 y hy; omega
      refine ⟨?_, ?_⟩
      · rw [List.takeWhile_cons, if_neg (by simpa using e)]
        refine List.filter_eq_nil_iff.2 fun y hy => ?_
        have := ha y hy
        simp only [atD, Bool.and_eq_true, decide_eq_true_eq]; omega
      · unfold stepR
        rw [List.dropWhile_cons, if_neg (by simpa using e)]
        exact ha
theorem step_at {f : Int} {pre act rest : List Kd} (hp : ∀ x ∈ pre, x.t.p.lo < f) (ha : lateK f act = lateK f pre) (hs : ascK rest) (hr : ∀ x ∈ rest, f ≤ x.t.p.lo ∧ x.t.p.lo < x.t.p.hi) :
    stepA f act rest = (pre ++ rest).filter (atD f) ∧ lateK f (stepA f act rest) = lateK f (pre ++ rest.takeWhile (fun x => decide (x.t.p.lo = f))) := by
  obtain ⟨h1, h2⟩ := rest_take hs hr
  have e0 : lateK f pre = pre.filter (atD f) := by
    refine List.filter_congr fun x hx => ?_
    have := hp x hx
    rw [Bool.eq_iff_iff]
    simp only [atD, Bool.and_eq_true, decide_eq_true_eq, Bool.not_eq_true', decide_eq_false_iff_not]; omega
  have e1 : stepA f act rest = (pre ++ rest).filter (atD f) := by
    rw [List.filter_append, h1, ← e0, ← ha]; rfl
  refine ⟨e1, ?_⟩
  have : stepA f act rest = lateK f act ++ rest.takeWhile (fun x => decide (x.t.p.lo = f)) := rfl
  rw [this, ha]
  simp only [lateK, List.filter_append, List.filter_filter, Bool.and_self]
theorem late_late {f t : Int} (h : f < t) (l : List Kd) : lateK t (lateK f l) = lateK t l := by
  simp only [lateK, List.filter_filter]
  refine List.filter_congr fun x _ => ?_
  rw [Bool.eq_iff_iff]
  simp only [Bool.and_eq_true, Bool.not_eq_true', decide_eq_false_iff_not]; omega
/- the sweep with the tuples that hold at each point -/
def sweepG (g : List Kd) : List Int → List Vio → List Vio
  | f :: t :: ps, out => sweepG g (t :: ps) (if 2 ≤ (g.filter (atD f)).length then extV out ⟨⟨f, t⟩, mergedL (g.filter (atD f))⟩ else out)
  | _, out => out
theorem confGo_sweep : ∀ (ps : List Int) (f : Int) (pre act rest : List Kd) (out : List Vio), (f :: ps).Pairwise (fun a b => a < b) → (∀ x ∈ pre, x.t.p.lo < f) → lateK f act = lateK f pre → ascK rest →
    (∀ x ∈ rest, x.t.p.lo ∈ f :: ps ∧ x.t.p.lo < x.t.p.hi) → confGo (f :: ps) act rest out = sweepG (pre ++ rest) (f :: ps) out
  | [], f, pre, act, rest, out, _, _, _, _, _ => rfl
  | t :: ps, f, pre, act, rest, out, hp, h1, h2, h3, h4 => by
    obtain ⟨p1, p2⟩ := List.pairwise_cons.1 hp
    have hft : f < t := p1 t (by simp)
    have hge : ∀ x ∈ rest, f ≤ x.t.p.lo ∧ x.t.p.lo < x.t.p.hi := by
      intro x hx
      obtain ⟨a, b⟩ := h4 x hx
      rcases List.mem_cons.1 a with a | a
      · omega
      · have := p1 _ a; omega
    obtain ⟨s1, s2⟩ := step_at h1 h2 h3 hge
    obtain ⟨-, r2⟩ := rest_take h3 hge
    have hsub : (stepR f rest).Sublist rest := List.dropWhile_sublist _
    have hsplit : rest.takeWhile (fun x => decide (x.t.p.lo = f)) ++ stepR f rest = rest := List.takeWhile_append_dropWhile
    rw [confGo, sweepG, confGo_sweep ps t (pre ++ rest.takeWhile (fun x => decide (x.t.p.lo = f))) _ _ _ p2 ?_ ?_ ?_ ?_, List.append_assoc, hsplit, s1]
    · intro x hx
      rcases List.mem_append.1 hx with hx | hx
      · have := h1 x hx; omega
      · have := tw_mem hx
        have := of_decide_eq_true this
        omega
    · rw [← late_late hft (stepA f act rest), s2, late_late hft]
    · exact List.Pairwise.sublist hsub h3
    · intro x hx
      have a := h4 x (hsub.subset hx)
      have b := r2 x hx
      refine ⟨?_, a.2⟩
      rcases List.mem_cons.1 a.1 with e | e
      · omega
      · exact e
theorem ends_mem {g : List Kd} {x : Kd} (hx : x ∈ g) : x.t.p.lo ∈ points g ∧ x.t.p.hi ∈ points g := by
  have hm : ∀ y, y ∈ ends g → y ∈ points g := fun y hy => by
    rw [points, compact_mem, sortI, List.mem_mergeSort]; exact hy
  exact ⟨hm _ (List.mem_flatMap.2 ⟨x, hx, by simp⟩), hm _ (List.mem_flatMap.2 ⟨x, hx, by simp⟩)⟩
theorem mem_points {g : List Kd} {y : Int} : y ∈ points g ↔ ∃ x ∈ g, y = x.t.p.lo ∨ y = x.t.p.hi := by
  rw [points, compact_mem, sortI, List.mem_mergeSort, ends, List.mem_flatMap]
  simp
theorem confl_sweep {g : List Kd} (hs : ascK g) (hv : ∀ x ∈ g, x.t.p.lo < x.t.p.hi) : confl g = sweepG g (points g) [] := by
  unfold confl
  have ha := points_asc g
  have hm : ∀ x ∈ g, x.t.p.lo ∈ points g := fun x hx => (ends_mem hx).1
  revert ha hm
  generalize points g = ps
  intro ha hm
  cases ps with
  | nil => rfl
  | cons f ps => exact confGo_sweep ps f [] [] g [] ha (fun x h => by cases h) rfl hs fun x hx => ⟨hm x hx, hv x hx⟩
/- the days of the steps at which two or more tuples hold -/
theorem sweep_cov : ∀ (ps : List Int) (g : List Kd) (out : List Vio) (f d : Int), (f :: ps).Pairwise (fun a b => a < b) → (∀ u, out.getLast? = some u → u.p.lo < u.p.hi) →
    (∀ x ∈ g, (x.t.p.lo ∈ f :: ps ∨ x.t.p.lo ≤ f) ∧ (x.t.p.hi ∈ f :: ps ∨ x.t.p.hi ≤ f)) → (covV (sweepG g (f :: ps) out) d ↔ covV out d ∨ (f ≤ d ∧ 2 ≤ (g.filter (atD d)).length))
  | [], g, out, f, d, hp, hl, hg => by
    show covV out d ↔ _
    constructor
    · exact .inl
    · rintro (h | ⟨h1, h2⟩)
      · exact h
      · have : g.filter (atD d) = [] := List.filter_eq_nil_iff.2 fun x hx => by
          have := (hg x hx).2
          simp only [List.mem_singleton] at this
          simp only [atD, Bool.and_eq_true, decide_eq_true_eq]; omega
        rw [this] at h2
        simp at h2
  | t :: ps, g, out, f, d, hp, hl, hg => by
    obtain ⟨p1, p2⟩ := List.pairwise_cons.1 hp
    have hft : f < t := p1 t (by simp)
    have hend : ∀ y, (y ∈ f :: t :: ps ∨ y ≤ f) → (y ≤ f ∨ t ≤ y) ∧ (y ∈ t :: ps ∨ y ≤ t) := by
      intro y hy
      rcases hy with hy | hy
      · rcases List.mem_cons.1 hy with hy | hy
        · exact ⟨by omega, .inr (by omega)⟩
        · refine ⟨.inr ?_, .inl hy⟩
          rcases List.mem_cons.1 hy with hy | hy
          · omega
          · have := (List.pairwise_cons.1 p2).1 _ hy; omega
      · exact ⟨.inl hy, .inr (by omega)⟩
    have hg' : ∀ x ∈ g, (x.t.p.lo ∈ t :: ps ∨ x.t.p.lo ≤ t) ∧ (x.t.p.hi ∈ t :: ps ∨ x.t.p.hi ≤ t) := fun x hx => ⟨(hend _ (hg x hx).1).2, (hend _ (hg x hx).2).2⟩
    have hsame : f ≤ d → d < t → g.filter (atD d) = g.filter (atD f) := fun h1 h2 => List.filter_congr fun x hx => atD_same h1 h2 (hend _ (hg x hx).1).1 (hend _ (hg x hx).2).1
    obtain ⟨c1, c2⟩ := extV_cov (d := d) (v := ⟨⟨f, t⟩, mergedL (g.filter (atD f))⟩) hl hft
    rw [sweepG]
    by_cases h : 2 ≤ (g.filter (atD f)).length
    · rw [if_pos h, sweep_cov ps g _ t d p2 c2 hg', c1]
      simp only [inV]
      constructor
      · rintro ((h1 | h1) | h1)
        · exact .inl h1
        · exact .inr ⟨h1.1, by rw [hsame h1.1 h1.2]; exact h⟩
        · exact .inr ⟨by omega, h1.2⟩
      · rintro (h1 | h1)
        · exact .inl (.inl h1)
        · by_cases hd : d < t
          · exact .inl (.inr ⟨h1.1, hd⟩)
          · exact .inr ⟨by omega, h1.2⟩
    · rw [if_neg h, sweep_cov ps g _ t d p2 hl hg']
      constructor
      · rintro (h1 | h1)
        · exact .inl h1
        · exact .inr ⟨by omega, h1.2⟩
      · rintro (h1 | h1)
        · exact .inl h1
        · by_cases hd : d < t
          · rw [hsame h1.1 hd] at h1; exact absurd h1.2 h
          · exact .inr ⟨by omega, h1.2⟩
theorem confl_days {g : List Kd} (hs : ascK g) (hv : ∀ x ∈ g, x.t.p.lo < x.t.p.hi) (d : Int) : covV (confl g) d ↔ 2 ≤ (g.filter (atD d)).length := by
  rw [confl_sweep hs hv]
  have ha := points_asc g
  have hm : ∀ x ∈ g, x.t.p.lo ∈ points g ∧ x.t.p.hi ∈ points g := fun x hx => ends_mem hx
  revert ha hm
  generalize points g = ps
  intro ha hm
  cases ps with
  | nil =>
    cases g with
    | nil => simp [sweepG, covV]
    | cons x r => exact absurd (hm x (by simp)).1 (by simp)
  | cons f ps =>
    rw [sweep_cov ps g [] f d ha (fun u h => by cases h) fun x hx => ⟨.inl (hm x hx).1, .inl (hm x hx).2⟩]
    constructor
    · rintro (⟨v, h, _⟩ | h)
      · cases h
      · exact h.2
    · intro h
      refine .inr ⟨?_, h⟩
      obtain ⟨x, hx⟩ : ∃ x, x ∈ g.filter (atD d) := by
        cases hf : g.filter (atD d) with
        | nil => rw [hf] at h; simp at h
        | cons x r => exact ⟨x, by simp⟩
      obtain ⟨h1, h2⟩ := List.mem_filter.1 hx
      have := (hm x h1).1
      simp only [atD, Bool.and_eq_true, decide_eq_true_eq] at h2
      rcases List.mem_cons.1 this with e | e
      · omega
      · have := (List.pairwise_cons.1 ha).1 _ e; omega
end Go.Vc
/- Plain laws: the groups of equal key values; which days the violations of a key cover. -/
namespace Go.Vc
open Go
def sortedK (g : List Kd) : Prop := g.Pairwise (fun a b => ¬ cmpKd b a < 0)
theorem cmpVs_zero {a b : List Val} : cmpVs a b = 0 ↔ a = b := ⟨fun h => cmpVs_ord.eq _ _ h, fun h => h ▸ cmpVs_ord.refl _⟩
theorem sameK_iff {k x : Kd} : sameK k x = true ↔ x.key = k.key := by
  unfold sameK
  rw [decide_eq_true_eq]
  exact cmpVs_zero
theorem cmpKd_same {a b : Kd} (h : a.key = b.key) : cmpKd a b = cmpI a.t.p.lo b.t.p.lo := by
  rw [cmpKd_eq, cmpKL]
  exact if_neg (by simp only [kdKey, h]; simp [cmpVs_ord.refl])
theorem cmpKd_diff {a b : Kd} (h : a.key ≠ b.key) : cmpKd a b = cmpVs a.key b.key := by
  rw [cmpKd_eq, cmpKL]
  exact if_pos (fun e => h (cmpVs_zero.1 e))
theorem same_asc {l : List Kd} {k : List Val} (hk : ∀ x ∈ l, x.key = k) (hs : sortedK l) : ascK l := by
  refine List.Pairwise.imp_of_mem (fun {a b} ha hb h => ?_) hs
  rw [cmpKd_same ((hk b hb).trans (hk a ha).symm)] at h
  unfold cmpI at h
  split at h
  · exact absurd (by decide) h
  · omega
structure Grp (k : Kd) (r : List Kd) : Prop where
  same : ∀ x ∈ k :: r.takeWhile (sameK k), x.key = k.key
  asc : ascK (k :: r.takeWhile (sameK k))
  rest : ∀ x ∈ r.dropWhile (sameK k), cmpVs k.key x.key = -1
  sorted : sortedK (r.dropWhile (sameK k))
  eq : k :: r = (k :: r.takeWhile (sameK k)) ++ r.dropWhile (sameK k)
theorem grp {k : Kd} {r : List Kd} (hs : sortedK (k :: r)) : Grp k r := by
  have hsplit : r.takeWhile (sameK k) ++ r.dropWhile (sameK k) = r := List.takeWhile_append_dropWhile
  have hsame : ∀ x ∈ k :: r.takeWhile (sameK k), x.key = k.key := by
    intro x hx
    rcases List.mem_cons.1 hx with rfl | hx
    · rfl
    · exact sameK_iff.1 (tw_mem hx)
  have h1 : sortedK (k :: r.takeWhile (sameK k)) := List.Pairwise.sublist (List.Sublist.cons_cons _ (List.takeWhile_sublist _)) hs
  have h2 : sortedK (r.dropWhile (sameK k)) := List.Pairwise.sublist (List.dropWhile_sublist _) (List.pairwise_cons.1 hs).2
  refine ⟨hsame, same_asc hsame h1, ?_, h2, by rw [List.cons_append, hsplit]⟩
  have hk : ∀ x ∈ r.dropWhile (sameK k), ¬ cmpKd x k < 0 := fun x hx => (List.pairwise_cons.1 hs).1 x ((List.dropWhile_sublist _).subset hx)
  revert h2 hk
  cases hd : r.dropWhile (sameK k) with
  | nil => intro _ _ x hx; cases hx
  | cons y s =>
    intro h2 hk x hx
    have hy : ¬ sameK k y = true := by
      have := List.head?_dropWhile_not (sameK k) r
      rw [hd] at this
      simpa using this
    have hy : y.key ≠ k.key := fun e => hy (sameK_iff.2 e)
    have hyk := hk y (by simp)
    rw [cmpKd_diff hy] at hyk
    have sy := cmpVs_ord.sign y.key k.key
    have ay := cmpVs_ord.anti y.key k.key
    have : cmpVs y.key k.key ≠ 0 := fun e => hy (cmpVs_zero.1 e)
    have hky : cmpVs k.key y.key = -1 := by omega
    rcases List.mem_cons.1 hx with rfl | hx
    · exact hky
    · have hxy := (List.pairwise_cons.1 h2).1 x hx
      by_cases e : x.key = y.key
      · rw [e]; exact hky
      · rw [cmpKd_diff e] at hxy
        have sx := cmpVs_ord.sign x.key y.key
        have ax := cmpVs_ord.anti x.key y.key
        have : cmpVs x.key y.key ≠ 0 := fun h => e (cmpVs_zero.1 h)
        exact cmpVs_ord.trans _ _ _ hky (by omega)
theorem viol_ind {p : List Kd → Prop} (h0 : p []) (h1 : ∀ k r, sortedK (k :: r) → Grp k r → p (r.dropWhile (sameK k)) → p (k :: r)) (g : List Kd) (hs : sortedK g) : p g := by
  have key : ∀ (n : Nat) (g : List Kd), g.length ≤ n → sortedK g → p g := by
    intro n
    induction n with
    | zero =>
      intro g hl _
      cases g with
      | nil => exact h0
      | cons k r => simp at hl
    | succ n ih =>
      intro g hl hs
      cases g with
      | nil => exact h0
      | cons k r =>
        have hg := grp hs
        refine h1 k r hs hg (ih _ ?_ hg.sorted)
        have := dropWhile_le (sameK k) r
        simp only [List.length_cons] at hl
        omega
  exact key g.length g (Nat.le_refl _) hs
theorem nodup_const {T S : Type} {f : T → S} {c : S} : ∀ {l : List T}, (∀ x ∈ l, f x = c) → ((l.map f).Nodup ↔ ¬ 2 ≤ l.length)
  | [], _ => by simp
  | [x], _ => by simp
  | x :: y :: l, h => by
    have h1 := h x (by simp); have h2 := h y (by simp)
    simp [h1, h2]
theorem covV_append {a b : List Vio} {d : Int} : covV (a ++ b) d ↔ covV a d ∨ covV b d := by
  simp only [covV, List.mem_append]
  constructor
  · rintro ⟨v, h | h, hv⟩
    · exact .inl ⟨v, h, hv⟩
    · exact .inr ⟨v, h, hv⟩
  · rintro (⟨v, h, hv⟩ | ⟨v, h, hv⟩)
    · exact ⟨v, .inl h, hv⟩
    · exact ⟨v, .inr h, hv⟩
theorem viol_days {g : List Kd} (hs : sortedK g) (hv : ∀ x ∈ g, x.t.p.lo < x.t.p.hi) (d : Int) : covV (violL g) d ↔ ¬ ((g.filter (atD d)).map (fun x => x.key)).Nodup := by
  revert hv
  refine viol_ind (p := fun g => (∀ x ∈ g, x.t.p.lo < x.t.p.hi) → (covV (violL g) d ↔ ¬ ((g.filter (atD d)).map (fun x => x.key)).Nodup)) ?_ ?_ g hs
  · intro _
    simp [violL, violGo, covV]
  · intro k r hs hg ih hv
    have hvr : ∀ x ∈ r.dropWhile (sameK k), x.t.p.lo < x.t.p.hi := fun x hx => hv x (List.mem_cons_of_mem _ ((List.dropWhile_sublist _).subset hx))
    have hva : ∀ x ∈ k :: r.takeWhile (sameK k), x.t.p.lo < x.t.p.hi := fun x hx => hv x (by rw [hg.eq]; exact List.mem_append_left _ hx)
    have ih := ih hvr
    rw [violL_cons, covV_append, ih, hg.eq]
    have hA : covV (if 2 ≤ (k :: r.takeWhile (sameK k)).length then confl (k :: r.takeWhile (sameK k)) else []) d ↔ 2 ≤ ((k :: r.takeWhile (sameK k)).filter (atD d)).length := by
      split
      · exact confl_days hg.asc hva d
      · rename_i h
        have := List.length_filter_le (atD d) (k :: r.takeWhile (sameK k))
        constructor
        · rintro ⟨v, hv, _⟩; cases hv
        · intro; omega
    rw [hA, List.filter_append, List.map_append, List.nodup_append, nodup_const (c := k.key) (fun x hx => hg.same x ((List.mem_filter.1 hx).1))]
    have hdis : ∀ a ∈ ((k :: r.takeWhile (sameK k)).filter (atD d)).map (fun x => x.key), ∀ b ∈ ((r.dropWhile (sameK k)).filter (atD d)).map (fun x => x.key), a ≠ b := by
      intro a ha b hb e
      obtain ⟨x, hx, rfl⟩ := List.mem_map.1 ha
      obtain ⟨y, hy, rfl⟩ := List.mem_map.1 hb
      have h1 := hg.same x ((List.mem_filter.1 hx).1)
      have h2 := hg.rest y ((List.mem_filter.1 hy).1)
      rw [h1] at e
      rw [e, cmpVs_ord.refl] at h2
      exact absurd h2 (by decide)
    constructor
    · rintro (h | h) ⟨h1, h2, -⟩
      · exact h1 h
      · exact h h2
    · intro h
      by_cases h1 : 2 ≤ ((k :: r.takeWhile (sameK k)).filter (atD d)).length
      · exact .inl h1
      · by_cases h2 : (((r.dropWhile (sameK k)).filter (atD d)).map (fun x => x.key)).Nodup
        · exact absurd ⟨h1, h2, hdis⟩ h
        · exact .inr h2
end Go.Vc
/- The laws' data; the sanity check; the reference's key values. -/
namespace Go.Vc
open Go Go.Proofs Go.Shelf
abbrev shV : RSh := ⟨false, [(true, [.int .i64, .int .i64, .str])]⟩
def txt (r : Int) : ByteArray := if r = 0 then ⟨#[]⟩ else if r = 1 then ⟨#[97]⟩ else ⟨#[98, 39]⟩
def lv0 (x : Int) : Val := if x.tmod 7 = 6 then val0 else ⟨1, x.tmod 3 - 1, ⟨#[]⟩⟩
def lv1 (x : Int) : Val := if x.tmod 7 = 6 then val0 else ⟨2, 0, txt (x.tmod 3)⟩
theorem tmod3 {x : Int} (h : 0 ≤ x) : x.tmod 3 = 0 ∨ x.tmod 3 = 1 ∨ x.tmod 3 = 2 := by
  have h1 := Int.tmod_eq_emod_of_nonneg h (b := 3)
  omega
def an68 : Ann where
  res := fun _ => none
  lend := fun _ => false
  sch := fun _ => .done
  lt := fun _ => []
  tup := tups

theorem vc68 (P : Program) (H : Heap) (n : Int) (post : Int → Int → ByteArray → Heap → Prop) :
  vcFn P tab an68 Try.f68 [.int .i64 n] 0 H ⟨false, [(true, [.int .i64, .int .i64, .str])]⟩ post =
  (  post (1 : Int) n ⟨⟨[]⟩⟩ H) := by kernel_rfl
theorem law0_IntValue {n : Int} {H : Heap} : ConT Try.prog 68 [.int .i64 n] H shV (fun k m s _ => k = 1 ∧ m = n ∧ s = ⟨#[]⟩) := by
  refine con_of_vc (an := an68) (fn := Try.f68) mix tabOK Try.func68 (by kernel_rfl) (extra := 0) ?_
  rw [vc68]
  exact ⟨rfl, rfl, rfl⟩
def an43 : Ann where
  res := fun _ => none
  lend := fun _ => false
  sch := fun _ => .done
  lt := fun _ => []
  tup := tups

theorem vc43 (P : Program) (H : Heap) (col : Int) (x : Int) (post : Int → Int → ByteArray → Heap → Prop) :
  vcFn P tab an43 Try.f43 [.int .i64 col, .int .u16 x] 0 H ⟨false, [(true, [.int .i64, .int .i64, .str])]⟩ post =
  (  (7 : Int) ≠ (0 : Int) ∧ (decide (Int.tmod x (7 : Int) = (6 : Int)) = true → post (0 : Int) (0 : Int) ⟨⟨[]⟩⟩ H) ∧ (decide (Int.tmod x (7 : Int) = (6 : Int)) = false → (2 : Int) ≠ (0 : Int) ∧
  (decide (Int.tmod col (2 : Int) = (0 : Int)) = true → (3 : Int) ≠ (0 : Int) ∧ ∃ (e3 : Int), IntKind.wrap IntKind.i64 (Int.tmod x (3 : Int)) = e3 ∧ rng .i64 (e3 - (1 : Int)) ∧ ∃ (post4 : Int
  → Int → ByteArray → Heap → Prop), ConT P 68 [.int .i64 (e3 - (1 : Int))] H ⟨false, [(true, [.int .i64, .int .i64, .str])]⟩ post4 ∧ ∀ (H5 : Heap), Heap.le H H5 → ∀ (n7 n8 : Int) (s9 :
  ByteArray), post4 n7 n8 s9 H5 → post n7 n8 s9 H5) ∧ (decide (Int.tmod col (2 : Int) = (0 : Int)) = false → (3 : Int) ≠ (0 : Int) ∧ (0 : Int) ≤ Int.tmod x (3 : Int) ∧ Int.tmod x (3 : Int) <
  (↑3 : Int) ∧ ∃ (s12 : ByteArray), win [.string ⟨⟨[]⟩⟩, .string { data := ⟨[(97 : UInt8)]⟩ }, .string { data := ⟨[(98 : UInt8), (39 : UInt8)]⟩ }] (Int.toNat (Int.tmod x (3 : Int)) * 1) 1 =
  [.string s12] ∧ post (2 : Int) (0 : Int) s12 H))) := by kernel_rfl
theorem law0_Value0 {x : Int} {H : Heap} (hx : 0 ≤ x) : ConT Try.prog 43 [.int .i64 0, .int .u16 x] H shV (fun k n s _ => (⟨k, n, s⟩ : Val) = lv0 x) := by
  refine con_of_vc (an := an43) (fn := Try.f43) mix tabOK Try.func43 (by kernel_rfl) (extra := 0) ?_
  rw [vc43]
  refine ⟨by decide, fun h => ?_, fun h => ⟨by decide, fun _ => ⟨by decide, ?_⟩, fun h => absurd h (by decide)⟩⟩
  · have h := of_decide_eq_true h
    simp [lv0, h, val0]
  · have h := of_decide_eq_false h
    rcases tmod3 hx with e | e | e <;> rw [e] <;> refine ⟨_, rfl, by decide, _, law0_IntValue, ?_⟩ <;> rintro H5 _ _ _ _ ⟨rfl, rfl, rfl⟩ <;> simp only [lv0, if_neg h, e] <;> rfl
theorem law0_Value1 {x : Int} {H : Heap} (hx : 0 ≤ x) : ConT Try.prog 43 [.int .i64 1, .int .u16 x] H shV (fun k n s _ => (⟨k, n, s⟩ : Val) = lv1 x) := by
  refine con_of_vc (an := an43) (fn := Try.f43) mix tabOK Try.func43 (by kernel_rfl) (extra := 0) ?_
  rw [vc43]
  refine ⟨by decide, fun h => ?_, fun h => ⟨by decide, fun h => absurd h (by decide), fun _ => ⟨by decide, ?_⟩⟩⟩
  · have h := of_decide_eq_true h
    simp [lv1, h, val0]
  · have h := of_decide_eq_false h
    rcases tmod3 hx with e | e | e <;> rw [e] <;> refine ⟨by decide, by decide, _, rfl, ?_⟩ <;> simp only [lv1, if_neg h, e] <;> rfl
theorem val_eta {k n : Int} {s : ByteArray} {v : Val} (h : (⟨k, n, s⟩ : Val) = v) : k = v.kind ∧ n = v.n ∧ s = v.s := by subst h; exact ⟨rfl, rfl, rfl⟩
theorem lv0_ok {x : Int} (hx : 0 ≤ x) : rng .i64 (lv0 x).kind ∧ rng .i64 (lv0 x).n ∧ str (lv0 x).s := by
  unfold lv0
  split
  · exact ⟨by decide, by decide, by unfold str val0; decide⟩
  · refine ⟨(by decide : rng .i64 1), ?_, (by unfold str; decide : str ⟨#[]⟩)⟩
    rcases tmod3 hx with e | e | e <;> simp only [e] <;> decide
theorem lv1_ok {x : Int} (hx : 0 ≤ x) : rng .i64 (lv1 x).kind ∧ rng .i64 (lv1 x).n ∧ str (lv1 x).s := by
  unfold lv1
  split
  · exact ⟨by decide, by decide, by unfold str val0; decide⟩
  · refine ⟨(by decide : rng .i64 2), (by decide : rng .i64 0), ?_⟩
    rcases tmod3 hx with e | e | e <;> simp only [e] <;> unfold str txt <;> decide
def an23 : Ann where
  res := fun _ => none
  lend := fun _ => false
  sch := fun _ => .done
  lt := fun _ => []
  tup := tups

theorem vc23 (P : Program) (H : Heap) (x : Int) (y : Int) (post : Option Addr → Nat → Nat → Heap → Prop) :
  vcFn P tab an23 Try.f23 [.int .u16 x, .int .u16 y] 0 H ⟨false, [(false, [.sl])]⟩ post =
  (  ∃ (post0 : Int → Int → ByteArray → Heap → Prop), ConT P 43 [.int .i64 (0 : Int), .int .u16 x] H ⟨false, [(true, [.int .i64, .int .i64, .str])]⟩ post0 ∧ ∀ (H1 : Heap), Heap.le H H1 → ∀ (n3
  n4 : Int) (s5 : ByteArray), post0 n3 n4 s5 H1 → ∃ (post7 : Int → Int → ByteArray → Heap → Prop), ConT P 43 [.int .i64 (1 : Int), .int .u16 y] H1 ⟨false, [(true, [.int .i64, .int .i64,
  .str])]⟩ post7 ∧ ∀ (H8 : Heap), Heap.le H1 H8 → ∀ (n10 n11 : Int) (s12 : ByteArray), post7 n10 n11 s12 H8 → ∀ (A14 : Option Addr) (c15 : Nat) (H16 : Heap), Heap.le H8 H16 → Cells H16 A14 0
  [.int .i64 n3, .int .i64 n4, .string s5, .int .i64 n10, .int .i64 n11, .string s12] → 2 ≤ c15 → post A14 2 c15 H16) := by kernel_rfl
theorem law0_Vals {x y : Int} {H : Heap} (hx : 0 ≤ x) (hy : 0 ≤ y) : ConT Try.prog 23 [.int .u16 x, .int .u16 y] H shS (fun A n c H' => Sl H' A n c [lv0 x, lv1 y]) := by
  refine con_of_vc (an := an23) (fn := Try.f23) mix tabOK Try.func23 (by kernel_rfl) (extra := 0) ?_
  rw [vc23]
  refine ⟨_, law0_Value0 hx, ?_⟩
  intro H1 l1 k n s h
  obtain ⟨rfl, rfl, rfl⟩ := val_eta h
  refine ⟨_, law0_Value1 hy, ?_⟩
  intro H2 l2 k n s h
  obtain ⟨rfl, rfl, rfl⟩ := val_eta h
  intro A c H3 l3 hc hn
  exact Row.sl (H := H3) (T := Val) (l := [lv0 x, lv1 y]) ⟨[_, _, _], [_, _, _], rfl, ⟨rfl, lv0_ok hx⟩, [_, _, _], [], rfl, ⟨rfl, lv1_ok hy⟩, rfl⟩ (hle_refl H3) hc rfl hn (by decide) (by decide)
def awA : Tup := ⟨[lv0 0, lv1 0], ⟨0, 5⟩, [1]⟩
def awB : Tup := ⟨[lv0 0, lv1 1], ⟨3, 9⟩, [2]⟩
theorem perm_two {T : Type} {x y : T} {g : List T} (h : g.Perm [x, y]) : g = [x, y] ∨ g = [y, x] := by
  match g, h.length_eq with
  | [u, v], _ =>
    have hu : u = x ∨ u = y := by have := h.subset (a := u) (by simp); simpa using this
    rcases hu with rfl | rfl
    · have := (List.perm_cons u).1 h
      have := List.perm_singleton.1 this
      left; rw [this]
    · have h2 : [u, v].Perm [u, x] := h.trans (List.Perm.swap _ _ _)
      have := (List.perm_cons u).1 h2
      have := List.perm_singleton.1 this
      right; rw [this]
theorem aw_sorted {g : List Kd} {cols : List Int} (h1 : g.Perm (byKeyL [awA, awB] cols)) (h2 : g.Pairwise (fun a b => ¬ cmpKd b a < 0)) (hc : cmpKd ⟨keyVals awA.vals cols, awA⟩ ⟨keyVals awB.vals cols, awB⟩ < 0) : g = byKeyL [awA, awB] cols := by
  have e : byKeyL [awA, awB] cols = [⟨keyVals awA.vals cols, awA⟩, ⟨keyVals awB.vals cols, awB⟩] := rfl
  rw [e] at h1 ⊢
  rcases perm_two h1 with rfl | rfl
  · rfl
  · simp only [List.pairwise_cons, List.mem_singleton] at h2
    exact absurd hc (h2.1 _ rfl)
theorem sortI_eq {l m : List Int} (hp : m.Perm l) (hs : m.Pairwise (fun a b => a ≤ b)) : sortI l = m := by
  have h1 := List.pairwise_mergeSort (le := fun x y : Int => decide (x ≤ y)) (fun a b c h1 h2 => by simp only [decide_eq_true_eq] at *; omega) (fun a b => by simp only [Bool.or_eq_true, decide_eq_true_eq]; omega) l
  refine List.Perm.eq_of_pairwise (le := fun a b : Int => a ≤ b) (fun a b _ _ h h' => by omega) (h1.imp fun h => by simpa using h) hs ?_
  exact (List.mergeSort_perm l _).trans hp.symm
theorem aw_viol0 : violL (byKeyL [awA, awB] [0]) = [⟨⟨3, 5⟩, [1, 2]⟩] := by
  have e : byKeyL [awA, awB] [0] = [⟨[lv0 0], awA⟩, ⟨[lv0 0], awB⟩] := by decide +kernel
  rw [e, violL_cons]
  have t1 : List.takeWhile (sameK ⟨[lv0 0], awA⟩) [⟨[lv0 0], awB⟩] = [⟨[lv0 0], awB⟩] := by decide +kernel
  have t2 : List.dropWhile (sameK ⟨[lv0 0], awA⟩) [⟨[lv0 0], awB⟩] = [] := by decide +kernel
  rw [t1, t2, if_pos (by decide)]
  have p1 : sortI (ends [⟨[lv0 0], awA⟩, ⟨[lv0 0], awB⟩]) = [0, 3, 5, 9] := sortI_eq (by decide +kernel) (by decide)
  have p2 : Lib.compact ([0, 3, 5, 9] : List Int) = [0, 3, 5, 9] := by decide +kernel
  have m1 : mergedL [⟨[lv0 0], awA⟩, ⟨[lv0 0], awB⟩] = [1, 2] := by
    unfold mergedL mergeLin
    rw [sortI_eq (m := [1, 2]) (by decide +kernel) (by decide)]
    decide +kernel
  have s0 : stepA 0 [] [⟨[lv0 0], awA⟩, ⟨[lv0 0], awB⟩] = [⟨[lv0 0], awA⟩] := by decide +kernel
  have r0 : stepR 0 [⟨[lv0 0], awA⟩, ⟨[lv0 0], awB⟩] = [⟨[lv0 0], awB⟩] := by decide +kernel
  have s1 : stepA 3 [⟨[lv0 0], awA⟩] [⟨[lv0 0], awB⟩] = [⟨[lv0 0], awA⟩, ⟨[lv0 0], awB⟩] := by decide +kernel
  have r1 : stepR 3 [⟨[lv0 0], awB⟩] = [] := by decide +kernel
  have s2 : stepA 5 [⟨[lv0 0], awA⟩, ⟨[lv0 0], awB⟩] [] = [⟨[lv0 0], awB⟩] := by decide +kernel
  have r2 : stepR 5 [] = [] := rfl
  unfold confl points
  rw [p1, p2, confGo, s0, r0, if_neg (by decide), confGo, s1, r1, if_pos (by decide), m1, confGo, s2, if_neg (by decide)]
  decide +kernel
theorem aw_viol1 : (violL (byKeyL [awA, awB] [0, 1])).length = 0 := by decide +kernel
def an9 : Ann where
  res := fun _ => none
  lend := fun | 41 => true | 49 => true | _ => false
  sch := fun _ => .done
  lt := fun _ => []
  tup := tups

theorem vc9 (P : Program) (H : Heap)  (post : Bool → Heap → Prop) :
  vcFn P tab an9 Try.f9 [] 0 H ⟨false, [(false, [.bool])]⟩ post =
  (  ∃ (post0 : Option Addr → Nat → Nat → Heap → Prop), ConT P 23 [.int .u16 (0 : Int), .int .u16 (0 : Int)] H ⟨false, [(false, [.sl])]⟩ post0 ∧ ∀ (H1 : Heap), Heap.le H H1 → ∀ (A3 : Option
  Addr) (n4 c5 : Nat), post0 A3 n4 c5 H1 → ∃ (post7 : Option Addr → Nat → Nat → Heap → Prop), ConT P 23 [.int .u16 (0 : Int), .int .u16 (1 : Int)] H1 ⟨false, [(false, [.sl])]⟩ post7 ∧ ∀ (H8 :
  Heap), Heap.le H1 H8 → ∀ (A10 : Option Addr) (n11 c12 : Nat), post7 A10 n11 c12 H8 → ∀ (A14 : Option Addr) (c15 : Nat) (H16 : Heap), Heap.le H8 H16 → Cells H16 A14 0 [.int .i64 (1 : Int)] →
  1 ≤ c15 → ∀ (A20 : Option Addr) (c21 : Nat) (H22 : Heap), Heap.le H16 H22 → Cells H22 A20 0 [.int .i64 (2 : Int)] → 1 ≤ c21 → ∀ (A26 : Option Addr) (c27 : Nat) (H28 : Heap), Heap.le H22 H28
  → Cells H28 A26 0 [.slice A3 n4 c5, .int .i64 (0 : Int), .int .i64 (5 : Int), .slice A14 1 c15, .slice A10 n11 c12, .int .i64 (3 : Int), .int .i64 (9 : Int), .slice A20 1 c21] → 2 ≤ c27 → ∀
  (A32 : Option Addr) (c33 : Nat) (H34 : Heap), Heap.le H28 H34 → Cells H34 A32 0 [.int .i64 (0 : Int)] → 1 ≤ c33 → ∃ (post38 : Option Addr → Nat → Nat → Heap → Prop), ConT P 16 [.slice A26 2
  c27, .slice A32 1 c33] H34 ⟨false, [(false, [.sl])]⟩ post38 ∧ ∀ (H39 : Heap), Heap.le H34 H39 → ∀ (A41 : Option Addr) (n42 c43 : Nat), post38 A41 n42 c43 H39 → (decide ((↑n42 : Int) = (1 :
  Int)) = true → someA A41 ∧ (0 : Int) ≤ (0 : Int) ∧ (0 : Int) < (↑n42 : Int) ∧ ∃ (n46 : Int), ∃ (n47 : Int), Cells H39 A41 (Int.toNat (0 : Int) * 3 + 0) [.int .i64 n46, .int .i64 n47] ∧
  ((decide (n46 = (3 : Int)) && decide (n47 = (5 : Int))) = true → someA A41 ∧ (0 : Int) ≤ (0 : Int) ∧ (0 : Int) < (↑n42 : Int) ∧ ∃ (A49 : Option Addr), ∃ (n50 : Nat), ∃ (c51 : Nat), Cells
  H39 A41 (Int.toNat (0 : Int) * 3 + 2) [.slice A49 n50 c51] ∧ (decide ((↑n50 : Int) = (2 : Int)) = true → ∃ (post53 : Bool → Heap → Prop), (∀ (A54 : Option Addr) (c55 : Nat) (H56 : Heap),
  Heap.le H39 H56 → Cells H56 A54 0 [.slice A3 n4 c5, .int .i64 (0 : Int), .int .i64 (5 : Int), .slice A14 1 c15, .slice A10 n11 c12, .int .i64 (3 : Int), .int .i64 (9 : Int), .slice A20 1
  c21] → 2 ≤ c55 → ∀ (A60 : Option Addr) (c61 : Nat) (H62 : Heap), Heap.le H56 H62 → Cells H62 A60 0 [.int .i64 (0 : Int)] → 1 ≤ c61 → ConT P 17 [.slice A54 2 c55, .slice A60 1 c61] H62
  ⟨false, [(false, [.bool])]⟩ post53) ∧ ∀ (H66 : Heap) (b67 : Bool), post53 b67 H66 → ((!b67) = true → ∃ (post70 : Bool → Heap → Prop), (∀ (A71 : Option Addr) (c72 : Nat) (H73 : Heap),
  Heap.le H39 H73 → Cells H73 A71 0 [.slice A3 n4 c5, .int .i64 (0 : Int), .int .i64 (5 : Int), .slice A14 1 c15, .slice A10 n11 c12, .int .i64 (3 : Int), .int .i64 (9 : Int), .slice A20 1
  c21] → 2 ≤ c72 → ∀ (A77 : Option Addr) (c78 : Nat) (H79 : Heap), Heap.le H73 H79 → Cells H79 A77 0 [.int .i64 (0 : Int), .int .i64 (1 : Int)] → 2 ≤ c78 → ConT P 17 [.slice A71 2 c72, .slice
  A77 2 c78] H79 ⟨false, [(false, [.bool])]⟩ post70) ∧ ∀ (H83 : Heap) (b84 : Bool), post70 b84 H83 → (b84 = true → ∀ (A87 : Option Addr) (c88 : Nat) (H89 : Heap), Heap.le H39 H89 → Cells H89
  A87 0 [.int .i64 (1 : Int), .int .i64 (7 : Int)] → 2 ≤ c88 → ∃ (post93 : Option Addr → Nat → Nat → Heap → Prop), ConT P 11 [.slice A3 n4 c5, .slice A87 2 c88] H89 ⟨false, [(false, [.sl])]⟩
  post93 ∧ ∀ (H94 : Heap), Heap.le H89 H94 → ∀ (A96 : Option Addr) (n97 c98 : Nat), post93 A96 n97 c98 H94 → post (decide ((↑n97 : Int) = (2 : Int))) H94) ∧ (b84 = false → post false H39)) ∧
  ((!b67) = false → post false H39)) ∧ (decide ((↑n50 : Int) = (2 : Int)) = false → post false H39)) ∧ ((decide (n46 = (3 : Int)) && decide (n47 = (5 : Int))) = false → post false H39)) ∧
  (decide ((↑n42 : Int) = (1 : Int)) = false → post false H39)) := by kernel_rfl
set_option maxHeartbeats 1000000 in
theorem law22_awake {H : Heap} : ConT Try.prog 9 [] H shB (fun r _ => r = true) := by
  refine con_of_vc (an := an9) (fn := Try.f9) mix tabOK Try.func9 (by kernel_rfl) (extra := 0) ?_
  rw [vc9]
  refine ⟨_, law0_Vals (x := 0) (y := 0) (by decide) (by decide), ?_⟩
  intro H1 l1 A3 n4 c5 h3
  refine ⟨_, law0_Vals (x := 0) (y := 1) (by decide) (by decide), ?_⟩
  intro H8 l8 A10 n11 c12 h10 A14 c15 H16 l16 hc14 hn14 A20 c21 H22 l22 hc20 hn20 A26 c27 H28 l28 hc26 hn26 A32 c33 H34 l34 hc32 hn32
  have s14 : Sl H16 A14 1 c15 [(1 : Int)] := Row.sl (H := H16) (T := Int) (l := [1]) ⟨[_], [], rfl, ⟨rfl, by decide⟩, rfl⟩ (hle_refl _) hc14 rfl hn14 (by decide) (by decide)
  have s20 : Sl H22 A20 1 c21 [(2 : Int)] := Row.sl (H := H22) (T := Int) (l := [2]) ⟨[_], [], rfl, ⟨rfl, by decide⟩, rfl⟩ (hle_refl _) hc20 rfl hn20 (by decide) (by decide)
  have tups : ∀ {H' : Heap} {A : Option Addr} {c : Nat}, Heap.le H22 H' → Cells H' A 0 [.slice A3 n4 c5, .int .i64 0, .int .i64 5, .slice A14 1 c15, .slice A10 n11 c12, .int .i64 3, .int .i64 9, .slice A20 1 c21] → 2 ≤ c → Sl H' A 2 c [awA, awB] := by
    intro H' A c hle hc hn
    have k1 : Rep.rel H' [Value.slice A3 n4 c5, .int .i64 0, .int .i64 5, .slice A14 1 c15] awA := ⟨_, _, _, _, _, _, rfl, h3.mono (hle_trans l8 (hle_trans l16 (hle_trans l22 hle))), by decide, by decide, s14.mono (hle_trans l22 hle)⟩
    have k2 : Rep.rel H' [Value.slice A10 n11 c12, .int .i64 3, .int .i64 9, .slice A20 1 c21] awB := ⟨_, _, _, _, _, _, rfl, h10.mono (hle_trans l16 (hle_trans l22 hle)), by decide, by decide, s20.mono hle⟩
    exact Row.sl (H := H') (T := Tup) (l := [awA, awB]) ⟨[_, _, _, _], [_, _, _, _], rfl, k1, [_, _, _, _], [], rfl, k2, rfl⟩ (hle_refl _) hc rfl hn (by decide) (by decide)
  have cols1 : ∀ {H' : Heap} {A : Option Addr} {c : Nat}, Cells H' A 0 [.int .i64 0] → 1 ≤ c → Sl H' A 1 c [(0 : Int)] := fun {H' A c} hc hn => Row.sl (H := H') (T := Int) (l := [0]) ⟨[_], [], rfl, ⟨rfl, by decide⟩, rfl⟩ (hle_refl _) hc rfl hn (by decide) (by decide)
  have cols2 : ∀ {H' : Heap} {A : Option Addr} {c : Nat} {x y : Int}, rng .i64 x → rng .i64 y → Cells H' A 0 [.int .i64 x, .int .i64 y] → 2 ≤ c → Sl H' A 2 c [x, y] := fun {H' A c x y} hx hy hc hn => Row.sl (H := H') (T := Int) (l := [x, y]) ⟨[_], [_], rfl, ⟨rfl, hx⟩, [_], [], rfl, ⟨rfl, hy⟩, rfl⟩ (hle_refl _) hc rfl hn (by decide) (by decide)
  have l2234 := hle_trans l28 l34
  refine ⟨_, keys_Violations ((tups l28 hc26 hn26).mono l34) (cols1 hc32 hn32) (by decide) (by decide) (by decide), ?_⟩
  rintro H39 l39 A41 n42 c43 ⟨g, g1, g2, g3⟩
  rw [aw_sorted g1 g2 (by decide +kernel), aw_viol0] at g3
  have hl := g3.len
  simp only [List.length_cons, List.length_nil] at hl
  subst hl
  obtain ⟨hi, hA, _, hc, ⟨A1, n1, c1, rfl, q1, q2, q3⟩⟩ := g3.at (hle_refl H39) (i := 0) (by omega) (by omega)
  have q3l := q3.len
  simp at q3l
  subst q3l
  have l2239 := hle_trans l2234 l39
  refine ⟨fun _ => ⟨hA, by omega, by omega, _, _, hc.at2 (k := 0) rfl rfl, fun _ => ⟨hA, by omega, by omega, _, _, _, hc.at1 (k := 2) rfl, fun _ => ⟨_, fun A54 c55 H56 l56 hc54 hn54 A60 c61 H62 l62 hc60 hn60 => keys_Holds ((tups (hle_trans l2239 l56) hc54 hn54).mono l62) (cols1 hc60 hn60) (by decide) (by decide) (by decide), ?_⟩, fun h => by simp at h⟩, fun h => by simp at h⟩, fun h => by simp at h⟩
  rintro H66 b ⟨g', w1, w2, rfl⟩
  rw [aw_sorted w1 w2 (by decide +kernel), aw_viol0]
  refine ⟨fun _ => ⟨_, fun A71 c72 H73 l73 hc71 hn71 A77 c78 H79 l79 hc77 hn77 => keys_Holds ((tups (hle_trans l2239 l73) hc71 hn71).mono l79) (cols2 (by decide) (by decide) hc77 hn77) (by decide) (by decide) (by decide), ?_⟩, fun h => by simp at h⟩
  rintro H83 b ⟨g', v1, v2, rfl⟩
  rw [aw_sorted v1 v2 (by decide +kernel), aw_viol1]
  refine ⟨fun _ => ?_, fun h => by simp at h⟩
  intro A87 c88 H89 l89 hc87 hn87
  refine ⟨_, keys_Values (h3.mono (hle_trans l8 (hle_trans l16 (hle_trans l22 (hle_trans l2239 l89))))) (cols2 (by decide) (by decide) hc87 hn87) (by decide), ?_⟩
  intro H94 l94 A96 n97 c98 h96
  have := h96.len
  simp only [keyVals, List.length_map, List.length_cons, List.length_nil] at this
  simp [← this]
end Go.Vc
/- The laws' drawn tuples; comparing lists of ints. -/
namespace Go.Vc
open Go Go.Proofs Go.Shelf
theorem wrap_i64 {e : Int} (h0 : 0 ≤ e) (h1 : e < 100000) : IntKind.wrap .i64 e = e := by
  simp [IntKind.wrap, IntKind.bits, IntKind.signed]; omega
theorem tmod_bd {x : Int} (h : 0 ≤ x) {m : Int} (hm : 0 < m) : 0 ≤ x.tmod m ∧ x.tmod m < m := by
  rw [Int.tmod_eq_emod_of_nonneg h]
  exact ⟨Int.emod_nonneg _ (by omega), Int.emod_lt_of_pos _ hm⟩
def lPer (a b : Int) : Per := ⟨a.tmod 40, if b.tmod 11 = 0 then 1000000 else a.tmod 40 + 1 + b.tmod 15⟩
theorem lPer_ok {a b : Int} (ha : 0 ≤ a) (hb : 0 ≤ b) : 0 ≤ (lPer a b).lo ∧ (lPer a b).lo < 40 ∧ (lPer a b).lo < (lPer a b).hi ∧ (lPer a b).hi ≤ 1000000 := by
  have h1 := tmod_bd ha (m := 40) (by decide)
  have h2 := tmod_bd hb (m := 15) (by decide)
  unfold lPer
  split <;> simp only <;> omega
def an59 : Ann where
  res := fun _ => none
  lend := fun _ => false
  sch := fun _ => .done
  lt := fun _ => []
  tup := tups

theorem vc59 (P : Program) (H : Heap) (from0 : Int) (length : Int) (post : Int → Int → Heap → Prop) :
  vcFn P tab an59 Try.f59 [.int .u16 from0, .int .u16 length] 0 H ⟨false, [(true, [.int .i64, .int .i64])]⟩ post =
  (  (40 : Int) ≠ (0 : Int) ∧ ∃ (e0 : Int), IntKind.wrap IntKind.i64 (Int.tmod from0 (40 : Int)) = e0 ∧ (11 : Int) ≠ (0 : Int) ∧ (decide (Int.tmod length (11 : Int) = (0 : Int)) = true → post e0
  (1000000 : Int) H) ∧ (decide (Int.tmod length (11 : Int) = (0 : Int)) = false → rng .i64 (e0 + (1 : Int)) ∧ (15 : Int) ≠ (0 : Int) ∧ ∃ (e3 : Int), IntKind.wrap IntKind.i64 (Int.tmod length
  (15 : Int)) = e3 ∧ rng .i64 (e0 + (1 : Int) + e3) ∧ post e0 (e0 + (1 : Int) + e3) H)) := by kernel_rfl
theorem law0_Period {a b : Int} {H : Heap} (ha : 0 ≤ a) (hb : 0 ≤ b) : ConT Try.prog 59 [.int .u16 a, .int .u16 b] H ⟨false, [(true, [.int .i64, .int .i64])]⟩ (fun x y _ => (⟨x, y⟩ : Per) = lPer a b) := by
  refine con_of_vc (an := an59) (fn := Try.f59) mix tabOK Try.func59 (by kernel_rfl) (extra := 0) ?_
  rw [vc59]
  have h1 := tmod_bd ha (m := 40) (by decide)
  have h2 := tmod_bd hb (m := 15) (by decide)
  refine ⟨by decide, _, wrap_i64 h1.1 (by omega), by decide, fun h => ?_, fun h => ⟨by simp only [rng]; omega, by decide, _, wrap_i64 h2.1 (by omega), by simp only [rng]; omega, ?_⟩⟩
  · have h := of_decide_eq_true h
    simp [lPer, h]
  · have h := of_decide_eq_false h
    simp [lPer, h]
structure U5 where
  a : Int
  b : Int
  c : Int
  d : Int
  e : Int
instance : Rep U5 where
  sz := 5
  byt := 10
  rel _ vs v := vs = [.int .u16 v.a, .int .u16 v.b, .int .u16 v.c, .int .u16 v.d, .int .u16 v.e] ∧ rng .u16 v.a ∧ rng .u16 v.b ∧ rng .u16 v.c ∧ rng .u16 v.d ∧ rng .u16 v.e
  mono _ h := h
  len h := by simp [h.1]
  pos := by decide
  bpos := by decide
  one h := by rw [h.1]; simp [Value.oneCell']
def lTup (x : U5) : Tup := ⟨[lv0 x.c, lv1 x.d], lPer x.a x.b, [1 + x.e.tmod 5]⟩
def an20 : Ann where
  res := fun _ => none
  lend := fun _ => false
  sch := fun | 4 => (tk [0, 1, 2, 3, 4, 5, 6, 7, 8] .done) | 6 => (tk [0, 1, 2, 3, 4, 5, 6, 7, 8] .done) | _ => .done
  lt := fun | 2 => [.slot 5 false [.int .i64]] | _ => []
  tup := tups

theorem vc20 (P : Program) (H : Heap) (aA : Option Addr) (aN aC : Nat) (bA : Option Addr) (bN bC : Nat) (post : Int → Heap → Prop) :
  vcFn P tab an20 Try.f20 [.slice aA aN aC, .slice bA bN bC] 0 H ⟨false, [(false, [.int .i64])]⟩ post =
  (  ∃ (inv0 : Int → Heap → Prop), ∃ (m1 : Int → Nat), inv0 (0 : Int) H ∧ ∀ (H2 : Heap), Heap.le H H2 → ∀ (n4 : Int), inv0 n4 H2 → (decide (n4 < (↑aN : Int)) = true → (decide (n4 < (↑bN : Int))
  = true → someA aA ∧ (0 : Int) ≤ n4 ∧ n4 < (↑aN : Int) ∧ ∃ (n8 : Int), Cells H2 aA (Int.toNat n4 * 1) [.int .i64 n8] ∧ someA bA ∧ (0 : Int) ≤ n4 ∧ n4 < (↑bN : Int) ∧ ∃ (n9 : Int), Cells H2
  bA (Int.toNat n4 * 1) [.int .i64 n9] ∧ (decide (n8 < n9) = true → post (-1 : Int) H2) ∧ (decide (n8 < n9) = false → someA aA ∧ (0 : Int) ≤ n4 ∧ n4 < (↑aN : Int) ∧ ∃ (n12 : Int), Cells H2 aA
  (Int.toNat n4 * 1) [.int .i64 n12] ∧ someA bA ∧ (0 : Int) ≤ n4 ∧ n4 < (↑bN : Int) ∧ ∃ (n13 : Int), Cells H2 bA (Int.toNat n4 * 1) [.int .i64 n13] ∧ (decide (n13 < n12) = true → post (1 :
  Int) H2) ∧ (decide (n13 < n12) = false → rng .i64 (n4 + (1 : Int)) ∧ inv0 (n4 + (1 : Int)) H2 ∧ m1 (n4 + (1 : Int)) < m1 n4))) ∧ (decide (n4 < (↑bN : Int)) = false → (decide ((↑aN : Int) <
  (↑bN : Int)) = true → post (-1 : Int) H2) ∧ (decide ((↑aN : Int) < (↑bN : Int)) = false → (decide ((↑bN : Int) < (↑aN : Int)) = true → post (1 : Int) H2) ∧ (decide ((↑bN : Int) < (↑aN :
  Int)) = false → post (0 : Int) H2)))) ∧ (decide (n4 < (↑aN : Int)) = false → (decide ((↑aN : Int) < (↑bN : Int)) = true → post (-1 : Int) H2) ∧ (decide ((↑aN : Int) < (↑bN : Int)) = false →
  (decide ((↑bN : Int) < (↑aN : Int)) = true → post (1 : Int) H2) ∧ (decide ((↑bN : Int) < (↑aN : Int)) = false → post (0 : Int) H2)))) := by kernel_rfl
theorem ref6_CompareInts {H : Heap} {A B : Option Addr} {n c m d : Nat} {a b : List Int} (hs : Sl H A n c a) (ht : Sl H B m d b) :
    ConT Try.prog 20 [.slice A n c, .slice B m d] H shI (fun r _ => r = lexI cmpI a b) := by
  refine con_of_vc (an := an20) (fn := Try.f20) mix tabOK Try.func20 (by kernel_rfl) (extra := 0) ?_
  rw [vc20]
  refine ⟨fun i _ => 0 ≤ i ∧ i ≤ n ∧ i ≤ m ∧ lexI cmpI a b = lexI cmpI (a.drop i.toNat) (b.drop i.toNat), fun i => n - i.toNat, ⟨by omega, by omega, by omega, rfl⟩, ?_⟩
  rintro H2 hle i ⟨h0, h1, h1', h2⟩
  have hb := hs.bn; have hl := hs.len; have hm := ht.len
  refine ⟨fun hlt => ?_, fun hge => ?_⟩
  · have hlt := of_decide_eq_true hlt
    refine ⟨fun hmb => ?_, fun hmb => ?_⟩
    · have hmb := of_decide_eq_true hmb
      obtain ⟨hi, hA, _, hc, ⟨rfl, q⟩⟩ := hs.at hle h0 hlt
      obtain ⟨hj, hB, _, hd, ⟨rfl, q'⟩⟩ := ht.at hle h0 (by omega)
      rw [lexI_step hi hj] at h2
      have e0 : cmpI a[i.toNat] b[i.toNat] = if a[i.toNat] < b[i.toNat] then -1 else if b[i.toNat] < a[i.toNat] then 1 else 0 := rfl
      refine ⟨hA, h0, hlt, _, hc, hB, h0, by omega, _, hd, fun hx => ?_, fun hx => ⟨hA, h0, hlt, _, hc, hB, h0, by omega, _, hd, fun hy => ?_, fun hy => ⟨by simp only [rng]; omega, ⟨by omega, by omega, by omega, ?_⟩, by dsimp only; omega⟩⟩⟩
      · have hx := of_decide_eq_true hx
        rw [h2, e0, if_pos hx]; rfl
      · have hx := of_decide_eq_false hx; have hy := of_decide_eq_true hy
        rw [h2, e0, if_neg hx, if_pos hy]; rfl
      · have hx := of_decide_eq_false hx; have hy := of_decide_eq_false hy
        rw [h2, e0, if_neg hx, if_neg hy, show (i + 1).toNat = i.toNat + 1 by omega]; rfl
    · have hmb := of_decide_eq_false hmb
      rw [lexI_endb (by omega) (by omega)] at h2
      exact ⟨fun h => by have := of_decide_eq_true h; omega, fun h => ⟨fun _ => h2.symm, fun h => by have := of_decide_eq_false h; omega⟩⟩
  · have hge := of_decide_eq_false hge
    rw [lexI_enda (by omega)] at h2
    refine ⟨fun h => ?_, fun h => ⟨fun h' => ?_, fun h' => ?_⟩⟩
    · have := of_decide_eq_true h
      rw [h2, if_pos (by omega)]
    · have := of_decide_eq_false h; have := of_decide_eq_true h'; omega
    · have := of_decide_eq_false h; have := of_decide_eq_false h'
      rw [h2, if_neg (by omega)]
end Go.Vc
/- The laws' drawn tuples, all of them. -/
namespace Go.Vc
open Go Go.Proofs Go.Shelf
abbrev shT : RSh := ⟨false, [(true, [.sl, .int .i64, .int .i64, .sl])]⟩
def an34 : Ann where
  res := fun _ => none
  lend := fun _ => false
  sch := fun | 1 => (tk [0, 1, 2, 3, 5, 6, 7, 8, 10, 11, 12, 13, 14] (.alt 4 (.alt 9 (.alt 15 (tk [16] (.alt 17 .done .fin)) .fin) (.alt 15 (.alt 9 (tk [16] (.alt 17 .done .fin)) .fin) .fin)) (.alt 15 (.alt 4 (.alt 9 (tk [16] (.alt 17 .done .fin)) .fin) .fin) .fin))) | _ => .done
  lt := fun _ => []
  tup := tups

theorem vc34 (P : Program) (H : Heap) (x0 : Int) (x1 : Int) (x2 : Int) (x3 : Int) (x4 : Int) (post : Option Addr → Nat → Nat → Int → Int → Option Addr → Nat → Nat → Heap → Prop) :
  vcFn P tab an34 Try.f34 [.agg #[.int .u16 x0, .int .u16 x1, .int .u16 x2, .int .u16 x3, .int .u16 x4]] 0 H ⟨false, [(true, [.sl, .int .i64, .int .i64, .sl])]⟩ post =
  (  (0 : Int) ≤ (2 : Int) ∧ (2 : Int) < (↑5 : Int) ∧ ∃ (n0 : Int), win [.int .u16 x0, .int .u16 x1, .int .u16 x2, .int .u16 x3, .int .u16 x4] (Int.toNat (2 : Int) * 1) 1 = [.int .u16 n0] ∧ (0 :
  Int) ≤ (3 : Int) ∧ (3 : Int) < (↑5 : Int) ∧ ∃ (n1 : Int), win [.int .u16 x0, .int .u16 x1, .int .u16 x2, .int .u16 x3, .int .u16 x4] (Int.toNat (3 : Int) * 1) 1 = [.int .u16 n1] ∧ (0 : Int)
  ≤ (0 : Int) ∧ (0 : Int) < (↑5 : Int) ∧ ∃ (n2 : Int), win [.int .u16 x0, .int .u16 x1, .int .u16 x2, .int .u16 x3, .int .u16 x4] (Int.toNat (0 : Int) * 1) 1 = [.int .u16 n2] ∧ (0 : Int) ≤ (1
  : Int) ∧ (1 : Int) < (↑5 : Int) ∧ ∃ (n3 : Int), win [.int .u16 x0, .int .u16 x1, .int .u16 x2, .int .u16 x3, .int .u16 x4] (Int.toNat (1 : Int) * 1) 1 = [.int .u16 n3] ∧ (0 : Int) ≤ (4 :
  Int) ∧ (4 : Int) < (↑5 : Int) ∧ ∃ (n4 : Int), win [.int .u16 x0, .int .u16 x1, .int .u16 x2, .int .u16 x3, .int .u16 x4] (Int.toNat (4 : Int) * 1) 1 = [.int .u16 n4] ∧ (5 : Int) ≠ (0 : Int)
  ∧ ∃ (e5 : Int), IntKind.wrap IntKind.i64 (Int.tmod n4 (5 : Int)) = e5 ∧ rng .i64 ((1 : Int) + e5) ∧ (∃ (post6 : Option Addr → Nat → Nat → Heap → Prop), ConT P 23 [.int .u16 n0, .int .u16
  n1] H ⟨false, [(false, [.sl])]⟩ post6 ∧ ∀ (H7 : Heap), Heap.le H H7 → ∀ (A9 : Option Addr) (n10 c11 : Nat), post6 A9 n10 c11 H7 → (∃ (post13 : Int → Int → Heap → Prop), ConT P 59 [.int .u16
  n2, .int .u16 n3] H7 ⟨false, [(true, [.int .i64, .int .i64])]⟩ post13 ∧ ∀ (H14 : Heap), Heap.le H7 H14 → ∀ (n16 n17 : Int), post13 n16 n17 H14 → ∀ (A19 : Option Addr) (c20 : Nat) (H21 :
  Heap), Heap.le H14 H21 → Cells H21 A19 0 [.int .i64 ((1 : Int) + e5)] → 1 ≤ c20 → post A9 n10 c11 n16 n17 A19 1 c20 H21) ∧ ∃ (post25 : Int → Int → Heap → Prop), ConT P 59 [.int .u16 n2,
  .int .u16 n3] H7 ⟨false, [(true, [.int .i64, .int .i64])]⟩ post25 ∧ ∀ (H26 : Heap), Heap.le H7 H26 → ∀ (n28 n29 : Int), post25 n28 n29 H26 → ∀ (A31 : Option Addr) (c32 : Nat) (H33 : Heap),
  Heap.le H26 H33 → Cells H33 A31 0 [.int .i64 ((1 : Int) + e5)] → 1 ≤ c32 → post A9 n10 c11 n28 n29 A31 1 c32 H33) ∧ ∃ (post37 : Option Addr → Nat → Nat → Heap → Prop), ConT P 23 [.int .u16
  n0, .int .u16 n1] H ⟨false, [(false, [.sl])]⟩ post37 ∧ ∀ (H38 : Heap), Heap.le H H38 → ∀ (A40 : Option Addr) (n41 c42 : Nat), post37 A40 n41 c42 H38 → ∃ (post44 : Int → Int → Heap → Prop),
  ConT P 59 [.int .u16 n2, .int .u16 n3] H38 ⟨false, [(true, [.int .i64, .int .i64])]⟩ post44 ∧ ∀ (H45 : Heap), Heap.le H38 H45 → ∀ (n47 n48 : Int), post44 n47 n48 H45 → ∀ (A50 : Option Addr)
  (c51 : Nat) (H52 : Heap), Heap.le H45 H52 → Cells H52 A50 0 [.int .i64 ((1 : Int) + e5)] → 1 ≤ c51 → post A40 n41 c42 n47 n48 A50 1 c51 H52) := by kernel_rfl
theorem law0_Tuple {x : U5} {H : Heap} (ha : 0 ≤ x.a) (hb : 0 ≤ x.b) (hc : 0 ≤ x.c) (hd : 0 ≤ x.d) (he : 0 ≤ x.e) :
    ConT Try.prog 34 [.agg ⟨[.int .u16 x.a, .int .u16 x.b, .int .u16 x.c, .int .u16 x.d, .int .u16 x.e]⟩] H shT (fun A n c lo hi B m d H' => Rep.rel H' [.slice A n c, .int .i64 lo, .int .i64 hi, .slice B m d] (lTup x)) := by
  refine con_of_vc (an := an34) (fn := Try.f34) mix tabOK Try.func34 (by kernel_rfl) (extra := 0) ?_
  rw [vc34]
  have h5 := tmod_bd he (m := 5) (by decide)
  have hp := lPer_ok ha hb
  refine ⟨by decide, by decide, x.c, rfl, by decide, by decide, x.d, rfl, by decide, by decide, x.a, rfl, by decide, by decide, x.b, rfl, by decide, by decide, x.e, rfl, by decide, _, wrap_i64 h5.1 (by omega), by simp only [rng]; omega, ?_⟩
  have fin : ∀ {H1 H2 H3 : Heap} {A B : Option Addr} {n c d : Nat} {lo hi : Int}, Sl H1 A n c [lv0 x.c, lv1 x.d] → Heap.le H1 H2 → (⟨lo, hi⟩ : Per) = lPer x.a x.b → Heap.le H2 H3 → Cells H3 B 0 [.int .i64 (1 + x.e.tmod 5)] → 1 ≤ d →
      Rep.rel H3 [Value.slice A n c, .int .i64 lo, .int .i64 hi, .slice B 1 d] (lTup x) := by
    intro H1 H2 H3 A B n c d lo hi h1 l2 hq l3 hcc hn
    have e1 : lo = (lPer x.a x.b).lo := congrArg Per.lo hq
    have e2 : hi = (lPer x.a x.b).hi := congrArg Per.hi hq
    subst e1 e2
    refine ⟨_, _, _, _, _, _, rfl, h1.mono (hle_trans l2 l3), by simp only [rng, lTup]; omega, by simp only [rng, lTup]; omega, ?_⟩
    exact Row.sl (H := H3) (T := Int) (l := [1 + x.e.tmod 5]) ⟨[_], [], rfl, ⟨rfl, by simp only [rng]; omega⟩, rfl⟩ (hle_refl _) hcc rfl hn (by decide) (by decide)
  have per : ∀ {H1 : Heap} {A : Option Addr} {n c : Nat}, Sl H1 A n c [lv0 x.c, lv1 x.d] → ∃ (post13 : Int → Int → Heap → Prop), ConT Try.prog 59 [.int .u16 x.a, .int .u16 x.b] H1 ⟨false, [(true, [.int .i64, .int .i64])]⟩ post13 ∧ ∀ (H14 : Heap), Heap.le H1 H14 → ∀ (n16 n17 : Int), post13 n16 n17 H14 → ∀ (A19 : Option Addr) (c20 : Nat) (H21 : Heap), Heap.le H14 H21 → Cells H21 A19 0 [.int .i64 (1 + x.e.tmod 5)] → 1 ≤ c20 →
      Rep.rel H21 [Value.slice A n c, .int .i64 n16, .int .i64 n17, .slice A19 1 c20] (lTup x) := by
    intro H1 A n c h1
    exact ⟨_, law0_Period ha hb, fun H14 l14 n16 n17 hq A19 c20 H21 l21 hcc hn => fin h1 l14 hq l21 hcc hn⟩
  exact ⟨⟨_, law0_Vals hc hd, fun H7 l7 A9 n10 c11 h9 => ⟨per h9, per h9⟩⟩, _, law0_Vals hc hd, fun H7 l7 A9 n10 c11 h9 => per h9⟩
def lTups (l : List U5) (most : Nat) : List Tup := (l.take most).map lTup
def an18_row : Ann where
  res := fun _ => none
  lend := fun _ => false
  sch := fun _ => .done
  lt := fun | 3 => [.slot 5 false [.row 27 42], .slot 6 false [.int .i64]] | _ => []
  tup := tups

theorem vc18_row (P : Program) (H : Heap) (lA : Option Addr) (lN lC : Nat) (most : Int) (ri0 : Nat) (post : Nat → List Value → Heap → Prop) :
  vcFn P tab an18_row Try.f18 [.slice lA lN lC, .int .i64 most] 1 H ⟨false, [(false, [.row ri0 42])]⟩ post =
  (  ∃ (inv0 : Nat → List Value → Int → Heap → Prop), ∃ (m1 : Nat → List Value → Int → Nat), inv0 0 [] (0 : Int) H ∧ ∀ (H2 : Heap), Heap.le H H2 → ∀ (n4 : Nat) (xs5 : List Value) (n6 : Int),
  inv0 n4 xs5 n6 H2 → (decide (n6 < (↑lN : Int)) = true → (decide (n6 < most) = true → someA lA ∧ (0 : Int) ≤ n6 ∧ n6 < (↑lN : Int) ∧ ∃ (n10 : Int), ∃ (n11 : Int), ∃ (n12 : Int), ∃ (n13 :
  Int), ∃ (n14 : Int), Cells H2 lA (Int.toNat n6 * 5) [.int .u16 n10, .int .u16 n11, .int .u16 n12, .int .u16 n13, .int .u16 n14] ∧ ∃ (post15 : Option Addr → Nat → Nat → Int → Int → Option
  Addr → Nat → Nat → Heap → Prop), ConT P 34 [.agg ⟨[.int .u16 n10, .int .u16 n11, .int .u16 n12, .int .u16 n13, .int .u16 n14]⟩] H2 ⟨false, [(true, [.sl, .int .i64, .int .i64, .sl])]⟩ post15
  ∧ ∀ (H16 : Heap), Heap.le H2 H16 → ∀ (A18 : Option Addr) (n19 c20 : Nat) (n21 n22 : Int) (A23 : Option Addr) (n24 c25 : Nat), post15 A18 n19 c20 n21 n22 A23 n24 c25 H16 → (n4 + 1) * 64 ≤
  140737488355328 ∧ rng .i64 (n6 + (1 : Int)) ∧ inv0 (n4 + 1) (xs5 ++ [.slice A18 n19 c20, .int .i64 n21, .int .i64 n22, .slice A23 n24 c25]) (n6 + (1 : Int)) H16 ∧ m1 (n4 + 1) (xs5 ++
  [.slice A18 n19 c20, .int .i64 n21, .int .i64 n22, .slice A23 n24 c25]) (n6 + (1 : Int)) < m1 n4 xs5 n6) ∧ (decide (n6 < most) = false → post n4 xs5 H2)) ∧ (decide (n6 < (↑lN : Int)) =
  false → post n4 xs5 H2)) := by kernel_rfl
theorem law0_Tuples_row {H : Heap} {A : Option Addr} {n c r most : Nat} {l : List U5} (hs : Sl H A n c l) (hm : most < 1000) :
    ConT Try.prog 18 [.slice A n c, .int .i64 most] H ⟨false, [(false, [.row r 42])]⟩ (fun k xs H' => k = (lTups l most).length ∧ Row H' xs (lTups l most)) := by
  refine con_of_vc (an := an18_row) (fn := Try.f18) mix tabOK Try.func18 (by kernel_rfl) (extra := 1) ?_
  rw [vc18_row]
  have hl := hs.len
  refine ⟨fun k xs i H' => 0 ≤ i ∧ i ≤ n ∧ i ≤ most ∧ k = i.toNat ∧ Row H' xs ((l.take i.toNat).map lTup), fun _ _ i => n - i.toNat, ⟨by omega, by omega, by omega, rfl, rfl⟩, ?_⟩
  rintro H2 hle k xs i ⟨h0, h1, h1', rfl, hr⟩
  have fin : (n ≤ i.toNat ∨ most ≤ i.toNat) → i.toNat = (lTups l most).length ∧ Row H2 xs (lTups l most) := by
    intro h
    have e : (l.take i.toNat) = l.take most := by
      rcases h with h | h
      · rw [List.take_of_length_le (by omega), List.take_of_length_le (by omega)]
      · congr 1; omega
    rw [e] at hr
    refine ⟨?_, hr⟩
    simp only [lTups, List.length_map, List.length_take]; omega
  refine ⟨fun hlt => ⟨fun hlm => ?_, fun hlm => ?_⟩, fun hge => ?_⟩
  · have hlt := of_decide_eq_true hlt; have hlm := of_decide_eq_true hlm
    obtain ⟨hi, hA, _, hc, ⟨rfl, q1, q2, q3, q4, q5⟩⟩ := hs.at hle h0 hlt
    refine ⟨hA, h0, hlt, _, _, _, _, _, hc, _, law0_Tuple q1.1 q2.1 q3.1 q4.1 q5.1, ?_⟩
    intro H3 l3 A18 n19 c20 n21 n22 A23 n24 c25 hrel
    have e1 : (i + 1).toNat = i.toNat + 1 := by omega
    refine ⟨by omega, by simp only [rng]; omega, ⟨by omega, by omega, by omega, by omega, ?_⟩, by dsimp only; omega⟩
    rw [e1, List.take_succ_eq_append_getElem hi, List.map_append]
    exact (hr.mono l3).append ⟨_, [], rfl, hrel, rfl⟩
  · have hlm := of_decide_eq_false hlm
    exact fin (.inr (by omega))
  · have hge := of_decide_eq_false hge
    exact fin (.inl (by omega))
end Go.Vc
/- KeysApart: the law's text. -/
namespace Go.Vc
open Go Go.Proofs Go.Shelf
def nilV (t : Tup) : Tup := ⟨[], t.p, t.lin⟩
theorem tlins_len : ∀ l : List U5, (tlins ((l.map lTup).map nilV)).length = l.length
  | [] => rfl
  | x :: l => by
    have := tlins_len l
    simp only [tlins, List.map_cons, List.flatMap_cons, List.length_append, List.length_cons] at *
    rw [this]
    simp [nilV, lTup]; omega
theorem takeWhile_all {T : Type} {p : T → Bool} : ∀ {l : List T}, (∀ x ∈ l, p x = true) → l.takeWhile p = l ∧ l.dropWhile p = []
  | [], _ => ⟨rfl, rfl⟩
  | x :: l, h => by
    obtain ⟨h1, h2⟩ := takeWhile_all (l := l) fun y hy => h y (by simp [hy])
    have hx := h x (by simp)
    simp [List.takeWhile_cons, List.dropWhile_cons, hx, h1, h2]
theorem viol_one_chain {g : List Kd} (h : ∀ x ∈ g, ∀ y ∈ g, x.key = y.key) : chainV (violL g) := by
  cases g with
  | nil => exact trivial
  | cons k r =>
    obtain ⟨h1, h2⟩ := takeWhile_all (p := sameK k) (l := r) fun x hx => by
      simp only [sameK, decide_eq_true_eq]
      rw [h x (by simp [hx]) k (by simp)]
      exact cmpVs_ord.refl _
    rw [violL_cons, h1, h2]
    show chainV (_ ++ [])
    rw [List.append_nil]
    split
    · exact confl_chain _
    · exact trivial
def an6 : Ann where
  res := fun | 8 => some ⟨false, [(false, [.row 74 42])]⟩ | _ => none
  lend := fun | 69 => true | 73 => true | _ => false
  sch := fun | 10 => (tk [0, 1, 2, 3, 4, 5, 6, 7, 8, 9, 10, 11, 12, 13, 14, 15, 16, 17, 18, 19, 20, 21, 22, 23, 24, 25, 26, 27, 28, 29, 30, 31, 32, 33, 34, 35, 36, 37, 38, 39, 40] (.alt 41 (tk [42, 43, 44] .done) .fin)) | _ => .done
  lt := fun | 3 => [.slot 3 false [.row 75 42], .slot 4 false [.int .i64]] | 8 => [.slot 6 false [.int .i64]] | _ => []
  tup := tups

theorem vc6 (P : Program) (H : Heap) (lA : Option Addr) (lN lC : Nat) (post : Bool → Heap → Prop) :
  vcFn P tab an6 Try.f6 [.slice lA lN lC] 2 H ⟨false, [(false, [.bool])]⟩ post =
  (  ∃ (post0 : Nat → List Value → Heap → Prop), ConT P 18 [.slice lA lN lC, .int .i64 (15 : Int)] H ⟨false, [(false, [.row 74 42])]⟩ post0 ∧ ∀ (H1 : Heap), Heap.le H H1 → ∀ (n3 : Nat) (xs4 :
  List Value), post0 n3 xs4 H1 → ∃ (inv6 : Nat → List Value → Int → Heap → Prop), ∃ (m7 : Nat → List Value → Int → Nat), inv6 n3 xs4 (0 : Int) H1 ∧ ∀ (H8 : Heap), Heap.le H1 H8 → ∀ (n10 :
  Nat) (xs11 : List Value) (n12 : Int), inv6 n10 xs11 n12 H8 → (decide (n12 < (↑n10 : Int)) = true → (0 : Int) ≤ n12 ∧ n12 < (↑n10 : Int) ∧ Int.toNat n12 * 4 + 0 + 1 ≤ List.length xs11 ∧ rng
  .i64 (n12 + (1 : Int)) ∧ inv6 n10 (splice xs11 (Int.toNat n12 * 4 + 0) [.slice none 0 0]) (n12 + (1 : Int)) H8 ∧ m7 n10 (splice xs11 (Int.toNat n12 * 4 + 0) [.slice none 0 0]) (n12 + (1 :
  Int)) < m7 n10 xs11 n12) ∧ (decide (n12 < (↑n10 : Int)) = false → ∀ (A16 : Option Addr) (c17 : Nat) (H18 : Heap), Heap.le H8 H18 → Cells H18 A16 0 xs11 → n10 ≤ c17 → ∀ (A22 : Option Addr)
  (c23 : Nat) (H24 : Heap), Heap.le H18 H24 → Cells H24 A22 0 [.int .i64 (0 : Int)] → 1 ≤ c23 → ∃ (post28 : Option Addr → Nat → Nat → Heap → Prop), ConT P 16 [.slice A16 n10 c17, .slice A22 1
  c23] H24 ⟨false, [(false, [.sl])]⟩ post28 ∧ ∀ (H29 : Heap), Heap.le H24 H29 → ∀ (A31 : Option Addr) (n32 c33 : Nat), post28 A31 n32 c33 H29 → ∃ (inv35 : Int → Heap → Prop), ∃ (m36 : Int →
  Nat), inv35 (1 : Int) H29 ∧ ∀ (H37 : Heap), Heap.le H29 H37 → ∀ (n39 : Int), inv35 n39 H37 → (decide (n39 < (↑n32 : Int)) = true → someA A31 ∧ (0 : Int) ≤ n39 ∧ n39 < (↑n32 : Int) ∧ ∃ (n42
  : Int), Cells H37 A31 (Int.toNat n39 * 3 + 0 + 0) [.int .i64 n42] ∧ rng .i64 (n39 - (1 : Int)) ∧ someA A31 ∧ (0 : Int) ≤ n39 - (1 : Int) ∧ n39 - (1 : Int) < (↑n32 : Int) ∧ ∃ (n43 : Int),
  Cells H37 A31 (Int.toNat (n39 - (1 : Int)) * 3 + 0 + 1) [.int .i64 n43] ∧ (decide (n42 < n43) = true → post false H37) ∧ (decide (n42 < n43) = false → someA A31 ∧ (0 : Int) ≤ n39 ∧ n39 <
  (↑n32 : Int) ∧ ∃ (n46 : Int), Cells H37 A31 (Int.toNat n39 * 3 + 0 + 0) [.int .i64 n46] ∧ rng .i64 (n39 - (1 : Int)) ∧ someA A31 ∧ (0 : Int) ≤ n39 - (1 : Int) ∧ n39 - (1 : Int) < (↑n32 :
  Int) ∧ ∃ (n47 : Int), Cells H37 A31 (Int.toNat (n39 - (1 : Int)) * 3 + 0 + 1) [.int .i64 n47] ∧ (decide (n46 = n47) = true → someA A31 ∧ (0 : Int) ≤ n39 ∧ n39 < (↑n32 : Int) ∧ ∃ (A49 :
  Option Addr), ∃ (n50 : Nat), ∃ (c51 : Nat), Cells H37 A31 (Int.toNat n39 * 3 + 2) [.slice A49 n50 c51] ∧ rng .i64 (n39 - (1 : Int)) ∧ someA A31 ∧ (0 : Int) ≤ n39 - (1 : Int) ∧ n39 - (1 :
  Int) < (↑n32 : Int) ∧ ∃ (A52 : Option Addr), ∃ (n53 : Nat), ∃ (c54 : Nat), Cells H37 A31 (Int.toNat (n39 - (1 : Int)) * 3 + 2) [.slice A52 n53 c54] ∧ ∃ (post55 : Int → Heap → Prop), ConT P
  20 [.slice A49 n50 c51, .slice A52 n53 c54] H37 ⟨false, [(false, [.int .i64])]⟩ post55 ∧ ∀ (H56 : Heap), Heap.le H37 H56 → ∀ (n58 : Int), post55 n58 H56 → (decide (n58 = (0 : Int)) = true →
  post false H56) ∧ (decide (n58 = (0 : Int)) = false → rng .i64 (n39 + (1 : Int)) ∧ inv35 (n39 + (1 : Int)) H56 ∧ m36 (n39 + (1 : Int)) < m36 n39)) ∧ (decide (n46 = n47) = false → rng .i64
  (n39 + (1 : Int)) ∧ inv35 (n39 + (1 : Int)) H37 ∧ m36 (n39 + (1 : Int)) < m36 n39))) ∧ (decide (n39 < (↑n32 : Int)) = false → ∃ (post64 : Bool → Heap → Prop), ConT P 9 [] H37 ⟨false,
  [(false, [.bool])]⟩ post64 ∧ ∀ (H65 : Heap), Heap.le H37 H65 → ∀ (b67 : Bool), post64 b67 H65 → post b67 H65))) := by kernel_rfl
set_option maxHeartbeats 1000000 in
theorem law22_KeysApart {H : Heap} {A : Option Addr} {n c : Nat} {l : List U5} (hs : Sl H A n c l) :
    ConT Try.prog 6 [.slice A n c] H shB (fun r _ => r = true) := by
  refine con_of_vc (an := an6) (fn := Try.f6) mix tabOK Try.func6 (by kernel_rfl) (extra := 2) ?_
  rw [vc6]
  refine ⟨_, law0_Tuples_row (most := 15) hs (by decide), ?_⟩
  rintro H1 l1 k0 xs0 ⟨rfl, hr0⟩
  have hts : (lTups l 15).length ≤ 15 := by simp only [lTups, List.length_map, List.length_take]; omega
  generalize hT : lTups l 15 = ts at hr0 hts
  refine ⟨fun k xs i H' => 0 ≤ i ∧ i ≤ ts.length ∧ k = ts.length ∧ Row H' xs ((ts.take i.toNat).map nilV ++ ts.drop i.toNat), fun _ _ i => ts.length - i.toNat, ⟨by omega, by omega, rfl, by simpa using hr0⟩, ?_⟩
  rintro H8 l8 k xs i ⟨i0, i1, rfl, hr⟩
  have hlen := hr.length
  have hll : ((ts.take i.toNat).map nilV ++ ts.drop i.toNat).length = ts.length := by simp; omega
  refine ⟨fun hlt => ?_, fun hge => ?_⟩
  · have hlt := of_decide_eq_true hlt
    have hi : i.toNat < ts.length := by omega
    have hi' : i.toNat < ((ts.take i.toNat).map nilV ++ ts.drop i.toNat).length := by omega
    have hget : ((ts.take i.toNat).map nilV ++ ts.drop i.toNat)[i.toNat] = ts[i.toNat] := by
      rw [List.getElem_append_right (by simp; omega)]
      simp
      congr 1; omega
    obtain ⟨vs, hrel, -, hsp⟩ := hr.getf hi'
    rw [hget] at hrel
    obtain ⟨A1, n1, c1, B1, m1, d1, rfl, q1, q2, q3, q4⟩ := hrel
    have e1 : (i + 1).toNat = i.toNat + 1 := by omega
    have hnew := hsp 0 [.slice none 0 0] (nilV ts[i.toNat]) (by show 0 + 1 ≤ 4; omega) ⟨none, 0, 0, B1, m1, d1, rfl, Sl.nil, q2, q3, q4⟩
    have hset : ((ts.take i.toNat).map nilV ++ ts.drop i.toNat).set i.toNat (nilV ts[i.toNat]) = (ts.take (i + 1).toNat).map nilV ++ ts.drop (i + 1).toNat := by
      have hml : ((ts.take i.toNat).map nilV).length = i.toNat := by simp; omega
      rw [List.set_append_right _ _ (by omega), hml, Nat.sub_self, List.drop_eq_getElem_cons hi, List.set_cons_zero, e1, List.take_succ_eq_append_getElem hi, List.map_append, List.append_assoc]
      rfl
    rw [hset] at hnew
    refine ⟨i0, hlt, ?_, by simp only [rng]; omega, ⟨by omega, by omega, rfl, hnew⟩, by dsimp only; omega⟩
    rw [hlen, hll]
    show i.toNat * 4 + 0 + 1 ≤ ts.length * 4
    omega
  · have hge := of_decide_eq_false hge
    rw [List.take_of_length_le (by omega), List.drop_eq_nil_of_le (by omega), List.append_nil] at hr
    intro A16 c17 H18 l18 hc18 hn18 A22 c23 H24 l24 hc24 hn24
    have hcol : Sl H24 A22 1 c23 [(0 : Int)] := Row.sl (H := H24) (T := Int) (l := [0]) ⟨[_], [], rfl, ⟨rfl, by decide⟩, rfl⟩ (hle_refl _) hc24 rfl hn24 (by decide) (by decide)
    have hlin : (tlins (ts.map nilV)).length ≤ 15 := by
      rw [← hT, lTups, tlins_len, List.length_take]; omega
    have htp : Sl H24 A16 ts.length c17 (ts.map nilV) := (hr.sl l18 hc18 (by simp) hn18 (by show ts.length * 64 ≤ _; omega) (by omega)).mono l24
    refine ⟨_, keys_Violations htp hcol (by decide) (by omega) (by omega), ?_⟩
    rintro H29 l29 A31 n32 c33 ⟨g, g1, g2, hv⟩
    have hchain : chainV (violL g) := by
      refine viol_one_chain fun x hx y hy => ?_
      have key : ∀ z ∈ g, z.key = [val0] := by
        intro z hz
        have := (g1.mem_iff).1 hz
        simp only [byKeyL, List.mem_map, List.mem_filter] at this
        obtain ⟨t, ⟨⟨u, _, rfl⟩, _⟩, rfl⟩ := this
        rfl
      rw [key x hx, key y hy]
    have hvl := hv.len
    refine ⟨fun i _ => 1 ≤ i, fun i => n32 - i.toNat, by omega, ?_⟩
    rintro H37 l37 i hi1
    have hvb := hv.bn
    refine ⟨fun hlt => ?_, fun hge => ⟨_, law22_awake, fun _ _ _ h => h⟩⟩
    have hlt := of_decide_eq_true hlt
    obtain ⟨hi, hA, _, hc, ⟨A1, n1, c1, rfl, q1, q2, q3⟩⟩ := hv.at l37 (i := i) (by omega) hlt
    obtain ⟨hj, hA', _, hd, ⟨A2, n2, c2, rfl, p1, p2, p3⟩⟩ := hv.at l37 (i := i - 1) (by omega) (by omega)
    have hap := chainV_get _ hchain (i - 1).toNat (by omega)
    have eij : (i - 1).toNat + 1 = i.toNat := by omega
    simp only [eij] at hap
    refine ⟨hA, by omega, hlt, _, hc.at1 (k := 0) rfl, by simp only [rng]; omega, hA', by omega, by omega, _, hd.at1 (k := 1) rfl, fun hbad => ?_, fun _ => ⟨hA, by omega, hlt, _, hc.at1 (k := 0) rfl, by simp only [rng]; omega, hA', by omega, by omega, _, hd.at1 (k := 1) rfl, fun heq => ?_, fun _ => ⟨by simp only [rng]; omega, by omega, by dsimp only; omega⟩⟩⟩
    · have hbad := of_decide_eq_true hbad
      have := hap.1
      omega
    · have heq := of_decide_eq_true heq
      refine ⟨hA, by omega, hlt, _, _, _, hc.at1 (k := 2) rfl, by simp only [rng]; omega, hA', by omega, by omega, _, _, _, hd.at1 (k := 2) rfl, _, ref6_CompareInts q3 p3, ?_⟩
      rintro H56 l56 _ rfl
      refine ⟨fun hz => ?_, fun _ => ⟨by simp only [rng]; omega, by omega, by dsimp only; omega⟩⟩
      have hz := of_decide_eq_true hz
      exact absurd ⟨heq.symm, (cmpI_ord.lex.eq _ _ hz).symm⟩ hap.2
end Go.Vc
/- Rows: comparing, copying, sorting; the rows of a day. -/
namespace Go.Vc
open Go Go.Proofs Go.Shelf
def an84 : Ann where
  res := fun _ => none
  lend := fun | 26 => true | _ => false
  sch := fun _ => .done
  lt := fun | 2 => [.slot 11 false [.int .i64]] | _ => []
  tup := tups

theorem vc84 (P : Program) (H : Heap) (s1A : Option Addr) (s1N s1C : Nat) (s2A : Option Addr) (s2N s2C : Nat) (post : Int → Heap → Prop) :
  vcFn P tab an84 Try.f84 [.slice s1A s1N s1C, .slice s2A s2N s2C] 0 H ⟨false, [(false, [.int .i64])]⟩ post =
  (  ∃ (inv0 : Int → Heap → Prop), ∃ (m1 : Int → Nat), inv0 (0 : Int) H ∧ ∀ (H2 : Heap), Heap.le H H2 → ∀ (n4 : Int), inv0 n4 H2 → (decide (n4 < (↑s1N : Int)) = true → someA s1A ∧ (0 : Int) ≤ n4
  ∧ n4 < (↑s1N : Int) ∧ ∃ (n7 : Int), Cells H2 s1A (Int.toNat n4 * 1) [.int .i64 n7] ∧ (decide ((↑s2N : Int) ≤ n4) = true → post (1 : Int) H2) ∧ (decide ((↑s2N : Int) ≤ n4) = false → someA
  s2A ∧ (0 : Int) ≤ n4 ∧ n4 < (↑s2N : Int) ∧ ∃ (n10 : Int), Cells H2 s2A (Int.toNat n4 * 1) [.int .i64 n10] ∧ ∃ (post11 : Int → Heap → Prop), ConT P 51 [.int .i64 n7, .int .i64 n10] H2
  ⟨false, [(false, [.int .i64])]⟩ post11 ∧ ∀ (H12 : Heap), Heap.le H2 H12 → ∀ (n14 : Int), post11 n14 H12 → ((!decide (n14 = (0 : Int))) = true → post n14 H12) ∧ ((!decide (n14 = (0 : Int)))
  = false → rng .i64 (n4 + (1 : Int)) ∧ inv0 (n4 + (1 : Int)) H12 ∧ m1 (n4 + (1 : Int)) < m1 n4))) ∧ (decide (n4 < (↑s1N : Int)) = false → (decide ((↑s1N : Int) < (↑s2N : Int)) = true → post
  (-1 : Int) H2) ∧ (decide ((↑s1N : Int) < (↑s2N : Int)) = false → post (0 : Int) H2))) := by kernel_rfl
theorem Compare_Ints {H : Heap} {A B : Option Addr} {n c m d : Nat} {a b : List Int} (hs : Sl H A n c a) (ht : Sl H B m d b) :
    ConT Try.prog 84 [.slice A n c, .slice B m d] H shI (fun r _ => r = lexI cmpI a b) := by
  refine con_of_vc (an := an84) (fn := Try.f84) mix tabOK Try.func84 (by kernel_rfl) (extra := 0) ?_
  rw [vc84]
  refine ⟨fun i _ => 0 ≤ i ∧ i ≤ n ∧ lexI cmpI a b = lexI cmpI (a.drop i.toNat) (b.drop i.toNat), fun i => n - i.toNat, ⟨by omega, by omega, rfl⟩, ?_⟩
  rintro H2 hle i ⟨h0, h1, h2⟩
  have hb := hs.bn; have hl := hs.len; have hm := ht.len
  refine ⟨fun hlt => ?_, fun hge => ?_⟩
  · have hlt := of_decide_eq_true hlt
    obtain ⟨hi, hA, _, hc, ⟨rfl, q⟩⟩ := hs.at hle h0 hlt
    refine ⟨hA, h0, hlt, _, hc, fun hmb => ?_, fun hmb => ?_⟩
    · have hmb := of_decide_eq_true hmb
      rw [h2, lexI_endb hi (by omega)]
    · have hmb := of_decide_eq_false hmb
      obtain ⟨hj, hB, _, hd, ⟨rfl, q'⟩⟩ := ht.at hle h0 (by omega)
      refine ⟨hB, h0, by omega, _, hd, _, cmp_Compare, ?_⟩
      rintro H3 l3 _ rfl
      rw [lexI_step hi hj] at h2
      refine ⟨fun hne => ?_, fun he => ⟨by simp only [rng]; omega, ⟨by omega, by omega, ?_⟩, by dsimp only; omega⟩⟩
      · rw [h2, if_pos (by simpa using hne)]
      · rw [h2, if_neg (by simpa using he), show (i + 1).toNat = i.toNat + 1 by omega]
  · have hge := of_decide_eq_false hge
    rw [lexI_enda (by omega)] at h2
    refine ⟨fun h => ?_, fun h => ?_⟩
    · have := of_decide_eq_true h
      rw [h2, if_pos (by omega)]
    · have := of_decide_eq_false h
      rw [h2, if_neg (by omega)]
def cmpRw (a b : Rw) : Int := if cmpVs a.vals b.vals ≠ 0 then cmpVs a.vals b.vals else lexI cmpI a.lin b.lin
def cmpVL (a b : List Val × List Int) : Int := if cmpVs a.1 b.1 ≠ 0 then cmpVs a.1 b.1 else lexI cmpI a.2 b.2
theorem cmpVL_ord : Ord3 cmpVL := cmpVs_ord.pair cmpI_ord.lex
theorem cmpRw_swo : Sort.SWO (ltOf cmpRw) := swo_of cmpVL_ord fun r : Rw => (r.vals, r.lin)
def an67 : Ann where
  res := fun _ => none
  lend := fun | 9 => true | 14 => true | 16 => true | _ => false
  sch := fun | 1 => (tk [0, 1, 2, 3, 5, 6, 7, 8] (.alt 4 (.alt 9 (.alt 10 (.alt 11 (tk [12] .done) .fin) .fin) .fin) .fin)) | _ => .done
  lt := fun _ => []
  tup := tups

theorem vc67 (P : Program) (H : Heap) (aValsA : Option Addr) (aValsN aValsC : Nat) (aLineageA : Option Addr) (aLineageN aLineageC : Nat) (bValsA : Option Addr) (bValsN bValsC : Nat) (bLineageA : Option Addr) (bLineageN bLineageC : Nat) (post : Int → Heap → Prop) :
  vcFn P tab an67 Try.f67 [.agg #[.slice aValsA aValsN aValsC, .slice aLineageA aLineageN aLineageC], .agg #[.slice bValsA bValsN bValsC, .slice bLineageA bLineageN bLineageC]] 0 H ⟨false, [(false, [.int .i64])]⟩ post =
  (  ∃ (post0 : Int → Heap → Prop), ConT P 32 [.slice aValsA aValsN aValsC, .slice bValsA bValsN bValsC] H ⟨false, [(false, [.int .i64])]⟩ post0 ∧ ∀ (H1 : Heap), Heap.le H H1 → ∀ (n3 : Int),
  post0 n3 H1 → ∃ (post5 : Int → Heap → Prop), ConT P 84 [.slice aLineageA aLineageN aLineageC, .slice bLineageA bLineageN bLineageC] H1 ⟨false, [(false, [.int .i64])]⟩ post5 ∧ ∀ (H6 : Heap),
  Heap.le H1 H6 → ∀ (n8 : Int), post5 n8 H6 → ∃ (post10 : Int → Heap → Prop), (∀ (A11 : Option Addr) (c12 : Nat) (H13 : Heap), Heap.le H6 H13 → Cells H13 A11 0 [.int .i64 n3, .int .i64 n8] →
  2 ≤ c12 → ConT P 50 [.slice A11 2 c12] H13 ⟨false, [(false, [.int .i64])]⟩ post10) ∧ ∀ (H17 : Heap) (n18 : Int), post10 n18 H17 → post n18 H6) := by kernel_rfl
theorem bag_Compare {H : Heap} : CmpT Try.prog Rw H 67 cmpRw := by
  rintro H' vs us s t _ ⟨A, n, c, B, m, d, rfl, h1, h2⟩ ⟨A', n', c', B', m', d', rfl, h1', h2'⟩
  refine con_of_vc (an := an67) (fn := Try.f67) mix tabOK Try.func67 (by kernel_rfl) (extra := 0) ?_
  rw [vc67]
  refine ⟨_, value_CompareRows h1 h1', ?_⟩
  rintro H1 l1 _ rfl
  refine ⟨_, Compare_Ints (h2.mono l1) (h2'.mono l1), ?_⟩
  rintro H2 l2 _ rfl
  refine ⟨_, fun A c H3 l3 hc hn => cmp_Or (l := [cmpVs s.vals t.vals, lexI cmpI s.lin t.lin]) (Row.sl (T := Int) (ints_row ?_) (hle_refl H3) hc rfl hn (by decide) (by decide)), ?_⟩
  · have := cmpVs_ord.bd s.vals t.vals; have := cmpI_ord.lex.bd s.lin t.lin
    simp [*]
  · rintro H5 _ rfl
    simp only [orI, cmpRw]
    by_cases h : cmpVs s.vals t.vals = 0
    · by_cases k : lexI cmpI s.lin t.lin = 0 <;> simp [h, k]
    · simp [h]
def an81 : Ann where
  res := fun _ => none
  lend := fun _ => false
  sch := fun _ => .done
  lt := fun _ => []
  tup := tups

theorem vc81 (P : Program) (H : Heap) (sA : Option Addr) (sN sC : Nat) (post : Option Addr → Nat → Nat → Heap → Prop) :
  vcFn P tab an81 Try.f81 [.slice sA sN sC] 0 H ⟨false, [(false, [.sl])]⟩ post =
  (  (Option.isNone sA = true → post none 0 0 H) ∧ (Option.isNone sA = false → ∃ (ys2 : List Value), Cells H sA 0 ys2 ∧ List.length ys2 = sN * 3 ∧ (0 + sN) * 32 ≤ 140737488355328 ∧ ∀ (A3 :
  Option Addr) (c4 : Nat) (H5 : Heap), Heap.le H H5 → Cells H5 A3 0 ([] ++ ys2) → 0 + sN ≤ c4 → post A3 (0 + sN) c4 H5)) := by kernel_rfl
theorem Clone_Val {H : Heap} {A : Option Addr} {n c : Nat} {l : List Val} (hs : Sl H A n c l) :
    ConT Try.prog 81 [.slice A n c] H shS (fun A' n' c' H' => Sl H' A' n' c' l) := by
  refine con_of_vc (an := an81) (fn := Try.f81) mix tabOK Try.func81 (by kernel_rfl) (extra := 0) ?_
  rw [vc81]
  refine ⟨fun hA => ?_, fun hA => ?_⟩
  · have : n = 0 := by
      rcases Nat.eq_zero_or_pos n with h | h
      · exact h
      · obtain ⟨b, o, e⟩ := hs.someA h; simp [e] at hA
    subst this
    rw [List.eq_nil_of_length_eq_zero hs.len]; exact Sl.nil
  · obtain ⟨ys, h1, h2⟩ := hs.row
    refine ⟨ys, h1, by rw [h2.length, hs.len]; rfl, by have := hs.bnd; rw [Nat.zero_add]; exact this, fun A' c' H' hle hc hn => ?_⟩
    rw [Nat.zero_add] at hn ⊢
    exact h2.sl hle (by simpa using hc) hs.len hn hs.bnd hs.bn
def an82 : Ann where
  res := fun _ => none
  lend := fun _ => false
  sch := fun _ => .done
  lt := fun _ => []
  tup := tups

theorem vc82 (P : Program) (H : Heap) (sA : Option Addr) (sN sC : Nat) (post : Option Addr → Nat → Nat → Heap → Prop) :
  vcFn P tab an82 Try.f82 [.slice sA sN sC] 0 H ⟨false, [(false, [.sl])]⟩ post =
  (  (Option.isNone sA = true → post none 0 0 H) ∧ (Option.isNone sA = false → ∃ (ys2 : List Value), Cells H sA 0 ys2 ∧ List.length ys2 = sN * 1 ∧ (0 + sN) * 8 ≤ 140737488355328 ∧ ∀ (A3 : Option
  Addr) (c4 : Nat) (H5 : Heap), Heap.le H H5 → Cells H5 A3 0 ([] ++ ys2) → 0 + sN ≤ c4 → post A3 (0 + sN) c4 H5)) := by kernel_rfl
theorem Clone_Int {H : Heap} {A : Option Addr} {n c : Nat} {l : List Int} (hs : Sl H A n c l) :
    ConT Try.prog 82 [.slice A n c] H shS (fun A' n' c' H' => Sl H' A' n' c' l) := by
  refine con_of_vc (an := an82) (fn := Try.f82) mix tabOK Try.func82 (by kernel_rfl) (extra := 0) ?_
  rw [vc82]
  refine ⟨fun hA => ?_, fun hA => ?_⟩
  · have : n = 0 := by
      rcases Nat.eq_zero_or_pos n with h | h
      · exact h
      · obtain ⟨b, o, e⟩ := hs.someA h; simp [e] at hA
    subst this
    rw [List.eq_nil_of_length_eq_zero hs.len]; exact Sl.nil
  · obtain ⟨ys, h1, h2⟩ := hs.row
    refine ⟨ys, h1, by rw [h2.length, hs.len]; rfl, by have := hs.bnd; rw [Nat.zero_add]; exact this, fun A' c' H' hle hc hn => ?_⟩
    rw [Nat.zero_add] at hn ⊢
    exact h2.sl hle (by simpa using hc) hs.len hn hs.bnd hs.bn
def an65 : Ann where
  res := fun _ => none
  lend := fun _ => false
  sch := fun | 1 => (tk [0, 1, 3, 4] (.alt 2 (.alt 5 (tk [6] (.alt 7 .done .fin)) .fin) .fin)) | _ => .done
  lt := fun _ => []
  tup := tups

theorem vc65 (P : Program) (H : Heap) (rValsA : Option Addr) (rValsN rValsC : Nat) (rLineageA : Option Addr) (rLineageN rLineageC : Nat) (post : Option Addr → Nat → Nat → Option Addr → Nat → Nat → Heap → Prop) :
  vcFn P tab an65 Try.f65 [.agg #[.slice rValsA rValsN rValsC, .slice rLineageA rLineageN rLineageC]] 0 H ⟨false, [(true, [.sl, .sl])]⟩ post =
  (  ∃ (post0 : Option Addr → Nat → Nat → Heap → Prop), ConT P 81 [.slice rValsA rValsN rValsC] H ⟨false, [(false, [.sl])]⟩ post0 ∧ ∀ (H1 : Heap), Heap.le H H1 → ∀ (A3 : Option Addr) (n4 c5 :
  Nat), post0 A3 n4 c5 H1 → ∃ (post7 : Option Addr → Nat → Nat → Heap → Prop), ConT P 82 [.slice rLineageA rLineageN rLineageC] H1 ⟨false, [(false, [.sl])]⟩ post7 ∧ ∀ (H8 : Heap), Heap.le H1
  H8 → ∀ (A10 : Option Addr) (n11 c12 : Nat), post7 A10 n11 c12 H8 → post A3 n4 c5 A10 n11 c12 H8) := by kernel_rfl
theorem bag_Clone {H : Heap} {A B : Option Addr} {n c m d : Nat} {r : Rw} (h1 : Sl H A n c r.vals) (h2 : Sl H B m d r.lin) :
    ConT Try.prog 65 [.agg ⟨[.slice A n c, .slice B m d]⟩] H ⟨false, [(true, [.sl, .sl])]⟩ (fun A' n' c' B' m' d' H' => Rep.rel H' [.slice A' n' c', .slice B' m' d'] r) := by
  refine con_of_vc (an := an65) (fn := Try.f65) mix tabOK Try.func65 (by kernel_rfl) (extra := 0) ?_
  rw [vc65]
  refine ⟨_, Clone_Val h1, fun H1 l1 A1 n1 c1 q1 => ⟨_, Clone_Int (h2.mono l1), fun H2 l2 A2 n2 c2 q2 => ?_⟩⟩
  exact ⟨_, _, _, _, _, _, rfl, q1.mono l2, q2⟩
def sortLay_Rw_ren : Go.Shelf.Ren := ⟨fun | 6 => 66 | 15 => 80 | 14 => 83 | 28 => 99 | 29 => 100 | 20 => 101 | 21 => 102 | 22 => 103 | 23 => 104 | 24 => 105 | 25 => 106 | 26 => 107 | 27 => 108 | 46 => 118 | 47 => 114 | 48 => 115 | 49 => 119 | 50 => 120 | 57 => 123 | n => n, fun | 22 => 49 | 24 => 52 | 25 => 102 | 3 => 3 | 39 => 98 | 0 => 0 | 53 => 132 | 55 => 134 | 4 => 4 | 46 => 126 | 45 => 125 | 50 => 78 | 5 => 5 | 9 => 9 | 66 => 142 | 70 => 146 | 76 => 150 | 77 => 151 | n => n, fun n => n⟩
theorem sortLay_Rw : SlLaysF0.n6 Try.prog sortLay_Rw_ren where
  mixed := by kernel_rfl
  f6 := ⟨Try.f66.name, by kernel_rfl, Try.func66.trans (congrArg some (by kernel_rfl))⟩
  f14 := ⟨Try.f83.name, by kernel_rfl, Try.func83.trans (congrArg some (by kernel_rfl))⟩
  f15 := Try.func80.trans (congrArg some (by kernel_rfl))
  f20 := ⟨Try.f101.name, by kernel_rfl, Try.func101.trans (congrArg some (by kernel_rfl))⟩
  f21 := ⟨Try.f102.name, by kernel_rfl, Try.func102.trans (congrArg some (by kernel_rfl))⟩
  f22 := ⟨Try.f103.name, by kernel_rfl, Try.func103.trans (congrArg some (by kernel_rfl))⟩
  f23 := ⟨Try.f104.name, by kernel_rfl, Try.func104.trans (congrArg some (by kernel_rfl))⟩
  f24 := ⟨Try.f105.name, by kernel_rfl, Try.func105.trans (congrArg some (by kernel_rfl))⟩
  f25 := ⟨Try.f106.name, by kernel_rfl, Try.func106.trans (congrArg some (by kernel_rfl))⟩
  f26 := ⟨Try.f107.name, by kernel_rfl, Try.func107.trans (congrArg some (by kernel_rfl))⟩
  f27 := ⟨Try.f108.name, by kernel_rfl, Try.func108.trans (congrArg some (by kernel_rfl))⟩
  f28 := Try.func99.trans (congrArg some (by kernel_rfl))
  f29 := Try.func100.trans (congrArg some (by kernel_rfl))
  f46 := ⟨Try.f118.name, by kernel_rfl, Try.func118.trans (congrArg some (by kernel_rfl))⟩
  f47 := Try.func114.trans (congrArg some (by kernel_rfl))
  f48 := Try.func115.trans (congrArg some (by kernel_rfl))
  f49 := ⟨Try.f119.name, by kernel_rfl, Try.func119.trans (congrArg some (by kernel_rfl))⟩
  f50 := ⟨Try.f120.name, by kernel_rfl, Try.func120.trans (congrArg some (by kernel_rfl))⟩
  f57 := ⟨Try.f123.name, by kernel_rfl, Try.func123.trans (congrArg some (by kernel_rfl))⟩
  t0 := Try.underlying0
  a0 := Try.isAgg0
  z0 := Try.sizeOf0
  v0 := Try.zeroValue0
  t3 := Try.underlying3
  a3 := Try.isAgg3
  z3 := Try.sizeOf3
  v3 := Try.zeroValue3
  t4 := Try.underlying4
  a4 := Try.isAgg4
  z4 := Try.sizeOf4
  v4 := Try.zeroValue4
  t5 := Try.underlying5
  a5 := Try.isAgg5
  z5 := Try.sizeOf5
  v5 := Try.zeroValue5
  t9 := Try.underlying9
  a9 := Try.isAgg9
  z9 := Try.sizeOf9
  v9 := Try.zeroValue9
  t22 := Try.underlying49
  a22 := Try.isAgg49
  z22 := Try.sizeOf49
  v22 := Try.zeroValue49
  t25 := Try.underlying102
  a25 := Try.isAgg102
  z25 := Try.sizeOf102
  v25 := Try.zeroValue102
  t39 := Try.underlying98
  a39 := Try.isAgg98
  z39 := Try.sizeOf98
  v39 := Try.zeroValue98
  t45 := Try.underlying125
  a45 := Try.isAgg125
  z45 := Try.sizeOf125
  v45 := Try.zeroValue125
  t46 := Try.underlying126
  a46 := Try.isAgg126
  z46 := Try.sizeOf126
  v46 := Try.zeroValue126
  t50 := Try.underlying78
  a50 := Try.isAgg78
  z50 := Try.sizeOf78
  v50 := Try.zeroValue78
  t53 := Try.underlying132
  a53 := Try.isAgg132
  z53 := Try.sizeOf132
  v53 := Try.zeroValue132
  t55 := Try.underlying134
  a55 := Try.isAgg134
  z55 := Try.sizeOf134
  v55 := Try.zeroValue134
  t66 := Try.underlying142
  a66 := Try.isAgg142
  z66 := Try.sizeOf142
  v66 := Try.zeroValue142
  t70 := Try.underlying146
  a70 := Try.isAgg146
  z70 := Try.sizeOf146
  v70 := Try.zeroValue146
  t76 := Try.underlying150
  a76 := Try.isAgg150
  z76 := Try.sizeOf150
  v76 := Try.zeroValue150
  t77 := Try.underlying151
  a77 := Try.isAgg151
  z77 := Try.sizeOf151
  v77 := Try.zeroValue151
theorem sortL_Rw : SrtL Try.prog sortLay_Rw_ren 2 := ⟨sortLay_Rw, Try.isAgg52, Try.sizeOf52, by kernel_rfl⟩
set_option maxRecDepth 100000 in
theorem SortFunc_Rw {H : Heap} {n : Nat} {xs : List Value} {l : List Rw} (hr : Row H xs l) (hl : l.length = n) (hn : n ≤ 140737488355328) :
    ConM Try.prog 66 [.slice none 0 0, .func (.func 67) #[] #[]] 0 52 n xs true H ⟨true, []⟩ (fun ys (H' : Heap) => ∃ m : List Rw, Row H' ys m ∧ m.Perm l ∧ m.Pairwise (fun a b => ¬ cmpRw b a < 0)) := by
  have h := sort_con sortL_Rw hr hl hn (f := 67) (cap := []) (cf := cmpRw) ⟨_, Try.func67, rfl, by kernel_rfl⟩ cmpRw_swo (fun H' vs us s t h0 h1 h2 => bag_Compare (H := H) H' vs us s t h0 h1 h2)
  exact h
def an42 : Ann where
  res := fun _ => none
  lend := fun _ => false
  mt := fun | 66 => some true | _ => none
  sch := fun _ => .done
  lt := fun | 3 => [.slot 3 false [.row 21 52], .slot 8 false [.int .i64]] | _ => []
  tup := tups

theorem vc42 (P : Program) (H : Heap) (rowsA : Option Addr) (rowsN rowsC : Nat) (post : Option Addr → Nat → Nat → Heap → Prop) :
  vcFn P tab an42 Try.f42 [.slice rowsA rowsN rowsC] 1 H ⟨false, [(false, [.sl])]⟩ post =
  (  ∃ (inv0 : Nat → List Value → Int → Heap → Prop), ∃ (m1 : Nat → List Value → Int → Nat), inv0 0 [] (0 : Int) H ∧ ∀ (H2 : Heap), Heap.le H H2 → ∀ (n4 : Nat) (xs5 : List Value) (n6 : Int),
  inv0 n4 xs5 n6 H2 → (decide (n6 < (↑rowsN : Int)) = true → someA rowsA ∧ (0 : Int) ≤ n6 ∧ n6 < (↑rowsN : Int) ∧ ∃ (A9 : Option Addr), ∃ (n10 : Nat), ∃ (c11 : Nat), ∃ (A12 : Option Addr), ∃
  (n13 : Nat), ∃ (c14 : Nat), Cells H2 rowsA (Int.toNat n6 * 2) [.slice A9 n10 c11, .slice A12 n13 c14] ∧ ∃ (post15 : Option Addr → Nat → Nat → Option Addr → Nat → Nat → Heap → Prop), ConT P
  65 [.agg ⟨[.slice A9 n10 c11, .slice A12 n13 c14]⟩] H2 ⟨false, [(true, [.sl, .sl])]⟩ post15 ∧ ∀ (H16 : Heap), Heap.le H2 H16 → ∀ (A18 : Option Addr) (n19 c20 : Nat) (A21 : Option Addr) (n22
  c23 : Nat), post15 A18 n19 c20 A21 n22 c23 H16 → (n4 + 1) * 48 ≤ 140737488355328 ∧ rng .i64 (n6 + (1 : Int)) ∧ inv0 (n4 + 1) (xs5 ++ [.slice A18 n19 c20, .slice A21 n22 c23]) (n6 + (1 :
  Int)) H16 ∧ m1 (n4 + 1) (xs5 ++ [.slice A18 n19 c20, .slice A21 n22 c23]) (n6 + (1 : Int)) < m1 n4 xs5 n6) ∧ (decide (n6 < (↑rowsN : Int)) = false → ∃ (post26 : List Value → Heap → Prop),
  ConM P 66 [.slice none 0 0, .func (.func 67) ⟨[]⟩ ⟨[]⟩] 0 52 n4 xs5 true H2 ⟨true, []⟩ post26 ∧ ∀ (H27 : Heap), Heap.le H2 H27 → ∀ (ys29 : List Value), post26 ys29 H27 → ∀ (A31 : Option
  Addr) (c32 : Nat) (H33 : Heap), Heap.le H27 H33 → Cells H33 A31 0 ys29 → n4 ≤ c32 → post A31 n4 c32 H33)) := by kernel_rfl
theorem bag_Sort {H : Heap} {A : Option Addr} {n c : Nat} {l : List Rw} (hs : Sl H A n c l) :
    ConT Try.prog 42 [.slice A n c] H shS (fun A' n' c' H' => ∃ m : List Rw, Sl H' A' n' c' m ∧ m.Perm l ∧ m.Pairwise (fun a b => ¬ cmpRw b a < 0)) := by
  refine con_of_vc (an := an42) (fn := Try.f42) mix tabOK Try.func42 (by kernel_rfl) (extra := 1) ?_
  rw [vc42]
  have hl := hs.len
  have hbd : n * 48 ≤ 140737488355328 := hs.bnd
  refine ⟨fun k xs i H' => 0 ≤ i ∧ i ≤ n ∧ k = i.toNat ∧ Row H' xs (l.take i.toNat), fun _ _ i => n - i.toNat, ⟨by omega, by omega, rfl, rfl⟩, ?_⟩
  rintro H2 hle k xs i ⟨h0, h1, rfl, hr⟩
  have e1 : (i + 1).toNat = i.toNat + 1 := by omega
  refine ⟨fun hlt => ?_, fun hge => ?_⟩
  · have hlt := of_decide_eq_true hlt
    obtain ⟨hi, hA, _, hc, ⟨A9, n9, c9, B9, m9, d9, rfl, q1, q2⟩⟩ := hs.at hle h0 hlt
    refine ⟨hA, h0, hlt, _, _, _, _, _, _, hc, _, bag_Clone (r := l[i.toNat]) q1 q2, ?_⟩
    intro H3 l3 A18 n19 c20 A21 n22 c23 hrel
    refine ⟨by omega, by simp only [rng]; omega, ⟨by omega, by omega, by omega, ?_⟩, by dsimp only; omega⟩
    rw [e1, List.take_succ_eq_append_getElem hi]
    exact (hr.mono l3).append (Row.one hrel)
  · have hge := of_decide_eq_false hge
    rw [List.take_of_length_le (by omega)] at hr
    refine ⟨_, SortFunc_Rw hr (by omega) (by omega), ?_⟩
    rintro H3 l3 ys ⟨m, hm, hp, ho⟩ A4 c4 H4 l4 hc4 hn4
    exact ⟨m, hm.sl l4 hc4 (by rw [hp.length_eq]; omega) hn4 (by show i.toNat * 48 ≤ _; omega) (by omega), hp, ho⟩
def an41 : Ann where
  res := fun _ => none
  lend := fun | 6 => true | _ => false
  sch := fun _ => .done
  lt := fun _ => []
  tup := tups

theorem vc41 (P : Program) (H : Heap) (pFrom : Int) (pTo : Int) (t : Int) (post : Bool → Heap → Prop) :
  vcFn P tab an41 Try.f41 [.agg #[.int .i64 pFrom, .int .i64 pTo], .int .i64 t] 0 H ⟨false, [(false, [.bool])]⟩ post =
  (  ∃ (post0 : Bool → Heap → Prop), ConT P 37 [.agg ⟨[.int .i64 pFrom, .int .i64 pTo]⟩] H ⟨false, [(false, [.bool])]⟩ post0 ∧ ∀ (H1 : Heap), Heap.le H H1 → ∀ (b3 : Bool), post0 b3 H1 → (b3 =
  true → (decide (pFrom ≤ t) = true → post (decide (t < pTo)) H1) ∧ (decide (pFrom ≤ t) = false → post false H1)) ∧ (b3 = false → post false H1)) := by kernel_rfl
theorem period_Includes {a b t : Int} {H : Heap} : ConT Try.prog 41 [.agg ⟨[.int .i64 a, .int .i64 b]⟩, .int .i64 t] H shB (fun r _ => r = pIn ⟨a, b⟩ t) := by
  refine con_of_vc (an := an41) (fn := Try.f41) mix tabOK Try.func41 (by kernel_rfl) (extra := 0) ?_
  rw [vc41]
  refine ⟨_, period_Valid, ?_⟩
  rintro H1 l1 _ rfl
  refine ⟨fun h => ⟨fun h1 => ?_, fun h1 => ?_⟩, fun h => ?_⟩ <;> simp only [pIn, *] <;> simp
def rowT (t : Tup) : Rw := ⟨t.vals, t.lin⟩
def an40 : Ann where
  res := fun _ => none
  lend := fun _ => false
  sch := fun _ => .done
  lt := fun _ => []
  tup := tups

theorem vc40 (P : Program) (H : Heap) (tValsA : Option Addr) (tValsN tValsC : Nat) (tValidFrom : Int) (tValidTo : Int) (tLineageA : Option Addr) (tLineageN tLineageC : Nat) (post : Option Addr → Nat → Nat → Option Addr → Nat → Nat → Heap → Prop) :
  vcFn P tab an40 Try.f40 [.agg #[.slice tValsA tValsN tValsC, .int .i64 tValidFrom, .int .i64 tValidTo, .slice tLineageA tLineageN tLineageC]] 0 H ⟨false, [(true, [.sl, .sl])]⟩ post =
  (  post tValsA tValsN tValsC tLineageA tLineageN tLineageC H) := by kernel_rfl
theorem tuple_Row {H : Heap} {A B : Option Addr} {n c m d : Nat} {a b : Int} : ConT Try.prog 40 [.agg ⟨[.slice A n c, .int .i64 a, .int .i64 b, .slice B m d]⟩] H ⟨false, [(true, [.sl, .sl])]⟩ (fun A' n' c' B' m' d' _ => A' = A ∧ n' = n ∧ c' = c ∧ B' = B ∧ m' = m ∧ d' = d) := by
  refine con_of_vc (an := an40) (fn := Try.f40) mix tabOK Try.func40 (by kernel_rfl) (extra := 0) ?_
  rw [vc40]
  exact ⟨rfl, rfl, rfl, rfl, rfl, rfl⟩
def atT (l : List Tup) (t : Int) : List Rw := (l.filter fun x => pIn x.p t).map rowT
theorem atT_succ {l : List Tup} {t : Int} {i : Nat} (hi : i < l.length) : atT (l.take (i + 1)) t = atT (l.take i) t ++ (if pIn l[i].p t then [rowT l[i]] else []) := by
  rw [List.take_succ_eq_append_getElem hi]
  simp only [atT, List.filter_append, List.map_append, List.filter_cons, List.filter_nil]
  split <;> simp
theorem atT_len (l : List Tup) (t : Int) : (atT l t).length ≤ l.length := by
  simp only [atT, List.length_map]; exact List.length_filter_le _ _
def an22 : Ann where
  res := fun _ => none
  lend := fun | 17 => true | _ => false
  sch := fun _ => .done
  lt := fun | 3 => [.slot 5 false [.row 26 52], .slot 10 false [.int .i64]] | _ => []
  tup := tups

theorem vc22 (P : Program) (H : Heap) (tuplesA : Option Addr) (tuplesN tuplesC : Nat) (t : Int) (post : Option Addr → Nat → Nat → Heap → Prop) :
  vcFn P tab an22 Try.f22 [.slice tuplesA tuplesN tuplesC, .int .i64 t] 1 H ⟨false, [(false, [.sl])]⟩ post =
  (  ∃ (inv0 : Nat → List Value → Int → Heap → Prop), ∃ (m1 : Nat → List Value → Int → Nat), inv0 0 [] (0 : Int) H ∧ ∀ (H2 : Heap), Heap.le H H2 → ∀ (n4 : Nat) (xs5 : List Value) (n6 : Int),
  inv0 n4 xs5 n6 H2 → (decide (n6 < (↑tuplesN : Int)) = true → someA tuplesA ∧ (0 : Int) ≤ n6 ∧ n6 < (↑tuplesN : Int) ∧ ∃ (A9 : Option Addr), ∃ (n10 : Nat), ∃ (c11 : Nat), ∃ (n12 : Int), ∃
  (n13 : Int), ∃ (A14 : Option Addr), ∃ (n15 : Nat), ∃ (c16 : Nat), Cells H2 tuplesA (Int.toNat n6 * 4) [.slice A9 n10 c11, .int .i64 n12, .int .i64 n13, .slice A14 n15 c16] ∧ ∃ (post17 :
  Bool → Heap → Prop), ConT P 41 [.agg ⟨[.int .i64 n12, .int .i64 n13]⟩, .int .i64 t] H2 ⟨false, [(false, [.bool])]⟩ post17 ∧ ∀ (H18 : Heap), Heap.le H2 H18 → ∀ (b20 : Bool), post17 b20 H18 →
  (b20 = true → ∃ (post23 : Option Addr → Nat → Nat → Option Addr → Nat → Nat → Heap → Prop), ConT P 40 [.agg ⟨[.slice A9 n10 c11, .int .i64 n12, .int .i64 n13, .slice A14 n15 c16]⟩] H18
  ⟨false, [(true, [.sl, .sl])]⟩ post23 ∧ ∀ (H24 : Heap), Heap.le H18 H24 → ∀ (A26 : Option Addr) (n27 c28 : Nat) (A29 : Option Addr) (n30 c31 : Nat), post23 A26 n27 c28 A29 n30 c31 H24 → (n4
  + 1) * 48 ≤ 140737488355328 ∧ rng .i64 (n6 + (1 : Int)) ∧ inv0 (n4 + 1) (xs5 ++ [.slice A26 n27 c28, .slice A29 n30 c31]) (n6 + (1 : Int)) H24 ∧ m1 (n4 + 1) (xs5 ++ [.slice A26 n27 c28,
  .slice A29 n30 c31]) (n6 + (1 : Int)) < m1 n4 xs5 n6) ∧ (b20 = false → rng .i64 (n6 + (1 : Int)) ∧ inv0 n4 xs5 (n6 + (1 : Int)) H18 ∧ m1 n4 xs5 (n6 + (1 : Int)) < m1 n4 xs5 n6)) ∧ (decide
  (n6 < (↑tuplesN : Int)) = false → ∀ (A35 : Option Addr) (c36 : Nat) (H37 : Heap), Heap.le H2 H37 → Cells H37 A35 0 xs5 → n4 ≤ c36 → ∃ (post41 : Option Addr → Nat → Nat → Heap → Prop), ConT
  P 42 [.slice A35 n4 c36] H37 ⟨false, [(false, [.sl])]⟩ post41 ∧ ∀ (H42 : Heap), Heap.le H37 H42 → ∀ (A44 : Option Addr) (n45 c46 : Nat), post41 A44 n45 c46 H42 → post A44 n45 c46 H42)) := by kernel_rfl
theorem tuple_Timeslice {H : Heap} {A : Option Addr} {n c : Nat} {l : List Tup} {t : Int} (hs : Sl H A n c l) :
    ConT Try.prog 22 [.slice A n c, .int .i64 t] H shS (fun A' n' c' H' => ∃ m : List Rw, Sl H' A' n' c' m ∧ m.Perm (atT l t) ∧ m.Pairwise (fun a b => ¬ cmpRw b a < 0)) := by
  refine con_of_vc (an := an22) (fn := Try.f22) mix tabOK Try.func22 (by kernel_rfl) (extra := 1) ?_
  rw [vc22]
  have hl := hs.len
  have hbd : n * 64 ≤ 140737488355328 := hs.bnd
  refine ⟨fun k xs i H' => 0 ≤ i ∧ i ≤ n ∧ k = (atT (l.take i.toNat) t).length ∧ Row H' xs (atT (l.take i.toNat) t), fun _ _ i => n - i.toNat, ⟨by omega, by omega, rfl, rfl⟩, ?_⟩
  rintro H2 hle k xs i ⟨h0, h1, hk, hr⟩
  have hlen := atT_len (l.take i.toNat) t
  rw [List.length_take] at hlen
  have e1 : (i + 1).toNat = i.toNat + 1 := by omega
  refine ⟨fun hlt => ?_, fun hge => ?_⟩
  · have hlt := of_decide_eq_true hlt
    obtain ⟨hi, hA, _, hc, ⟨A9, n9, c9, A14, n15, c16, rfl, q1, q2, q3, q4⟩⟩ := hs.at hle h0 hlt
    have hsu := atT_succ (t := t) hi
    refine ⟨hA, h0, hlt, _, _, _, _, _, _, _, _, hc, _, period_Includes, ?_⟩
    rintro H3 l3 _ rfl
    refine ⟨fun hp => ⟨_, tuple_Row, ?_⟩, fun hp => ?_⟩
    · rintro H4 l4 _ _ _ _ _ _ ⟨rfl, rfl, rfl, rfl, rfl, rfl⟩
      have hp' : pIn l[i.toNat].p t = true := hp
      rw [if_pos hp'] at hsu
      have l34 := hle_trans l3 l4
      refine ⟨by omega, by simp only [rng]; omega, ⟨by omega, by omega, by rw [e1, hsu, List.length_append, ← hk]; rfl, ?_⟩, by dsimp only; omega⟩
      rw [e1, hsu]
      exact (hr.mono l34).append (Row.one ⟨_, _, _, _, _, _, rfl, q1.mono l34, q4.mono l34⟩)
    · have hp' : ¬ pIn l[i.toNat].p t = true := by
        have hp : pIn ⟨l[i.toNat].p.lo, l[i.toNat].p.hi⟩ t = false := hp
        intro h
        have h : pIn ⟨l[i.toNat].p.lo, l[i.toNat].p.hi⟩ t = true := h
        rw [hp] at h; cases h
      rw [if_neg hp', List.append_nil] at hsu
      exact ⟨by simp only [rng]; omega, ⟨by omega, by omega, by rw [e1, hsu]; exact hk, by rw [e1, hsu]; exact hr.mono l3⟩, by dsimp only; omega⟩
  · have hge := of_decide_eq_false hge
    rw [List.take_of_length_le (by omega)] at hk hr
    have hlen := atT_len l t
    intro A4 c4 H4 l4 hc4 hn4
    exact ⟨_, bag_Sort (hr.sl l4 hc4 hk.symm hn4 (by show k * 48 ≤ _; omega) (by omega)), fun H5 l5 A5 n5 c5 h => h⟩
end Go.Vc
/- The laws' column lists; the laws' tuples as a public slice. -/
namespace Go.Vc
open Go Go.Proofs Go.Shelf
def an19 : Ann where
  res := fun _ => none
  lend := fun _ => false
  sch := fun _ => .done
  lt := fun _ => []
  tup := tups

theorem vc19 (P : Program) (H : Heap) (x : Int) (post : Option Addr → Nat → Nat → Heap → Prop) :
  vcFn P tab an19 Try.f19 [.int .u16 x] 0 H ⟨false, [(false, [.sl])]⟩ post =
  (  ∀ (A0 : Option Addr) (c1 : Nat) (H2 : Heap), Heap.le H H2 → Cells H2 A0 0 [.int .i64 (0 : Int)] → 1 ≤ c1 → ∀ (A6 : Option Addr) (c7 : Nat) (H8 : Heap), Heap.le H2 H8 → Cells H8 A6 0 [.int
  .i64 (1 : Int)] → 1 ≤ c7 → ∀ (A12 : Option Addr) (c13 : Nat) (H14 : Heap), Heap.le H8 H14 → Cells H14 A12 0 [.int .i64 (0 : Int), .int .i64 (1 : Int)] → 2 ≤ c13 → ∀ (A18 : Option Addr) (c19
  : Nat) (H20 : Heap), Heap.le H14 H20 → Cells H20 A18 0 [.int .i64 (1 : Int), .int .i64 (0 : Int)] → 2 ≤ c19 → ∀ (A24 : Option Addr) (c25 : Nat) (H26 : Heap), Heap.le H20 H26 → Cells H26 A24
  0 [] → 0 ≤ c25 → ∀ (A30 : Option Addr) (c31 : Nat) (H32 : Heap), Heap.le H26 H32 → Cells H32 A30 0 [.int .i64 (0 : Int), .int .i64 (5 : Int)] → 2 ≤ c31 → (6 : Int) ≠ (0 : Int) ∧ (0 : Int) ≤
  Int.tmod x (6 : Int) ∧ Int.tmod x (6 : Int) < (↑6 : Int) ∧ ∃ (A36 : Option Addr), ∃ (n37 : Nat), ∃ (c38 : Nat), win [.slice A0 1 c1, .slice A6 1 c7, .slice A12 2 c13, .slice A18 2 c19,
  .slice A24 0 c25, .slice A30 2 c31] (Int.toNat (Int.tmod x (6 : Int)) * 1) 1 = [.slice A36 n37 c38] ∧ post A36 n37 c38 H32) := by kernel_rfl
theorem law22_columns {x : Int} {H : Heap} (hx : 0 ≤ x) : ConT Try.prog 19 [.int .u16 x] H shS (fun A n c H' => ∃ cols : List Int, Sl H' A n c cols ∧ n ≤ 2) := by
  refine con_of_vc (an := an19) (fn := Try.f19) mix tabOK Try.func19 (by kernel_rfl) (extra := 0) ?_
  rw [vc19]
  intro A0 c1 H2 l2 hc2 hn2 A6 c7 H8 l8 hc8 hn8 A12 c13 H14 l14 hc14 hn14 A18 c19 H20 l20 hc20 hn20 A24 c25 H26 l26 hc26 hn26 A30 c31 H32 l32 hc32 hn32
  have one : ∀ {H' : Heap} {A : Option Addr} {c : Nat} {u : Int}, rng .i64 u → Heap.le H' H32 → Cells H' A 0 [.int .i64 u] → 1 ≤ c → Sl H32 A 1 c [u] := fun {H' A c u} hu hle hc hn =>
    Row.sl (H := H32) (T := Int) (l := [u]) ⟨[_], [], rfl, ⟨rfl, hu⟩, rfl⟩ (hle_refl _) (hc.mono hle) rfl hn (by decide) (by decide)
  have two : ∀ {H' : Heap} {A : Option Addr} {c : Nat} {u v : Int}, rng .i64 u → rng .i64 v → Heap.le H' H32 → Cells H' A 0 [.int .i64 u, .int .i64 v] → 2 ≤ c → Sl H32 A 2 c [u, v] := fun {H' A c u v} hu hv hle hc hn =>
    Row.sl (H := H32) (T := Int) (l := [u, v]) ⟨[_], [_], rfl, ⟨rfl, hu⟩, [_], [], rfl, ⟨rfl, hv⟩, rfl⟩ (hle_refl _) (hc.mono hle) rfl hn (by decide) (by decide)
  have h6 := tmod_bd hx (m := 6) (by decide)
  have l26' := l32
  have l20' := hle_trans l26 l26'
  have l14' := hle_trans l20 l20'
  have l8' := hle_trans l14 l14'
  have l2' := hle_trans l8 l8'
  refine ⟨by decide, h6.1, h6.2, ?_⟩
  generalize Int.tmod x 6 = k at h6
  have hk : k = 0 ∨ k = 1 ∨ k = 2 ∨ k = 3 ∨ k = 4 ∨ k = 5 := by omega
  rcases hk with rfl | rfl | rfl | rfl | rfl | rfl
  · exact ⟨_, _, _, rfl, _, one (by decide) l2' hc2 hn2, by decide⟩
  · exact ⟨_, _, _, rfl, _, one (by decide) l8' hc8 hn8, by decide⟩
  · exact ⟨_, _, _, rfl, _, two (by decide) (by decide) l14' hc14 hn14, by decide⟩
  · exact ⟨_, _, _, rfl, _, two (by decide) (by decide) l20' hc20 hn20, by decide⟩
  · exact ⟨_, _, _, rfl, [], Sl.nil, by decide⟩
  · exact ⟨_, _, _, rfl, _, two (by decide) (by decide) (hle_refl _) hc32 hn32, by decide⟩
def an18 : Ann where
  res := fun _ => none
  lend := fun _ => false
  sch := fun _ => .done
  lt := fun | 3 => [.slot 5 false [.row 27 42], .slot 6 false [.int .i64]] | _ => []
  tup := tups

theorem vc18 (P : Program) (H : Heap) (lA : Option Addr) (lN lC : Nat) (most : Int) (post : Option Addr → Nat → Nat → Heap → Prop) :
  vcFn P tab an18 Try.f18 [.slice lA lN lC, .int .i64 most] 1 H ⟨false, [(false, [.sl])]⟩ post =
  (  ∃ (inv0 : Nat → List Value → Int → Heap → Prop), ∃ (m1 : Nat → List Value → Int → Nat), inv0 0 [] (0 : Int) H ∧ ∀ (H2 : Heap), Heap.le H H2 → ∀ (n4 : Nat) (xs5 : List Value) (n6 : Int),
  inv0 n4 xs5 n6 H2 → (decide (n6 < (↑lN : Int)) = true → (decide (n6 < most) = true → someA lA ∧ (0 : Int) ≤ n6 ∧ n6 < (↑lN : Int) ∧ ∃ (n10 : Int), ∃ (n11 : Int), ∃ (n12 : Int), ∃ (n13 :
  Int), ∃ (n14 : Int), Cells H2 lA (Int.toNat n6 * 5) [.int .u16 n10, .int .u16 n11, .int .u16 n12, .int .u16 n13, .int .u16 n14] ∧ ∃ (post15 : Option Addr → Nat → Nat → Int → Int → Option
  Addr → Nat → Nat → Heap → Prop), ConT P 34 [.agg ⟨[.int .u16 n10, .int .u16 n11, .int .u16 n12, .int .u16 n13, .int .u16 n14]⟩] H2 ⟨false, [(true, [.sl, .int .i64, .int .i64, .sl])]⟩ post15
  ∧ ∀ (H16 : Heap), Heap.le H2 H16 → ∀ (A18 : Option Addr) (n19 c20 : Nat) (n21 n22 : Int) (A23 : Option Addr) (n24 c25 : Nat), post15 A18 n19 c20 n21 n22 A23 n24 c25 H16 → (n4 + 1) * 64 ≤
  140737488355328 ∧ rng .i64 (n6 + (1 : Int)) ∧ inv0 (n4 + 1) (xs5 ++ [.slice A18 n19 c20, .int .i64 n21, .int .i64 n22, .slice A23 n24 c25]) (n6 + (1 : Int)) H16 ∧ m1 (n4 + 1) (xs5 ++
  [.slice A18 n19 c20, .int .i64 n21, .int .i64 n22, .slice A23 n24 c25]) (n6 + (1 : Int)) < m1 n4 xs5 n6) ∧ (decide (n6 < most) = false → ∀ (A28 : Option Addr) (c29 : Nat) (H30 : Heap),
  Heap.le H2 H30 → Cells H30 A28 0 xs5 → n4 ≤ c29 → post A28 n4 c29 H30)) ∧ (decide (n6 < (↑lN : Int)) = false → ∀ (A35 : Option Addr) (c36 : Nat) (H37 : Heap), Heap.le H2 H37 → Cells H37 A35
  0 xs5 → n4 ≤ c36 → post A35 n4 c36 H37)) := by kernel_rfl
theorem law0_Tuples {H : Heap} {A : Option Addr} {n c most : Nat} {l : List U5} (hs : Sl H A n c l) (hm : most < 1000) :
    ConT Try.prog 18 [.slice A n c, .int .i64 most] H shS (fun A' n' c' H' => Sl H' A' n' c' (lTups l most)) := by
  refine con_of_vc (an := an18) (fn := Try.f18) mix tabOK Try.func18 (by kernel_rfl) (extra := 1) ?_
  rw [vc18]
  have hl := hs.len
  refine ⟨fun k xs i H' => 0 ≤ i ∧ i ≤ n ∧ i ≤ most ∧ k = i.toNat ∧ Row H' xs ((l.take i.toNat).map lTup), fun _ _ i => n - i.toNat, ⟨by omega, by omega, by omega, rfl, rfl⟩, ?_⟩
  rintro H2 hle k xs i ⟨h0, h1, h1', rfl, hr⟩
  have fin : (n ≤ i.toNat ∨ most ≤ i.toNat) → ∀ (A9 : Option Addr) (c9 : Nat) (H9 : Heap), Heap.le H2 H9 → Cells H9 A9 0 xs → i.toNat ≤ c9 → Sl H9 A9 i.toNat c9 (lTups l most) := by
    intro h A9 c9 H9 l9 hc9 hn9
    have e : (l.take i.toNat) = l.take most := by
      rcases h with h | h
      · rw [List.take_of_length_le (by omega), List.take_of_length_le (by omega)]
      · congr 1; omega
    rw [e] at hr
    refine hr.sl l9 hc9 ?_ hn9 ?_ (by omega)
    · simp only [List.length_map, List.length_take]; omega
    · show i.toNat * 64 ≤ _
      omega
  refine ⟨fun hlt => ⟨fun hlm => ?_, fun hlm => ?_⟩, fun hge => ?_⟩
  · have hlt := of_decide_eq_true hlt; have hlm := of_decide_eq_true hlm
    obtain ⟨hi, hA, _, hc, ⟨rfl, q1, q2, q3, q4, q5⟩⟩ := hs.at hle h0 hlt
    refine ⟨hA, h0, hlt, _, _, _, _, _, hc, _, law0_Tuple q1.1 q2.1 q3.1 q4.1 q5.1, ?_⟩
    intro H3 l3 A18 n19 c20 n21 n22 A23 n24 c25 hrel
    have e1 : (i + 1).toNat = i.toNat + 1 := by omega
    refine ⟨by omega, by simp only [rng]; omega, ⟨by omega, by omega, by omega, by omega, ?_⟩, by dsimp only; omega⟩
    rw [e1, List.take_succ_eq_append_getElem hi, List.map_append]
    exact (hr.mono l3).append ⟨_, [], rfl, hrel, rfl⟩
  · have hlm := of_decide_eq_false hlm
    exact fin (.inr (by omega))
  · have hge := of_decide_eq_false hge
    exact fin (.inl (by omega))
theorem lTups_len (l : List U5) (most : Nat) : (lTups l most).length ≤ most := by simp only [lTups, List.length_map, List.length_take]; omega
theorem lTups_lins (l : List U5) (most : Nat) : (tlins (lTups l most)).length ≤ most := by
  have key : ∀ m : List U5, (tlins (m.map lTup)).length = m.length := by
    intro m
    induction m with
    | nil => rfl
    | cons x m ih => simp only [tlins, List.map_cons, List.flatMap_cons, List.length_append, List.length_cons] at *; rw [ih]; simp [lTup]; omega
  rw [lTups, key, List.length_take]; omega
theorem lTups_ok {l : List U5} {most : Nat} (hl : ∀ x ∈ l, 0 ≤ x.a ∧ 0 ≤ x.b) : ∀ t ∈ lTups l most, pOk t.p = true := by
  intro t ht
  obtain ⟨x, hx, rfl⟩ := List.mem_map.1 ht
  have hx := hl x (List.take_subset _ _ hx)
  have := lPer_ok hx.1 hx.2
  have hm : maxT = 1099511627776 := rfl
  rw [pOk_iff, hm]
  simp only [lTup]; omega
theorem nodup_take {T : Type} {l : List T} {i : Nat} (hi : i < l.length) : (l.take (i + 1)).Nodup ↔ (l.take i).Nodup ∧ l[i] ∉ l.take i := by
  rw [List.take_succ_eq_append_getElem hi, List.nodup_append]
  constructor
  · rintro ⟨h1, -, h3⟩
    exact ⟨h1, fun h => h3 _ h _ (by simp) rfl⟩
  · rintro ⟨h1, h2⟩
    exact ⟨h1, by simp, fun a ha b hb e => by simp at hb; subst hb; subst e; exact h2 ha⟩
theorem keys_at {l : List Tup} {cols : List Int} {g : List Kd} {m : List Rw} {d : Int} (hg : g.Perm (byKeyL l cols)) (hm : m.Perm (atT l d)) : ((g.filter (atD d)).map (fun x => x.key)).Perm (m.map fun r => keyVals r.vals cols) := by
  have h1 := ((hg.filter (atD d)).map (fun x => x.key))
  have h2 := hm.map (fun r => keyVals r.vals cols)
  refine h1.trans (List.Perm.trans (List.Perm.of_eq ?_) h2.symm)
  have : ∀ l : List Tup, ((byKeyL l cols).filter (atD d)).map (fun x => x.key) = (atT l d).map fun r => keyVals r.vals cols := by
    intro l
    induction l with
    | nil => rfl
    | cons t l ih =>
      simp only [byKeyL, atT, List.filter_cons] at ih ⊢
      by_cases hp : pOk t.p = true
      · by_cases hq : pIn t.p d = true
        · have : atD d ⟨keyVals t.vals cols, t⟩ = true := by
            have := pIn_iff.1 hq
            simp only [atD, Bool.and_eq_true, decide_eq_true_eq]; omega
          rw [if_pos hp, if_pos hq, List.map_cons, List.filter_cons, if_pos this, List.map_cons, List.map_cons, List.map_cons, ih]
          rfl
        · have : ¬ atD d ⟨keyVals t.vals cols, t⟩ = true := by
            rw [pIn_iff] at hq
            have := pOk_iff.1 hp
            simp only [atD, Bool.and_eq_true, decide_eq_true_eq]; omega
          rw [if_pos hp, if_neg hq, List.map_cons, List.filter_cons, if_neg this, ih]
      · have hq : ¬ pIn t.p d = true := by
          rw [pIn_iff, ← pOk_iff]
          exact fun h => hp h.1
        rw [if_neg hp, if_neg hq, ih]
  exact this l
end Go.Vc
/- The reference's rows: comparing, sorting. -/
namespace Go.Vc
open Go Go.Proofs Go.Shelf
theorem cmpRw_eq (a b : Rw) : cmpRw a b = cmpVL (a.vals, a.lin) (b.vals, b.lin) := rfl
theorem cmpRw_ord : Ord3 cmpRw :=
  ⟨fun a b => cmpVL_ord.sign (a.vals, a.lin) (b.vals, b.lin), fun a b => cmpVL_ord.anti (a.vals, a.lin) (b.vals, b.lin), fun a b h => by
    have := cmpVL_ord.eq _ _ (show cmpVL (a.vals, a.lin) (b.vals, b.lin) = 0 from h)
    obtain ⟨a1, a2⟩ := a; obtain ⟨b1, b2⟩ := b
    simpa using this, fun a b c => cmpVL_ord.trans (a.vals, a.lin) (b.vals, b.lin) (c.vals, c.lin)⟩
/- sorted lists -/
def leF {T : Type} (f : T → T → Int) (x y : T) : Prop := ¬ f y x < 0
section
variable {T : Type} {f : T → T → Int}
theorem leF_trans (hO : Ord3 f) {x y z : T} (h1 : leF f x y) (h2 : leF f y z) : leF f x z := by
  unfold leF at *
  intro h3
  have s1 := hO.sign y x; have s2 := hO.sign z y; have s3 := hO.sign z x
  have a1 := hO.anti y x; have a2 := hO.anti z y; have a3 := hO.anti z x
  have hzx : f z x = -1 := by omega
  rcases s1 with s1 | s1 | s1
  · omega
  · have := hO.eq _ _ s1; subst this; omega
  · rcases s2 with s2 | s2 | s2
    · omega
    · have := hO.eq _ _ s2; subst this; omega
    · have hxy : f x y = -1 := by omega
      have hyz : f y z = -1 := by omega
      have := hO.trans _ _ _ hxy hyz
      omega
theorem sorted_unique (hO : Ord3 f) {l m : List T} (hl : l.Pairwise (leF f)) (hm : m.Pairwise (leF f)) (hp : l.Perm m) : l = m := by
  refine List.Perm.eq_of_pairwise (le := leF f) (fun a b _ _ h h' => ?_) hl hm hp
  have s := hO.sign a b; have an := hO.anti a b
  unfold leF at h h'
  exact hO.eq _ _ (by omega)
/- merging two sorted lists -/
structure Mrg (f : T → T → Int) (a b out : List T) (i k : Nat) : Prop where
  perm : out.Perm (a.take i ++ b.take k)
  sorted : out.Pairwise (leF f)
  le : ∀ x ∈ out, ∀ y ∈ a.drop i ++ b.drop k, leF f x y
theorem Mrg.nil {a b : List T} : Mrg f a b [] 0 0 := ⟨by simp, by simp, fun x h => by cases h⟩
theorem Mrg.left (hO : Ord3 f) {a b out : List T} {i k : Nat} (h : Mrg f a b out i k) (ha : a.Pairwise (leF f)) (hi : i < a.length) (hb : ∀ y ∈ b.drop k, leF f a[i] y) : Mrg f a b (out ++ [a[i]]) (i + 1) k := by
  have hd : a.drop i = a[i] :: a.drop (i + 1) := List.drop_eq_getElem_cons hi
  refine ⟨?_, ?_, ?_⟩
  · rw [List.take_succ_eq_append_getElem hi, List.append_assoc]
    refine (List.Perm.append_right _ h.perm).trans ?_
    rw [List.append_assoc]
    exact List.Perm.append_left _ List.perm_append_comm
  · refine List.pairwise_append.2 ⟨h.sorted, by simp, fun x hx y hy => ?_⟩
    simp at hy; subst hy
    exact h.le x hx _ (List.mem_append_left _ (hd ▸ List.mem_cons_self))
  · intro x hx y hy
    rcases List.mem_append.1 hx with hx | hx
    · refine h.le x hx y ?_
      rcases List.mem_append.1 hy with hy | hy
      · exact List.mem_append_left _ (hd ▸ List.mem_cons_of_mem _ hy)
      · exact List.mem_append_right _ hy
    · simp at hx; subst hx
      rcases List.mem_append.1 hy with hy | hy
      · have := List.Pairwise.sublist (List.drop_sublist i a) ha
        rw [hd] at this
        exact (List.pairwise_cons.1 this).1 y hy
      · exact hb y hy
theorem Mrg.right (hO : Ord3 f) {a b out : List T} {i k : Nat} (h : Mrg f a b out i k) (hb : b.Pairwise (leF f)) (hk : k < b.length) (ha : ∀ y ∈ a.drop i, leF f b[k] y) : Mrg f a b (out ++ [b[k]]) i (k + 1) := by
  have hd : b.drop k = b[k] :: b.drop (k + 1) := List.drop_eq_getElem_cons hk
  refine ⟨?_, ?_, ?_⟩
  · rw [List.take_succ_eq_append_getElem hk, ← List.append_assoc]
    exact List.Perm.append_right _ h.perm
  · refine List.pairwise_append.2 ⟨h.sorted, by simp, fun x hx y hy => ?_⟩
    simp at hy; subst hy
    exact h.le x hx _ (List.mem_append_right _ (hd ▸ List.mem_cons_self))
  · intro x hx y hy
    rcases List.mem_append.1 hx with hx | hx
    · refine h.le x hx y ?_
      rcases List.mem_append.1 hy with hy | hy
      · exact List.mem_append_left _ hy
      · exact List.mem_append_right _ (hd ▸ List.mem_cons_of_mem _ hy)
    · simp at hx; subst hx
      rcases List.mem_append.1 hy with hy | hy
      · exact ha y hy
      · have := List.Pairwise.sublist (List.drop_sublist k b) hb
        rw [hd] at this
        exact (List.pairwise_cons.1 this).1 y hy
theorem head_le (hO : Ord3 f) {b : List T} {k : Nat} {x : T} (hb : b.Pairwise (leF f)) (hk : k < b.length) (h : leF f x b[k]) : ∀ y ∈ b.drop k, leF f x y := by
  intro y hy
  have hd : b.drop k = b[k] :: b.drop (k + 1) := List.drop_eq_getElem_cons hk
  rw [hd] at hy
  rcases List.mem_cons.1 hy with rfl | hy
  · exact h
  · have := List.Pairwise.sublist (List.drop_sublist k b) hb
    rw [hd] at this
    exact leF_trans hO h ((List.pairwise_cons.1 this).1 y hy)
end
def an109 : Ann where
  res := fun _ => none
  lend := fun | 10 => true | 21 => true | _ => false
  sch := fun _ => .done
  lt := fun _ => []
  tup := tups

theorem vc109 (P : Program) (H : Heap) (aValsA : Option Addr) (aValsN aValsC : Nat) (aLineageA : Option Addr) (aLineageN aLineageC : Nat) (bValsA : Option Addr) (bValsN bValsC : Nat) (bLineageA : Option Addr) (bLineageN bLineageC : Nat) (post : Bool → Heap → Prop) :
  vcFn P tab an109 Try.f109 [.agg #[.slice aValsA aValsN aValsC, .slice aLineageA aLineageN aLineageC], .agg #[.slice bValsA bValsN bValsC, .slice bLineageA bLineageN bLineageC]] 0 H ⟨false, [(false, [.bool])]⟩ post =
  (  ∃ (post0 : Int → Heap → Prop), ConT P 10 [.slice aValsA aValsN aValsC, .slice bValsA bValsN bValsC] H ⟨false, [(false, [.int .i64])]⟩ post0 ∧ ∀ (H1 : Heap), Heap.le H H1 → ∀ (n3 : Int),
  post0 n3 H1 → (decide (n3 < (0 : Int)) = true → post true H1) ∧ (decide (n3 < (0 : Int)) = false → (decide (n3 = (0 : Int)) = true → ∃ (post8 : Int → Heap → Prop), ConT P 20 [.slice
  aLineageA aLineageN aLineageC, .slice bLineageA bLineageN bLineageC] H1 ⟨false, [(false, [.int .i64])]⟩ post8 ∧ ∀ (H9 : Heap), Heap.le H1 H9 → ∀ (n11 : Int), post8 n11 H9 → post (decide
  (n11 < (0 : Int))) H9) ∧ (decide (n3 = (0 : Int)) = false → post false H1))) := by kernel_rfl
theorem ref6_Less {H : Heap} {A B A' B' : Option Addr} {n c m d n' c' m' d' : Nat} {s t : Rw} (h1 : Sl H A n c s.vals) (h2 : Sl H B m d s.lin) (h1' : Sl H A' n' c' t.vals) (h2' : Sl H B' m' d' t.lin) :
    ConT Try.prog 109 [.agg ⟨[.slice A n c, .slice B m d]⟩, .agg ⟨[.slice A' n' c', .slice B' m' d']⟩] H shB (fun r _ => r = decide (cmpRw s t < 0)) := by
  refine con_of_vc (an := an109) (fn := Try.f109) mix tabOK Try.func109 (by kernel_rfl) (extra := 0) ?_
  rw [vc109]
  refine ⟨_, ref6_CompareRows h1 h1', ?_⟩
  rintro H1 l1 _ rfl
  refine ⟨fun h => ?_, fun h => ⟨fun he => ⟨_, ref6_CompareInts (h2.mono l1) (h2'.mono l1), ?_⟩, fun he => ?_⟩⟩
  · have h := of_decide_eq_true h
    have : cmpRw s t < 0 := by unfold cmpRw; rw [if_pos (by omega)]; exact h
    simp [this]
  · have he := of_decide_eq_true he
    rintro H2 l2 _ rfl
    unfold cmpRw
    rw [if_neg (by omega)]
  · have h := of_decide_eq_false h; have he := of_decide_eq_false he
    have : ¬ cmpRw s t < 0 := by unfold cmpRw; rw [if_pos (by omega)]; exact h
    simp [this]
def an85 : Ann where
  res := fun _ => none
  lend := fun | 53 => true | _ => false
  sch := fun | 3 => (tk [0, 1, 2, 3, 4, 6, 7, 8, 9, 10] (.alt 5 (.alt 11 (tk [12, 13] .done) .fin) .fin)) | 7 => (tk [0, 1, 2, 3, 4, 5, 6, 7, 8, 9, 10, 11, 12, 13, 14, 15, 16, 17] (.alt 18 (tk [19, 20, 21] .done) .fin)) | _ => .done
  lt := fun | 6 => [.slot 5 false [.row 76 52], .slot 6 false [.int .i64], .slot 7 false [.int .i64]] | _ => []
  tup := tups

theorem vc85 (P : Program) (H : Heap) (rowsA : Option Addr) (rowsN rowsC : Nat) (post : Option Addr → Nat → Nat → Heap → Prop) :
  vcFn P tab an85 Try.f85 [.slice rowsA rowsN rowsC] 1 H ⟨false, [(false, [.sl])]⟩ post =
  (  (decide ((↑rowsN : Int) < (2 : Int)) = true → ∃ (ys1 : List Value), Cells H rowsA 0 ys1 ∧ List.length ys1 = rowsN * 2 ∧ rowsN * 48 ≤ 140737488355328 ∧ ∀ (A2 : Option Addr) (c3 : Nat) (H4 :
  Heap), Heap.le H H4 → Cells H4 A2 0 ys1 → rowsN ≤ c3 → post A2 rowsN c3 H4) ∧ (decide ((↑rowsN : Int) < (2 : Int)) = false → (2 : Int) ≠ (0 : Int) ∧ rng .i64 (Int.tdiv (↑rowsN : Int) (2 :
  Int)) ∧ (0 : Int) ≤ (0 : Int) ∧ (0 : Int) ≤ Int.tdiv (↑rowsN : Int) (2 : Int) ∧ Int.tdiv (↑rowsN : Int) (2 : Int) ≤ (↑rowsC : Int) ∧ ∀ (A9 : Option Addr), A9 = subA rowsA rowsC (Int.toNat
  (0 : Int)) 2 → (2 : Int) ≠ (0 : Int) ∧ rng .i64 (Int.tdiv (↑rowsN : Int) (2 : Int)) ∧ (0 : Int) ≤ Int.tdiv (↑rowsN : Int) (2 : Int) ∧ Int.tdiv (↑rowsN : Int) (2 : Int) ≤ (↑rowsN : Int) ∧
  (↑rowsN : Int) ≤ (↑rowsC : Int) ∧ ∀ (A11 : Option Addr), A11 = subA rowsA rowsC (Int.toNat (Int.tdiv (↑rowsN : Int) (2 : Int))) 2 → ∃ (post13 : Option Addr → Nat → Nat → Heap → Prop), ConT
  P 85 [.slice A9 (Int.toNat (Int.tdiv (↑rowsN : Int) (2 : Int)) - Int.toNat (0 : Int)) (rowsC - Int.toNat (0 : Int))] H ⟨false, [(false, [.sl])]⟩ post13 ∧ ∀ (H14 : Heap), Heap.le H H14 → ∀
  (A16 : Option Addr) (n17 c18 : Nat), post13 A16 n17 c18 H14 → ∃ (post20 : Option Addr → Nat → Nat → Heap → Prop), ConT P 85 [.slice A11 (Int.toNat (↑rowsN : Int) - Int.toNat (Int.tdiv
  (↑rowsN : Int) (2 : Int))) (rowsC - Int.toNat (Int.tdiv (↑rowsN : Int) (2 : Int)))] H14 ⟨false, [(false, [.sl])]⟩ post20 ∧ ∀ (H21 : Heap), Heap.le H14 H21 → ∀ (A23 : Option Addr) (n24 c25 :
  Nat), post20 A23 n24 c25 H21 → ∃ (inv27 : Nat → List Value → Int → Int → Heap → Prop), ∃ (m28 : Nat → List Value → Int → Int → Nat), inv27 0 [] (0 : Int) (0 : Int) H21 ∧ ∀ (H29 : Heap),
  Heap.le H21 H29 → ∀ (n31 : Nat) (xs32 : List Value) (n33 n34 : Int), inv27 n31 xs32 n33 n34 H29 → (decide (n33 < (↑n17 : Int)) = true → (decide (n34 = (↑n24 : Int)) = true → someA A16 ∧ (0
  : Int) ≤ n33 ∧ n33 < (↑n17 : Int) ∧ ∃ (A38 : Option Addr), ∃ (n39 : Nat), ∃ (c40 : Nat), ∃ (A41 : Option Addr), ∃ (n42 : Nat), ∃ (c43 : Nat), Cells H29 A16 (Int.toNat n33 * 2) [.slice A38
  n39 c40, .slice A41 n42 c43] ∧ (n31 + 1) * 48 ≤ 140737488355328 ∧ rng .i64 (n33 + (1 : Int)) ∧ inv27 (n31 + 1) (xs32 ++ [.slice A38 n39 c40, .slice A41 n42 c43]) (n33 + (1 : Int)) n34 H29 ∧
  m28 (n31 + 1) (xs32 ++ [.slice A38 n39 c40, .slice A41 n42 c43]) (n33 + (1 : Int)) n34 < m28 n31 xs32 n33 n34) ∧ (decide (n34 = (↑n24 : Int)) = false → (decide (n33 < (↑n17 : Int)) = true →
  someA A23 ∧ (0 : Int) ≤ n34 ∧ n34 < (↑n24 : Int) ∧ ∃ (A46 : Option Addr), ∃ (n47 : Nat), ∃ (c48 : Nat), ∃ (A49 : Option Addr), ∃ (n50 : Nat), ∃ (c51 : Nat), Cells H29 A23 (Int.toNat n34 *
  2) [.slice A46 n47 c48, .slice A49 n50 c51] ∧ someA A16 ∧ (0 : Int) ≤ n33 ∧ n33 < (↑n17 : Int) ∧ ∃ (A52 : Option Addr), ∃ (n53 : Nat), ∃ (c54 : Nat), ∃ (A55 : Option Addr), ∃ (n56 : Nat), ∃
  (c57 : Nat), Cells H29 A16 (Int.toNat n33 * 2) [.slice A52 n53 c54, .slice A55 n56 c57] ∧ ∃ (post58 : Bool → Heap → Prop), ConT P 109 [.agg ⟨[.slice A46 n47 c48, .slice A49 n50 c51]⟩, .agg
  ⟨[.slice A52 n53 c54, .slice A55 n56 c57]⟩] H29 ⟨false, [(false, [.bool])]⟩ post58 ∧ ∀ (H59 : Heap), Heap.le H29 H59 → ∀ (b61 : Bool), post58 b61 H59 → ((!b61) = true → someA A16 ∧ (0 :
  Int) ≤ n33 ∧ n33 < (↑n17 : Int) ∧ ∃ (A64 : Option Addr), ∃ (n65 : Nat), ∃ (c66 : Nat), ∃ (A67 : Option Addr), ∃ (n68 : Nat), ∃ (c69 : Nat), Cells H59 A16 (Int.toNat n33 * 2) [.slice A64 n65
  c66, .slice A67 n68 c69] ∧ (n31 + 1) * 48 ≤ 140737488355328 ∧ rng .i64 (n33 + (1 : Int)) ∧ inv27 (n31 + 1) (xs32 ++ [.slice A64 n65 c66, .slice A67 n68 c69]) (n33 + (1 : Int)) n34 H59 ∧ m28
  (n31 + 1) (xs32 ++ [.slice A64 n65 c66, .slice A67 n68 c69]) (n33 + (1 : Int)) n34 < m28 n31 xs32 n33 n34) ∧ ((!b61) = false → someA A23 ∧ (0 : Int) ≤ n34 ∧ n34 < (↑n24 : Int) ∧ ∃ (A71 :
  Option Addr), ∃ (n72 : Nat), ∃ (c73 : Nat), ∃ (A74 : Option Addr), ∃ (n75 : Nat), ∃ (c76 : Nat), Cells H59 A23 (Int.toNat n34 * 2) [.slice A71 n72 c73, .slice A74 n75 c76] ∧ (n31 + 1) * 48
  ≤ 140737488355328 ∧ rng .i64 (n34 + (1 : Int)) ∧ inv27 (n31 + 1) (xs32 ++ [.slice A71 n72 c73, .slice A74 n75 c76]) n33 (n34 + (1 : Int)) H59 ∧ m28 (n31 + 1) (xs32 ++ [.slice A71 n72 c73,
  .slice A74 n75 c76]) n33 (n34 + (1 : Int)) < m28 n31 xs32 n33 n34)) ∧ (decide (n33 < (↑n17 : Int)) = false → someA A23 ∧ (0 : Int) ≤ n34 ∧ n34 < (↑n24 : Int) ∧ ∃ (A78 : Option Addr), ∃ (n79
  : Nat), ∃ (c80 : Nat), ∃ (A81 : Option Addr), ∃ (n82 : Nat), ∃ (c83 : Nat), Cells H29 A23 (Int.toNat n34 * 2) [.slice A78 n79 c80, .slice A81 n82 c83] ∧ (n31 + 1) * 48 ≤ 140737488355328 ∧
  rng .i64 (n34 + (1 : Int)) ∧ inv27 (n31 + 1) (xs32 ++ [.slice A78 n79 c80, .slice A81 n82 c83]) n33 (n34 + (1 : Int)) H29 ∧ m28 (n31 + 1) (xs32 ++ [.slice A78 n79 c80, .slice A81 n82 c83])
  n33 (n34 + (1 : Int)) < m28 n31 xs32 n33 n34))) ∧ (decide (n33 < (↑n17 : Int)) = false → (decide (n34 < (↑n24 : Int)) = true → (decide (n34 = (↑n24 : Int)) = true → someA A16 ∧ (0 : Int) ≤
  n33 ∧ n33 < (↑n17 : Int) ∧ ∃ (A87 : Option Addr), ∃ (n88 : Nat), ∃ (c89 : Nat), ∃ (A90 : Option Addr), ∃ (n91 : Nat), ∃ (c92 : Nat), Cells H29 A16 (Int.toNat n33 * 2) [.slice A87 n88 c89,
  .slice A90 n91 c92] ∧ (n31 + 1) * 48 ≤ 140737488355328 ∧ rng .i64 (n33 + (1 : Int)) ∧ inv27 (n31 + 1) (xs32 ++ [.slice A87 n88 c89, .slice A90 n91 c92]) (n33 + (1 : Int)) n34 H29 ∧ m28 (n31
  + 1) (xs32 ++ [.slice A87 n88 c89, .slice A90 n91 c92]) (n33 + (1 : Int)) n34 < m28 n31 xs32 n33 n34) ∧ (decide (n34 = (↑n24 : Int)) = false → (decide (n33 < (↑n17 : Int)) = true → someA
  A23 ∧ (0 : Int) ≤ n34 ∧ n34 < (↑n24 : Int) ∧ ∃ (A95 : Option Addr), ∃ (n96 : Nat), ∃ (c97 : Nat), ∃ (A98 : Option Addr), ∃ (n99 : Nat), ∃ (c100 : Nat), Cells H29 A23 (Int.toNat n34 * 2)
  [.slice A95 n96 c97, .slice A98 n99 c100] ∧ someA A16 ∧ (0 : Int) ≤ n33 ∧ n33 < (↑n17 : Int) ∧ ∃ (A101 : Option Addr), ∃ (n102 : Nat), ∃ (c103 : Nat), ∃ (A104 : Option Addr), ∃ (n105 :
  Nat), ∃ (c106 : Nat), Cells H29 A16 (Int.toNat n33 * 2) [.slice A101 n102 c103, .slice A104 n105 c106] ∧ ∃ (post107 : Bool → Heap → Prop), ConT P 109 [.agg ⟨[.slice A95 n96 c97, .slice A98
  n99 c100]⟩, .agg ⟨[.slice A101 n102 c103, .slice A104 n105 c106]⟩] H29 ⟨false, [(false, [.bool])]⟩ post107 ∧ ∀ (H108 : Heap), Heap.le H29 H108 → ∀ (b110 : Bool), post107 b110 H108 →
  ((!b110) = true → someA A16 ∧ (0 : Int) ≤ n33 ∧ n33 < (↑n17 : Int) ∧ ∃ (A113 : Option Addr), ∃ (n114 : Nat), ∃ (c115 : Nat), ∃ (A116 : Option Addr), ∃ (n117 : Nat), ∃ (c118 : Nat), Cells
  H108 A16 (Int.toNat n33 * 2) [.slice A113 n114 c115, .slice A116 n117 c118] ∧ (n31 + 1) * 48 ≤ 140737488355328 ∧ rng .i64 (n33 + (1 : Int)) ∧ inv27 (n31 + 1) (xs32 ++ [.slice A113 n114
  c115, .slice A116 n117 c118]) (n33 + (1 : Int)) n34 H108 ∧ m28 (n31 + 1) (xs32 ++ [.slice A113 n114 c115, .slice A116 n117 c118]) (n33 + (1 : Int)) n34 < m28 n31 xs32 n33 n34) ∧ ((!b110) =
  false → someA A23 ∧ (0 : Int) ≤ n34 ∧ n34 < (↑n24 : Int) ∧ ∃ (A120 : Option Addr), ∃ (n121 : Nat), ∃ (c122 : Nat), ∃ (A123 : Option Addr), ∃ (n124 : Nat), ∃ (c125 : Nat), Cells H108 A23
  (Int.toNat n34 * 2) [.slice A120 n121 c122, .slice A123 n124 c125] ∧ (n31 + 1) * 48 ≤ 140737488355328 ∧ rng .i64 (n34 + (1 : Int)) ∧ inv27 (n31 + 1) (xs32 ++ [.slice A120 n121 c122, .slice
  A123 n124 c125]) n33 (n34 + (1 : Int)) H108 ∧ m28 (n31 + 1) (xs32 ++ [.slice A120 n121 c122, .slice A123 n124 c125]) n33 (n34 + (1 : Int)) < m28 n31 xs32 n33 n34)) ∧ (decide (n33 < (↑n17 :
  Int)) = false → someA A23 ∧ (0 : Int) ≤ n34 ∧ n34 < (↑n24 : Int) ∧ ∃ (A127 : Option Addr), ∃ (n128 : Nat), ∃ (c129 : Nat), ∃ (A130 : Option Addr), ∃ (n131 : Nat), ∃ (c132 : Nat), Cells H29
  A23 (Int.toNat n34 * 2) [.slice A127 n128 c129, .slice A130 n131 c132] ∧ (n31 + 1) * 48 ≤ 140737488355328 ∧ rng .i64 (n34 + (1 : Int)) ∧ inv27 (n31 + 1) (xs32 ++ [.slice A127 n128 c129,
  .slice A130 n131 c132]) n33 (n34 + (1 : Int)) H29 ∧ m28 (n31 + 1) (xs32 ++ [.slice A127 n128 c129, .slice A130 n131 c132]) n33 (n34 + (1 : Int)) < m28 n31 xs32 n33 n34))) ∧ (decide (n34 <
  (↑n24 : Int)) = false → ∀ (A134 : Option Addr) (c135 : Nat) (H136 : Heap), Heap.le H29 H136 → Cells H136 A134 0 xs32 → n31 ≤ c135 → post A134 n31 c135 H136)))) := by kernel_rfl
def SortOK (n : Nat) : Prop := ∀ {H : Heap} {A : Option Addr} {c : Nat} {l : List Rw}, Sl H A n c l →
    ConT Try.prog 85 [.slice A n c] H shS (fun A' n' c' H' => ∃ m : List Rw, Sl H' A' n' c' m ∧ m.Perm l ∧ m.Pairwise (leF cmpRw))
set_option maxHeartbeats 1000000 in
theorem ref6_Sort_step {n : Nat} (ih : ∀ k, k < n → SortOK k) : SortOK n := by
  intro H A c l hs
  refine con_of_vc (an := an85) (fn := Try.f85) mix tabOK Try.func85 (by kernel_rfl) (extra := 1) ?_
  rw [vc85]
  have hl := hs.len; have hcap := hs.cap; have hbn := hs.bn
  have hbd : n * 48 ≤ 140737488355328 := hs.bnd
  refine ⟨fun hlt => ?_, fun hge => ?_⟩
  · have hlt := of_decide_eq_true hlt
    obtain ⟨ys, y1, y2⟩ := hs.row
    refine ⟨ys, y1, by rw [y2.length, hl]; rfl, hs.bnd, fun A2 c2 H2 l2 hc hn' => ⟨l, y2.sl l2 hc hl hn' hs.bnd hs.bn, List.Perm.refl _, ?_⟩⟩
    match l, hl with
    | [], _ => exact List.Pairwise.nil
    | [x], _ => simp
    | x :: y :: r, h => simp at h; omega
  · have hge := of_decide_eq_false hge
    have hdiv : Int.tdiv (n : Int) 2 = ((n / 2 : Nat) : Int) := rfl
    rw [hdiv]
    have hh : 0 < n / 2 ∧ n / 2 < n := by omega
    generalize hhalf : n / 2 = h2 at hh
    refine ⟨by decide, by simp only [rng]; omega, by omega, by omega, by omega, ?_⟩
    rintro _ rfl
    refine ⟨by decide, by simp only [rng]; omega, by omega, by omega, by omega, ?_⟩
    rintro _ rfl
    simp only [Int.toNat_natCast, Int.toNat_zero, Nat.sub_zero]
    have hs1 := hs.sub (j := 0) (k := h2) (by omega) (by omega)
    have hs2 := hs.sub (j := h2) (k := n) (by omega) (by omega)
    rw [List.drop_zero] at hs1
    rw [List.take_of_length_le (by omega)] at hs2
    simp only [Nat.sub_zero] at hs1
    refine ⟨_, ih _ (by omega) hs1, ?_⟩
    rintro H14 l14 A16 n17 c18 ⟨a, ha, hap, has⟩
    refine ⟨_, ih _ (by omega) (hs2.mono l14), ?_⟩
    rintro H21 l21 A23 n24 c25 ⟨b, hb, hbp, hbs⟩
    have ha21 := ha.mono l21
    have hal := ha.len; have hbl := hb.len
    have hsum : a.length + b.length = n := by
      rw [hap.length_eq, hbp.length_eq, List.length_take, List.length_drop]; omega
    refine ⟨fun k xs i j H' => 0 ≤ i ∧ i ≤ n17 ∧ 0 ≤ j ∧ j ≤ n24 ∧ ∃ out : List Rw, Row H' xs out ∧ out.length = k ∧ (k : Int) = i + j ∧ Mrg cmpRw a b out i.toNat j.toNat, fun _ _ i j => (n17 - i.toNat) + (n24 - j.toNat),
      ⟨by omega, by omega, by omega, by omega, [], rfl, rfl, rfl, Mrg.nil⟩, ?_⟩
    rintro H29 l29 k xs i j ⟨i0, i1, j0, j1, out, hr, hrl, hk, hm⟩
    have left : ∀ {HX : Heap}, Heap.le H29 HX → i < n17 → (∀ (hi : i.toNat < a.length), ∀ y ∈ b.drop j.toNat, leF cmpRw a[i.toNat] y) →
        ∃ A38 n39 c40 A41 n42 c43, (someA A16 ∧ 0 ≤ i ∧ i < n17) ∧ Cells HX A16 (i.toNat * 2) [.slice A38 n39 c40, .slice A41 n42 c43] ∧ (k + 1) * 48 ≤ 140737488355328 ∧ rng .i64 (i + 1) ∧
          (0 ≤ i + 1 ∧ i + 1 ≤ n17 ∧ 0 ≤ j ∧ j ≤ n24 ∧ ∃ out : List Rw, Row HX (xs ++ [.slice A38 n39 c40, .slice A41 n42 c43]) out ∧ out.length = k + 1 ∧ ((k + 1 : Nat) : Int) = i + 1 + j ∧ Mrg cmpRw a b out (i + 1).toNat j.toNat) ∧
          (n17 - (i + 1).toNat) + (n24 - j.toNat) < (n17 - i.toNat) + (n24 - j.toNat) := by
      intro HX lX hi hle
      obtain ⟨hi', hA, _, hc, hrel⟩ := (ha21.mono l29).at lX i0 hi
      obtain ⟨A9, n9, c9, B9, m9, d9, rfl, q1, q2⟩ := id hrel
      refine ⟨_, _, _, _, _, _, ⟨hA, i0, hi⟩, hc, by omega, by simp only [rng]; omega, ⟨by omega, by omega, j0, j1, out ++ [a[i.toNat]], (hr.mono lX).append (Row.one hrel), by simp [hrl], by omega, ?_⟩, by omega⟩
      rw [show (i + 1).toNat = i.toNat + 1 by omega]
      exact hm.left cmpRw_ord has hi' (hle hi')
    have right : ∀ {HX : Heap}, Heap.le H29 HX → j < n24 → (∀ (hj : j.toNat < b.length), ∀ y ∈ a.drop i.toNat, leF cmpRw b[j.toNat] y) →
        ∃ A38 n39 c40 A41 n42 c43, (someA A23 ∧ 0 ≤ j ∧ j < n24) ∧ Cells HX A23 (j.toNat * 2) [.slice A38 n39 c40, .slice A41 n42 c43] ∧ (k + 1) * 48 ≤ 140737488355328 ∧ rng .i64 (j + 1) ∧
          (0 ≤ i ∧ i ≤ n17 ∧ 0 ≤ j + 1 ∧ j + 1 ≤ n24 ∧ ∃ out : List Rw, Row HX (xs ++ [.slice A38 n39 c40, .slice A41 n42 c43]) out ∧ out.length = k + 1 ∧ ((k + 1 : Nat) : Int) = i + (j + 1) ∧ Mrg cmpRw a b out i.toNat (j + 1).toNat) ∧
          (n17 - i.toNat) + (n24 - (j + 1).toNat) < (n17 - i.toNat) + (n24 - j.toNat) := by
      intro HX lX hj hle
      obtain ⟨hj', hA, _, hc, hrel⟩ := (hb.mono l29).at lX j0 hj
      obtain ⟨A9, n9, c9, B9, m9, d9, rfl, q1, q2⟩ := id hrel
      refine ⟨_, _, _, _, _, _, ⟨hA, j0, hj⟩, hc, by omega, by simp only [rng]; omega, ⟨i0, i1, by omega, by omega, out ++ [b[j.toNat]], (hr.mono lX).append (Row.one hrel), by simp [hrl], by omega, ?_⟩, by omega⟩
      rw [show (j + 1).toNat = j.toNat + 1 by omega]
      exact hm.right cmpRw_ord hbs hj' (hle hj')
    refine ⟨fun hi => ?_, fun hi => ⟨fun hj => ?_, fun hj => ?_⟩⟩
    · have hi := of_decide_eq_true hi
      refine ⟨fun hj => ?_, fun hj => ⟨fun _ => ?_, fun h => absurd (decide_eq_true hi) (by rw [h]; decide)⟩⟩
      · have hj := of_decide_eq_true hj
        obtain ⟨A1, n1, c1, A2, n2, c2, ⟨p1, p2, p3⟩, p4⟩ := left (hle_refl H29) hi (fun _ y hy => by rw [List.drop_eq_nil_of_le (by omega)] at hy; cases hy)
        exact ⟨p1, p2, p3, A1, n1, c1, A2, n2, c2, p4⟩
      · have hj := of_decide_eq_false hj
        have hj' : j < n24 := by omega
        obtain ⟨ei, hA, _, hc, ⟨A9, n9, c9, B9, m9, d9, rfl, q1, q2⟩⟩ := (ha21.mono l29).at (hle_refl H29) i0 hi
        obtain ⟨ej, hB, _, hd, ⟨A8, n8, c8, B8, m8, d8, rfl, q3, q4⟩⟩ := (hb.mono l29).at (hle_refl H29) j0 hj'
        refine ⟨hB, j0, hj', _, _, _, _, _, _, hd, hA, i0, hi, _, _, _, _, _, _, hc, _, ref6_Less q3 q4 q1 q2, ?_⟩
        rintro H59 l59 _ rfl
        refine ⟨fun hb => ?_, fun hb => ?_⟩
        · have hb : ¬ cmpRw b[j.toNat] a[i.toNat] < 0 := by simpa using hb
          obtain ⟨A1, n1, c1, A2, n2, c2, ⟨p1, p2, p3⟩, p4⟩ := left l59 hi (fun _ => head_le cmpRw_ord hbs ej hb)
          exact ⟨p1, p2, p3, A1, n1, c1, A2, n2, c2, p4⟩
        · have hb : cmpRw b[j.toNat] a[i.toNat] < 0 := by simpa using hb
          obtain ⟨A1, n1, c1, A2, n2, c2, ⟨p1, p2, p3⟩, p4⟩ := right l59 hj' (fun _ => head_le cmpRw_ord has ei (by have := cmpRw_ord.anti b[j.toNat] a[i.toNat]; unfold leF; omega))
          exact ⟨p1, p2, p3, A1, n1, c1, A2, n2, c2, p4⟩
    · have hi := of_decide_eq_false hi; have hj := of_decide_eq_true hj
      refine ⟨fun h => by have := of_decide_eq_true h; omega, fun hj' => ⟨fun h => by have := of_decide_eq_true h; omega, fun _ => ?_⟩⟩
      obtain ⟨A1, n1, c1, A2, n2, c2, ⟨p1, p2, p3⟩, p4⟩ := right (hle_refl H29) hj (fun _ y hy => by rw [List.drop_eq_nil_of_le (by omega)] at hy; cases hy)
      exact ⟨p1, p2, p3, A1, n1, c1, A2, n2, c2, p4⟩
    · have hi := of_decide_eq_false hi; have hj := of_decide_eq_false hj
      intro A4 c4 H4 l4 hc4 hn4
      have hp := hm.perm
      rw [List.take_of_length_le (by omega), List.take_of_length_le (by omega)] at hp
      refine ⟨out, hr.sl l4 hc4 hrl hn4 (by show k * 48 ≤ _; omega) (by omega), hp.trans ?_, hm.sorted⟩
      refine (List.Perm.append hap hbp).trans (List.Perm.of_eq ?_)
      exact List.take_append_drop _ _
theorem ref6_Sort {H : Heap} {A : Option Addr} {n c : Nat} {l : List Rw} (hs : Sl H A n c l) :
    ConT Try.prog 85 [.slice A n c] H shS (fun A' n' c' H' => ∃ m : List Rw, Sl H' A' n' c' m ∧ m.Perm l ∧ m.Pairwise (leF cmpRw)) :=
  (Nat.strongRecOn (motive := SortOK) n fun _ ih => ref6_Sort_step ih) hs
end Go.Vc
