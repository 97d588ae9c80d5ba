/- Tuples by key, their boundaries, merged lineages. -/
import Derived.Test.YtkfbbnagniolcaaB2
import Derived.Test.YtkfbbnagniolcaaVcG
set_option linter.unusedSectionVars false
set_option linter.unusedSimpArgs false
set_option linter.unusedVariables false
namespace Go.Vc
open Go Go.Proofs Go.Shelf
def byKeyL (l : List Tup) (cols : List Int) : List Kd := (l.filter fun t => pOk t.p).map fun t => ⟨keyVals t.vals cols, t⟩
theorem byKeyL_succ {l : List Tup} {cols : List Int} {i : Nat} (hi : i < l.length) : byKeyL (l.take (i + 1)) cols = byKeyL (l.take i) cols ++ (if pOk l[i].p then [⟨keyVals l[i].vals cols, l[i]⟩] else []) := by
  rw [List.take_succ_eq_append_getElem hi]
  simp only [byKeyL, List.filter_append, List.map_append, List.filter_cons, List.filter_nil]
  split <;> simp
theorem byKeyL_len (l : List Tup) (cols : List Int) : (byKeyL l cols).length ≤ l.length := by
  simp only [byKeyL, List.length_map]; exact List.length_filter_le _ _
def an31 : Ann where
  res := fun _ => none
  lend := fun | 16 => true | _ => false
  mt := fun | 48 => some true | _ => none
  sch := fun | 6 => (tk [0, 1, 2, 3, 5] (.alt 4 (tk [6] (.alt 7 (.alt 8 (tk [9] .done) .fin) .fin)) .fin)) | _ => .done
  lt := fun | 3 => [.slot 5 false [.row 30 68], .slot 10 false [.int .i64]] | _ => []
  tup := tups

theorem vc31 (P : Program) (H : Heap) (lA : Option Addr) (lN lC : Nat) (colsA : Option Addr) (colsN colsC : Nat) (post : Option Addr → Nat → Nat → Heap → Prop) :
  vcFn P tab an31 Try.f31 [.slice lA lN lC, .slice colsA colsN colsC] 1 H ⟨false, [(false, [.sl])]⟩ post =
  (  ∃ (inv0 : Nat → List Value → Int → Heap → Prop), ∃ (m1 : Nat → List Value → Int → Nat), inv0 0 [] (0 : Int) H ∧ ∀ (H2 : Heap), Heap.le H H2 → ∀ (n4 : Nat) (xs5 : List Value) (n6 : Int),
  inv0 n4 xs5 n6 H2 → (decide (n6 < (↑lN : Int)) = true → someA lA ∧ (0 : Int) ≤ n6 ∧ n6 < (↑lN : Int) ∧ ∃ (A9 : Option Addr), ∃ (n10 : Nat), ∃ (c11 : Nat), ∃ (n12 : Int), ∃ (n13 : Int), ∃
  (A14 : Option Addr), ∃ (n15 : Nat), ∃ (c16 : Nat), Cells H2 lA (Int.toNat n6 * 4) [.slice A9 n10 c11, .int .i64 n12, .int .i64 n13, .slice A14 n15 c16] ∧ ∃ (post17 : Bool → Heap → Prop),
  ConT P 37 [.agg ⟨[.int .i64 n12, .int .i64 n13]⟩] H2 ⟨false, [(false, [.bool])]⟩ post17 ∧ ∀ (H18 : Heap), Heap.le H2 H18 → ∀ (b20 : Bool), post17 b20 H18 → (b20 = true → ∃ (post23 : Option
  Addr → Nat → Nat → Heap → Prop), ConT P 11 [.slice A9 n10 c11, .slice colsA colsN colsC] H18 ⟨false, [(false, [.sl])]⟩ post23 ∧ ∀ (H24 : Heap), Heap.le H18 H24 → ∀ (A26 : Option Addr) (n27
  c28 : Nat), post23 A26 n27 c28 H24 → (n4 + 1) * 88 ≤ 140737488355328 ∧ rng .i64 (n6 + (1 : Int)) ∧ inv0 (n4 + 1) (xs5 ++ [.slice A26 n27 c28, .slice A9 n10 c11, .int .i64 n12, .int .i64
  n13, .slice A14 n15 c16]) (n6 + (1 : Int)) H24 ∧ m1 (n4 + 1) (xs5 ++ [.slice A26 n27 c28, .slice A9 n10 c11, .int .i64 n12, .int .i64 n13, .slice A14 n15 c16]) (n6 + (1 : Int)) < m1 n4 xs5
  n6) ∧ (b20 = false → rng .i64 (n6 + (1 : Int)) ∧ inv0 n4 xs5 (n6 + (1 : Int)) H18 ∧ m1 n4 xs5 (n6 + (1 : Int)) < m1 n4 xs5 n6)) ∧ (decide (n6 < (↑lN : Int)) = false → ∃ (post32 : List Value
  → Heap → Prop), ConM P 48 [.slice none 0 0, .func (.func 49) ⟨[]⟩ ⟨[]⟩] 0 68 n4 xs5 true H2 ⟨true, []⟩ post32 ∧ ∀ (H33 : Heap), Heap.le H2 H33 → ∀ (ys35 : List Value), post32 ys35 H33 → ∀
  (A37 : Option Addr) (c38 : Nat) (H39 : Heap), Heap.le H33 H39 → Cells H39 A37 0 ys35 → n4 ≤ c38 → post A37 n4 c38 H39)) := by kernel_rfl
theorem keys_byKey {H : Heap} {A B : Option Addr} {n c m d : Nat} {l : List Tup} {cols : List Int} (hs : Sl H A n c l) (ht : Sl H B m d cols) (hb : m * 32 ≤ 140737488355328) (hn : n < 20) :
    ConT Try.prog 31 [.slice A n c, .slice B m d] H shS (fun A' n' c' H' => ∃ g : List Kd, Sl H' A' n' c' g ∧ g.Perm (byKeyL l cols) ∧ g.Pairwise (fun a b => ¬ cmpKd b a < 0)) := by
  refine con_of_vc (an := an31) (fn := Try.f31) mix tabOK Try.func31 (by kernel_rfl) (extra := 1) ?_
  rw [vc31]
  have hl := hs.len
  refine ⟨fun k xs i H' => 0 ≤ i ∧ i ≤ n ∧ k = (byKeyL (l.take i.toNat) cols).length ∧ Row H' xs (byKeyL (l.take i.toNat) cols), fun _ _ i => n - i.toNat, ⟨by omega, by omega, rfl, rfl⟩, ?_⟩
  rintro H2 hle k xs i ⟨h0, h1, hk, hr⟩
  have hlen := byKeyL_len (l.take i.toNat) cols
  rw [List.length_take] at hlen
  have e1 : (i + 1).toNat = i.toNat + 1 := by omega
  refine ⟨fun hlt => ?_, fun hge => ?_⟩
  · have hlt := of_decide_eq_true hlt
    obtain ⟨hi, hA, _, hc, ⟨A9, n9, c9, A14, n15, c16, rfl, q1, q2, q3, q4⟩⟩ := hs.at hle h0 hlt
    refine ⟨hA, h0, hlt, _, _, _, _, _, _, _, _, hc, _, period_Valid, ?_⟩
    rintro H3 l3 _ rfl
    have hsu := byKeyL_succ (cols := cols) hi
    refine ⟨fun hp => ?_, fun hp => ?_⟩
    · refine ⟨_, keys_Values (q1.mono l3) (ht.mono (hle_trans hle l3)) hb, ?_⟩
      intro H4 l4 A4 n4 c4 h4
      have hp' : pOk l[i.toNat].p = true := hp
      rw [if_pos hp'] at hsu
      refine ⟨by omega, by simp only [rng]; omega, ⟨by omega, by omega, by rw [e1, hsu, List.length_append, ← hk]; rfl, ?_⟩, by dsimp only; omega⟩
      rw [e1, hsu]
      refine (hr.mono (hle_trans l3 l4)).append ⟨_, [], by simp, ⟨_, _, _, _, _, _, _, _, _, rfl, h4, q1.mono (hle_trans l3 l4), q2, q3, q4.mono (hle_trans l3 l4)⟩, rfl⟩
    · have hp' : ¬ pOk l[i.toNat].p = true := by
        have hp : pOk ⟨l[i.toNat].p.lo, l[i.toNat].p.hi⟩ = false := hp
        intro h
        have h : pOk ⟨l[i.toNat].p.lo, l[i.toNat].p.hi⟩ = true := h
        rw [hp] at h; cases h
      rw [if_neg hp', List.append_nil] at hsu
      exact ⟨by simp only [rng]; omega, ⟨by omega, by omega, by rw [e1, hsu]; exact hk, by rw [e1, hsu]; exact hr.mono l3⟩, by dsimp only; omega⟩
  · have hge := of_decide_eq_false hge
    rw [List.take_of_length_le (by omega)] at hk hr
    have hlen := byKeyL_len l cols
    refine ⟨_, SortStable_Kd hr hk.symm (by omega) ⟨_, Try.func49, rfl, by kernel_rfl⟩ cmpKd_swo (fun H' vs us s t h1 h2 h3 => keys_byKey1 (H := H) H' vs us s t (hle_trans hle h1) h2 h3), ?_⟩
    rintro H3 l3 ys ⟨g, g1, g2, g3⟩ A4 c4 H4 l4 hc4 hn4
    exact ⟨g, g1.sl l4 hc4 (by rw [g2.length_eq, hk]) hn4 (by show k * 88 ≤ _; omega) (by omega), g2, g3⟩
def sortI (l : List Int) : List Int := l.mergeSort fun x y => decide (x ≤ y)
def ends (l : List Kd) : List Int := l.flatMap fun k => [k.t.p.lo, k.t.p.hi]
def points (l : List Kd) : List Int := Lib.compact (sortI (ends l))
theorem ends_succ {l : List Kd} {i : Nat} (hi : i < l.length) : ends (l.take (i + 1)) = ends (l.take i) ++ [l[i].t.p.lo, l[i].t.p.hi] := by
  rw [List.take_succ_eq_append_getElem hi, ends, List.flatMap_append]; simp [ends]
theorem ends_len : ∀ l : List Kd, (ends l).length = 2 * l.length
  | [] => rfl
  | k :: l => by
    have := ends_len l
    simp only [ends, List.flatMap_cons, List.length_append, List.length_cons, List.length_nil] at *
    omega
theorem compact_len (l : List Int) : (Lib.compact l).length ≤ l.length := (compact_sub l).length_le
theorem sortI_len (l : List Int) : (sortI l).length = l.length := by simp [sortI]
def an54 : Ann where
  res := fun | 27 => some ⟨false, [(false, [.row 28 3])]⟩ | _ => none
  lend := fun _ => false
  mt := fun | 61 => some true | 74 => some false | _ => none
  sch := fun _ => .done
  lt := fun | 3 => [.slot 3 false [.row 29 3], .slot 8 false [.int .i64]] | _ => []
  tup := tups

theorem vc54 (P : Program) (H : Heap) (lA : Option Addr) (lN lC : Nat) (post : Option Addr → Nat → Nat → Heap → Prop) :
  vcFn P tab an54 Try.f54 [.slice lA lN lC] 2 H ⟨false, [(false, [.sl])]⟩ post =
  (  ∃ (inv0 : Nat → List Value → Int → Heap → Prop), ∃ (m1 : Nat → List Value → Int → Nat), inv0 0 [] (0 : Int) H ∧ ∀ (H2 : Heap), Heap.le H H2 → ∀ (n4 : Nat) (xs5 : List Value) (n6 : Int),
  inv0 n4 xs5 n6 H2 → (decide (n6 < (↑lN : Int)) = true → someA lA ∧ (0 : Int) ≤ n6 ∧ n6 < (↑lN : Int) ∧ ∃ (A9 : Option Addr), ∃ (n10 : Nat), ∃ (c11 : Nat), ∃ (A12 : Option Addr), ∃ (n13 :
  Nat), ∃ (c14 : Nat), ∃ (n15 : Int), ∃ (n16 : Int), ∃ (A17 : Option Addr), ∃ (n18 : Nat), ∃ (c19 : Nat), Cells H2 lA (Int.toNat n6 * 5) [.slice A9 n10 c11, .slice A12 n13 c14, .int .i64 n15,
  .int .i64 n16, .slice A17 n18 c19] ∧ (n4 + 2) * 8 ≤ 140737488355328 ∧ rng .i64 (n6 + (1 : Int)) ∧ inv0 (n4 + 2) (xs5 ++ [.int .i64 n15, .int .i64 n16]) (n6 + (1 : Int)) H2 ∧ m1 (n4 + 2)
  (xs5 ++ [.int .i64 n15, .int .i64 n16]) (n6 + (1 : Int)) < m1 n4 xs5 n6) ∧ (decide (n6 < (↑lN : Int)) = false → ∃ (post21 : List Value → Heap → Prop), ConM P 61 [.slice none 0 0] 0 3 n4 xs5
  true H2 ⟨true, []⟩ post21 ∧ ∀ (H22 : Heap), Heap.le H2 H22 → ∀ (ys24 : List Value), post21 ys24 H22 → ∃ (post26 : List Value → Nat → List Value → Heap → Prop), ConM P 74 [.slice none 0 0] 0
  3 n4 ys24 false H22 ⟨false, [(false, [.row 28 3])]⟩ post26 ∧ ∀ (H27 : Heap), Heap.le H22 H27 → ∀ (ys29 : List Value) (n30 : Nat) (xs31 : List Value), post26 ys29 n30 xs31 H27 → ∀ (A33 :
  Option Addr) (c34 : Nat) (H35 : Heap), Heap.le H27 H35 → Cells H35 A33 0 xs31 → n30 ≤ c34 → post A33 n30 c34 H35)) := by kernel_rfl
theorem keys_boundaries {H : Heap} {A : Option Addr} {n c : Nat} {l : List Kd} (hs : Sl H A n c l) : ConT Try.prog 54 [.slice A n c] H shS (fun A' n' c' H' => Sl H' A' n' c' (points l)) := by
  refine con_of_vc (an := an54) (fn := Try.f54) mix tabOK Try.func54 (by kernel_rfl) (extra := 2) ?_
  rw [vc54]
  have hl := hs.len
  have hbd : n * 88 ≤ 140737488355328 := hs.bnd
  refine ⟨fun k xs i H' => 0 ≤ i ∧ i ≤ n ∧ k = (ends (l.take i.toNat)).length ∧ Row H' xs (ends (l.take i.toNat)), fun _ _ i => n - i.toNat, ⟨by omega, by omega, rfl, rfl⟩, ?_⟩
  rintro H2 hle k xs i ⟨h0, h1, hk, hr⟩
  have hlen := ends_len (l.take i.toNat)
  rw [List.length_take] at hlen
  have e1 : (i + 1).toNat = i.toNat + 1 := by omega
  refine ⟨fun hlt => ?_, fun hge => ?_⟩
  · have hlt := of_decide_eq_true hlt
    obtain ⟨hi, hA, _, hc, ⟨E9, n9, c9, A12, n13, c14, A17, n18, c19, rfl, q0, q1, q2, q3, q4⟩⟩ := hs.at hle h0 hlt
    have hsu := ends_succ hi
    refine ⟨hA, h0, hlt, _, _, _, _, _, _, _, _, _, _, _, hc, by omega, by simp only [rng]; omega, ⟨by omega, by omega, by rw [e1, hsu, List.length_append, ← hk]; rfl, ?_⟩, by dsimp only; omega⟩
    rw [e1, hsu]
    exact hr.append ⟨[_], [_], rfl, ⟨rfl, q2⟩, [_], [], rfl, ⟨rfl, q3⟩, rfl⟩
  · have hge := of_decide_eq_false hge
    rw [List.take_of_length_le (by omega)] at hk hr
    have hlen := ends_len l
    refine ⟨_, Sort_Int hr hk.symm (by omega), ?_⟩
    intro H3 l3 ys h3
    have h3 : Row H3 ys (sortI (ends l)) := h3
    refine ⟨_, Compact_Int h3 (by rw [sortI_len, hk]) (by omega), ?_⟩
    rintro H4 l4 zs n4 xs4 ⟨rfl, h4⟩ A5 c5 H5 l5 hc5 hn5
    have b1 := compact_len (sortI (ends l))
    rw [sortI_len] at b1
    exact h4.sl l5 hc5 rfl hn5 (by show (Lib.compact (sortI (ends l))).length * 8 ≤ _; omega) (by omega)
def growL_Int_ren : Go.Shelf.Ren := ⟨fun | 4 => 112 | n => n, fun | 22 => 23 | 25 => 3 | 3 => 3 | 4 => 4 | 9 => 9 | 20 => 20 | 0 => 0 | n => n, fun n => n⟩
theorem growL_Int : Lays8.n4 Try.prog growL_Int_ren where
  mixed := by kernel_rfl
  f4 := ⟨Try.f112.name, by kernel_rfl, Try.func112.trans (congrArg some (by kernel_rfl))⟩
  t0 := Try.underlying0
  a0 := Try.isAgg0
  z0 := Try.sizeOf0
  v0 := Try.zeroValue0
  t3 := Try.underlying3
  a3 := Try.isAgg3
  z3 := Try.sizeOf3
  v3 := Try.zeroValue3
  t4 := Try.underlying4
  a4 := Try.isAgg4
  z4 := Try.sizeOf4
  v4 := Try.zeroValue4
  t9 := Try.underlying9
  a9 := Try.isAgg9
  z9 := Try.sizeOf9
  v9 := Try.zeroValue9
  t20 := Try.underlying20
  a20 := Try.isAgg20
  z20 := Try.sizeOf20
  v20 := Try.zeroValue20
  t22 := Try.underlying23
  a22 := Try.isAgg23
  z22 := Try.sizeOf23
  v22 := Try.zeroValue23
theorem Grow_Int {n : Int} {r : Nat} {H : Heap} (h0 : 0 ≤ n) (hb : n * 8 ≤ 140737488355328) :
    ConT Try.prog 112 [.slice none 0 0, .int .i64 n] H ⟨false, [(false, [.row r 3])]⟩ (fun m xs _ => m = 0 ∧ xs = []) := by
  have h := grow_con (Γ := tab) tabOK growL_Int (j := (tab 3).get rfl) rfl (by decide) (by decide) (n := n.toNat) (r := r) (H := H) (by show n.toNat * 8 ≤ _; omega)
  rw [Int.toNat_of_nonneg h0] at h
  exact h
def an90 : Ann where
  res := fun | 24 => some ⟨false, [(false, [.row 36 3])]⟩ | _ => none
  lend := fun _ => false
  sch := fun _ => .done
  lt := fun | 3 => [.slot 3 false [.int .i64], .slot 11 false [.int .i64]] | 11 => [.slot 6 false [.row 37 3], .slot 27 false [.int .i64]] | _ => []
  tup := tups

theorem vc90 (P : Program) (H : Heap) (slicesA : Option Addr) (slicesN slicesC : Nat) (ri0 : Nat) (post : Nat → List Value → Heap → Prop) :
  vcFn P tab an90 Try.f90 [.slice slicesA slicesN slicesC] 2 H ⟨false, [(false, [.row ri0 3])]⟩ post =
  (  ∃ (inv0 : Int → Int → Heap → Prop), ∃ (m1 : Int → Int → Nat), inv0 (0 : Int) (0 : Int) H ∧ ∀ (H2 : Heap), Heap.le H H2 → ∀ (n4 n5 : Int), inv0 n4 n5 H2 → (decide (n5 < (↑slicesN : Int)) =
  true → someA slicesA ∧ (0 : Int) ≤ n5 ∧ n5 < (↑slicesN : Int) ∧ ∃ (A8 : Option Addr), ∃ (n9 : Nat), ∃ (c10 : Nat), Cells H2 slicesA (Int.toNat n5 * 1) [.slice A8 n9 c10] ∧ rng .i64 (n4 +
  (↑n9 : Int)) ∧ (decide (n4 + (↑n9 : Int) < (0 : Int)) = true → False) ∧ (decide (n4 + (↑n9 : Int) < (0 : Int)) = false → rng .i64 (n5 + (1 : Int)) ∧ inv0 (n4 + (↑n9 : Int)) (n5 + (1 : Int))
  H2 ∧ m1 (n4 + (↑n9 : Int)) (n5 + (1 : Int)) < m1 n4 n5)) ∧ (decide (n5 < (↑slicesN : Int)) = false → ∃ (post14 : Nat → List Value → Heap → Prop), ConT P 112 [.slice none 0 0, .int .i64 n4]
  H2 ⟨false, [(false, [.row 36 3])]⟩ post14 ∧ ∀ (H15 : Heap), Heap.le H2 H15 → ∀ (n17 : Nat) (xs18 : List Value), post14 n17 xs18 H15 → ∃ (inv20 : Nat → List Value → Int → Heap → Prop), ∃
  (m21 : Nat → List Value → Int → Nat), inv20 n17 xs18 (0 : Int) H15 ∧ ∀ (H22 : Heap), Heap.le H15 H22 → ∀ (n24 : Nat) (xs25 : List Value) (n26 : Int), inv20 n24 xs25 n26 H22 → (decide (n26 <
  (↑slicesN : Int)) = true → someA slicesA ∧ (0 : Int) ≤ n26 ∧ n26 < (↑slicesN : Int) ∧ ∃ (A29 : Option Addr), ∃ (n30 : Nat), ∃ (c31 : Nat), Cells H22 slicesA (Int.toNat n26 * 1) [.slice A29
  n30 c31] ∧ ∃ (ys32 : List Value), Cells H22 A29 0 ys32 ∧ List.length ys32 = n30 * 1 ∧ (n24 + n30) * 8 ≤ 140737488355328 ∧ rng .i64 (n26 + (1 : Int)) ∧ inv20 (n24 + n30) (xs25 ++ ys32) (n26
  + (1 : Int)) H22 ∧ m21 (n24 + n30) (xs25 ++ ys32) (n26 + (1 : Int)) < m21 n24 xs25 n26) ∧ (decide (n26 < (↑slicesN : Int)) = false → post n24 xs25 H22))) := by kernel_rfl
theorem Concat_Int {H : Heap} {A : Option Addr} {n c r : Nat} {ls : List (List Int)} (hs : Sl H A n c ls) (hb : ls.flatten.length * 8 ≤ 140737488355328) :
    ConT Try.prog 90 [.slice A n c] H ⟨false, [(false, [.row r 3])]⟩ (fun m xs H' => m = ls.flatten.length ∧ Row H' xs ls.flatten) := by
  refine con_of_vc (an := an90) (fn := Try.f90) mix tabOK Try.func90 (by kernel_rfl) (extra := 2) ?_
  rw [vc90]
  have b1 := hs.bn; have b2 := hs.len
  have hle0 : ∀ k, (ls.take k).flatten.length ≤ ls.flatten.length := fun k => by
    have : ls.flatten.length = (ls.take k).flatten.length + (ls.drop k).flatten.length := by rw [← List.length_append, ← List.flatten_append, List.take_append_drop]
    omega
  have hsucc : ∀ {i : Int} (h0 : 0 ≤ i) (hi : i.toNat < ls.length), (ls.take (i + 1).toNat).flatten = (ls.take i.toNat).flatten ++ ls[i.toNat] := fun {i} h0 hi => by
    rw [show (i + 1).toNat = i.toNat + 1 by omega, List.take_succ_eq_append_getElem hi, List.flatten_append]; simp
  refine ⟨fun m i _ => 0 ≤ i ∧ i ≤ n ∧ m = (ls.take i.toNat).flatten.length, fun _ i => n - i.toNat, ⟨by omega, by omega, by simp⟩, ?_⟩
  rintro H2 l2 m i ⟨h0, h1, rfl⟩
  refine ⟨fun hlt => ?_, fun hge => ?_⟩
  · have hlt := of_decide_eq_true hlt
    obtain ⟨hi, hA, _, hc, ⟨A3, n3, c3, rfl, hs3⟩⟩ := hs.at l2 h0 hlt
    have e3 := hs3.len
    have k1 := hle0 (i + 1).toNat
    have k2 := congrArg List.length (hsucc h0 hi)
    rw [List.length_append, e3] at k2
    refine ⟨hA, h0, hlt, _, _, _, hc, by simp only [rng]; omega, fun hf => ?_, fun _ => ⟨by simp only [rng]; omega, ⟨by omega, by omega, by omega⟩, by dsimp only; omega⟩⟩
    have := of_decide_eq_true hf
    omega
  · have hge := of_decide_eq_false hge
    have hall : (ls.take i.toNat).flatten = ls.flatten := by rw [List.take_of_length_le (by omega)]
    rw [hall]
    refine ⟨_, Grow_Int (by omega) (by omega), ?_⟩
    rintro H3 l3 _ _ ⟨rfl, rfl⟩
    refine ⟨fun m xs i H' => 0 ≤ i ∧ i ≤ n ∧ m = (ls.take i.toNat).flatten.length ∧ Row H' xs (ls.take i.toNat).flatten, fun _ _ i => n - i.toNat, ⟨by omega, by omega, by simp, by simp [Row]⟩, ?_⟩
    rintro H4 l4 _ xs j ⟨j0, j1, rfl, hr⟩
    refine ⟨fun hlt => ?_, fun hge => ?_⟩
    · have hlt := of_decide_eq_true hlt
      obtain ⟨hi, hA, _, hc, ⟨A3, n3, c3, rfl, hs3⟩⟩ := hs.at (hle_trans l2 (hle_trans l3 l4)) j0 hlt
      have e3 := hs3.len
      have k1 := hle0 (j + 1).toNat
      have k2 := congrArg List.length (hsucc j0 hi)
      rw [List.length_append, e3] at k2
      obtain ⟨ys, y1, y2⟩ := hs3.row
      refine ⟨hA, j0, hlt, _, _, _, hc, ys, y1, by rw [y2.length, e3]; rfl, by omega, by simp only [rng]; omega, ⟨by omega, by omega, by omega, ?_⟩, by dsimp only; omega⟩
      rw [hsucc j0 hi]
      exact hr.append y2
    · have hge := of_decide_eq_false hge
      have hall : (ls.take j.toNat).flatten = ls.flatten := by rw [List.take_of_length_le (by omega)]
      rw [hall] at hr
      rw [hall]
      exact ⟨rfl, hr⟩
def mergeLin (a b : List Int) : List Int := Lib.compact (sortI (a ++ b))
def an77 : Ann where
  res := fun | 9 => some ⟨false, [(false, [.row 14 3])]⟩ | 13 => some ⟨false, [(false, [.row 15 3])]⟩ | _ => none
  lend := fun _ => false
  mt := fun | 61 => some true | 74 => some false | _ => none
  sch := fun _ => .done
  lt := fun _ => []
  tup := tups

theorem vc77 (P : Program) (H : Heap) (aA : Option Addr) (aN aC : Nat) (bA : Option Addr) (bN bC : Nat) (ri0 : Nat) (post : Nat → List Value → Heap → Prop) :
  vcFn P tab an77 Try.f77 [.slice aA aN aC, .slice bA bN bC] 2 H ⟨false, [(false, [.row ri0 3])]⟩ post =
  (  ∀ (A0 : Option Addr) (c1 : Nat) (H2 : Heap), Heap.le H H2 → Cells H2 A0 0 [.slice aA aN aC, .slice bA bN bC] → 2 ≤ c1 → ∃ (post6 : Nat → List Value → Heap → Prop), ConT P 90 [.slice A0 2
  c1] H2 ⟨false, [(false, [.row 14 3])]⟩ post6 ∧ ∀ (H7 : Heap), Heap.le H2 H7 → ∀ (n9 : Nat) (xs10 : List Value), post6 n9 xs10 H7 → ∃ (post12 : List Value → Heap → Prop), ConM P 61 [.slice
  none 0 0] 0 3 n9 xs10 true H7 ⟨true, []⟩ post12 ∧ ∀ (H13 : Heap), Heap.le H7 H13 → ∀ (ys15 : List Value), post12 ys15 H13 → ∃ (post17 : List Value → Nat → List Value → Heap → Prop), ConM P
  74 [.slice none 0 0] 0 3 n9 ys15 false H13 ⟨false, [(false, [.row 15 3])]⟩ post17 ∧ ∀ (H18 : Heap), Heap.le H13 H18 → ∀ (ys20 : List Value) (n21 : Nat) (xs22 : List Value), post17 ys20 n21
  xs22 H18 → post n21 xs22 H18) := by kernel_rfl
theorem bag_MergeLineage {H : Heap} {A B : Option Addr} {n c m d r : Nat} {a b : List Int} (hs : Sl H A n c a) (ht : Sl H B m d b) (hb : (n + m) * 8 ≤ 140737488355328) :
    ConT Try.prog 77 [.slice A n c, .slice B m d] H ⟨false, [(false, [.row r 3])]⟩ (fun k xs H' => k = (mergeLin a b).length ∧ Row H' xs (mergeLin a b)) := by
  refine con_of_vc (an := an77) (fn := Try.f77) mix tabOK Try.func77 (by kernel_rfl) (extra := 2) ?_
  rw [vc77]
  intro A0 c0 H2 l2 hc hn
  have h0 : Sl H2 A0 2 c0 [a, b] := Row.sl (H := H2) (T := List Int) (l := [a, b]) ⟨[_], [_], rfl, ⟨A, n, c, rfl, hs.mono l2⟩, [_], [], rfl, ⟨B, m, d, rfl, ht.mono l2⟩, rfl⟩ (hle_refl H2) hc rfl hn (by decide) (by decide)
  have hl := hs.len; have hm := ht.len
  have e : [a, b].flatten = a ++ b := by simp
  have hlen : (a ++ b).length = n + m := by rw [List.length_append, hl, hm]
  refine ⟨_, Concat_Int h0 (by rw [e, hlen]; exact hb), ?_⟩
  rw [e]
  rintro H3 l3 k xs ⟨rfl, h3⟩
  refine ⟨_, Sort_Int h3 rfl (by omega), ?_⟩
  intro H4 l4 ys h4
  have h4 : Row H4 ys (sortI (a ++ b)) := h4
  refine ⟨_, Compact_Int h4 (sortI_len _) (by omega), ?_⟩
  rintro H5 l5 zs k5 xs5 h5
  exact h5
def lins (l : List Kd) : List Int := l.flatMap fun k => k.t.lin
theorem lins_succ {l : List Kd} {i : Nat} (hi : i < l.length) : lins (l.take (i + 1)) = lins (l.take i) ++ l[i].t.lin := by
  rw [List.take_succ_eq_append_getElem hi, lins, List.flatMap_append]; simp [lins]
theorem lins_take (l : List Kd) (i : Nat) : (lins (l.take i)).length ≤ (lins l).length := by
  have : lins l = lins (l.take i) ++ lins (l.drop i) := by rw [lins, lins, lins, ← List.flatMap_append, List.take_append_drop]
  rw [this, List.length_append]; omega
def mergedL (l : List Kd) : List Int := mergeLin (lins l) []
def an58 : Ann where
  res := fun | 19 => some ⟨false, [(false, [.row 20 3])]⟩ | _ => none
  lend := fun _ => false
  sch := fun _ => .done
  lt := fun | 3 => [.slot 3 false [.row 21 3], .slot 8 false [.int .i64]] | _ => []
  tup := tups

theorem vc58 (P : Program) (H : Heap) (lA : Option Addr) (lN lC : Nat) (ri0 : Nat) (post : Nat → List Value → Heap → Prop) :
  vcFn P tab an58 Try.f58 [.slice lA lN lC] 2 H ⟨false, [(false, [.row ri0 3])]⟩ post =
  (  ∃ (inv0 : Nat → List Value → Int → Heap → Prop), ∃ (m1 : Nat → List Value → Int → Nat), inv0 0 [] (0 : Int) H ∧ ∀ (H2 : Heap), Heap.le H H2 → ∀ (n4 : Nat) (xs5 : List Value) (n6 : Int),
  inv0 n4 xs5 n6 H2 → (decide (n6 < (↑lN : Int)) = true → someA lA ∧ (0 : Int) ≤ n6 ∧ n6 < (↑lN : Int) ∧ ∃ (A9 : Option Addr), ∃ (n10 : Nat), ∃ (c11 : Nat), ∃ (A12 : Option Addr), ∃ (n13 :
  Nat), ∃ (c14 : Nat), ∃ (n15 : Int), ∃ (n16 : Int), ∃ (A17 : Option Addr), ∃ (n18 : Nat), ∃ (c19 : Nat), Cells H2 lA (Int.toNat n6 * 5) [.slice A9 n10 c11, .slice A12 n13 c14, .int .i64 n15,
  .int .i64 n16, .slice A17 n18 c19] ∧ ∃ (ys20 : List Value), Cells H2 A17 0 ys20 ∧ List.length ys20 = n18 * 1 ∧ (n4 + n18) * 8 ≤ 140737488355328 ∧ rng .i64 (n6 + (1 : Int)) ∧ inv0 (n4 + n18)
  (xs5 ++ ys20) (n6 + (1 : Int)) H2 ∧ m1 (n4 + n18) (xs5 ++ ys20) (n6 + (1 : Int)) < m1 n4 xs5 n6) ∧ (decide (n6 < (↑lN : Int)) = false → ∀ (A22 : Option Addr) (c23 : Nat) (H24 : Heap),
  Heap.le H2 H24 → Cells H24 A22 0 xs5 → n4 ≤ c23 → ∃ (post28 : Nat → List Value → Heap → Prop), ConT P 77 [.slice A22 n4 c23, .slice none 0 0] H24 ⟨false, [(false, [.row 20 3])]⟩ post28 ∧ ∀
  (H29 : Heap), Heap.le H24 H29 → ∀ (n31 : Nat) (xs32 : List Value), post28 n31 xs32 H29 → post n31 xs32 H29)) := by kernel_rfl
theorem keys_merged {H : Heap} {A : Option Addr} {n c r : Nat} {l : List Kd} (hs : Sl H A n c l) (hb : (lins l).length * 8 ≤ 140737488355328) :
    ConT Try.prog 58 [.slice A n c] H ⟨false, [(false, [.row r 3])]⟩ (fun k xs H' => k = (mergedL l).length ∧ Row H' xs (mergedL l)) := by
  refine con_of_vc (an := an58) (fn := Try.f58) mix tabOK Try.func58 (by kernel_rfl) (extra := 2) ?_
  rw [vc58]
  have hl := hs.len; have hbn := hs.bn
  refine ⟨fun k xs i H' => 0 ≤ i ∧ i ≤ n ∧ k = (lins (l.take i.toNat)).length ∧ Row H' xs (lins (l.take i.toNat)), fun _ _ i => n - i.toNat, ⟨by omega, by omega, rfl, rfl⟩, ?_⟩
  rintro H2 hle k xs i ⟨h0, h1, hk, hr⟩
  have e1 : (i + 1).toNat = i.toNat + 1 := by omega
  refine ⟨fun hlt => ?_, fun hge => ?_⟩
  · have hlt := of_decide_eq_true hlt
    obtain ⟨hi, hA, _, hc, ⟨E9, n9, c9, A12, n13, c14, A17, n18, c19, rfl, q0, q1, q2, q3, q4⟩⟩ := hs.at hle h0 hlt
    have hsu := lins_succ hi
    have hlen := congrArg List.length hsu
    rw [List.length_append, q4.len] at hlen
    have ht := lins_take l (i.toNat + 1)
    obtain ⟨ys, y1, y2⟩ := q4.row
    refine ⟨hA, h0, hlt, _, _, _, _, _, _, _, _, _, _, _, hc, ys, y1, by rw [y2.length, q4.len]; rfl, by omega, by simp only [rng]; omega, ⟨by omega, by omega, by rw [e1, hlen, hk], ?_⟩, by dsimp only; omega⟩
    rw [e1, hsu]
    exact hr.append y2
  · have hge := of_decide_eq_false hge
    rw [List.take_of_length_le (by omega)] at hk hr
    intro A4 c4 H4 l4 hc4 hn4
    refine ⟨_, bag_MergeLineage (r := 20) (hr.sl l4 hc4 hk.symm hn4 (by show k * 8 ≤ _; omega) (by omega)) (Sl.nil (T := Int)) (by omega), ?_⟩
    rintro H5 l5 k5 xs5 h5
    exact h5
end Go.Vc
