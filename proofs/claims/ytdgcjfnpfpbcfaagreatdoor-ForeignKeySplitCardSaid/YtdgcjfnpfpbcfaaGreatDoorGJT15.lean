/- Tuples by key, their boundaries, merged lineages. -/
import Derived.Test.YtdgcjfnpfpbcfaaGreatDoorGJT13
import Derived.Test.YtdgcjfnpfpbcfaaGreatDoorGJT14
import Derived.Test.YtdgcjfnpfpbcfaaGreatDoorGJT10
import Derived.Test.YtdgcjfnpfpbcfaaGreatDoorGJT2
set_option linter.unusedSectionVars false
set_option linter.unusedSimpArgs false
set_option linter.unusedVariables false
namespace Go.Vc
open Go Go.Proofs Go.Shelf
def byKeyL (l : List Tup) (cols : List Int) : List Kd := (l.filter fun t => pOk t.p).map fun t => ⟨keyVals t.vals cols, t⟩
theorem byKeyL_succ {l : List Tup} {cols : List Int} {i : Nat} (hi : i < l.length) : byKeyL (l.take (i + 1)) cols = byKeyL (l.take i) cols ++ (if pOk l[i].p then [⟨keyVals l[i].vals cols, l[i]⟩] else []) := by
  rw [List.take_succ_eq_append_getElem hi]
  simp only [byKeyL, List.filter_append, List.map_append, List.filter_cons, List.filter_nil]
  split <;> simp
theorem byKeyL_len (l : List Tup) (cols : List Int) : (byKeyL l cols).length ≤ l.length := by
  simp only [byKeyL, List.length_map]; exact List.length_filter_le _ _
def sortI (l : List Int) : List Int := l.mergeSort fun x y => decide (x ≤ y)
def ends (l : List Kd) : List Int := l.flatMap fun k => [k.t.p.lo, k.t.p.hi]
def points (l : List Kd) : List Int := Lib.compact (sortI (ends l))
theorem compact_len (l : List Int) : (Lib.compact l).length ≤ l.length := (compact_sub l).length_le
theorem sortI_len (l : List Int) : (sortI l).length = l.length := by simp [sortI]
def growL_Int_ren : Go.Shelf.Ren := ⟨fun | 4 => 182 | n => n, fun | 22 => 23 | 25 => 3 | 3 => 3 | 4 => 4 | 9 => 9 | 20 => 20 | 0 => 0 | n => n, fun n => n⟩
theorem growL_Int : Lays8.n4 Tryz.prog growL_Int_ren where
  mixed := by kernel_rfl
  f4 := ⟨Tryz.f182.name, by kernel_rfl, Tryz.func182.trans (congrArg some (by kernel_rfl))⟩
  t0 := Tryz.underlying0
  a0 := Tryz.isAgg0
  z0 := Tryz.sizeOf0
  v0 := Tryz.zeroValue0
  t3 := Tryz.underlying3
  a3 := Tryz.isAgg3
  z3 := Tryz.sizeOf3
  v3 := Tryz.zeroValue3
  t4 := Tryz.underlying4
  a4 := Tryz.isAgg4
  z4 := Tryz.sizeOf4
  v4 := Tryz.zeroValue4
  t9 := Tryz.underlying9
  a9 := Tryz.isAgg9
  z9 := Tryz.sizeOf9
  v9 := Tryz.zeroValue9
  t20 := Tryz.underlying20
  a20 := Tryz.isAgg20
  z20 := Tryz.sizeOf20
  v20 := Tryz.zeroValue20
  t22 := Tryz.underlying23
  a22 := Tryz.isAgg23
  z22 := Tryz.sizeOf23
  v22 := Tryz.zeroValue23
theorem Grow_Int {n : Int} {r : Nat} {H : Heap} (h0 : 0 ≤ n) (hb : n * 8 ≤ 140737488355328) :
    ConT Tryz.prog 182 [.slice none 0 0, .int .i64 n] H ⟨false, [(false, [.row r 3])]⟩ (fun m xs _ => m = 0 ∧ xs = []) := by
  have h := grow_con (Γ := tab) tabOK growL_Int (j := (tab 3).get rfl) rfl (by decide) (by decide) (n := n.toNat) (r := r) (H := H) (by show n.toNat * 8 ≤ _; omega)
  rw [Int.toNat_of_nonneg h0] at h
  exact h
def an169 : Ann where
  res := fun | 24 => some ⟨false, [(false, [.row 36 3])]⟩ | _ => none
  lend := fun _ => false
  sch := fun _ => .done
  lt := fun | 3 => [.slot 3 false [.int .i64], .slot 11 false [.int .i64]] | 11 => [.slot 6 false [.row 37 3], .slot 27 false [.int .i64]] | _ => []
  tup := tups

theorem vc169 (P : Program) (H : Heap) (slicesA : Option Addr) (slicesN slicesC : Nat) (ri0 : Nat) (post : Nat → List Value → Heap → Prop) :
  vcFn P tab an169 Tryz.f169 [.slice slicesA slicesN slicesC] 2 H ⟨false, [(false, [.row ri0 3])]⟩ post =
  (  ∃ (inv0 : Int → Int → Heap → Prop), ∃ (m1 : Int → Int → Nat), inv0 (0 : Int) (0 : Int) H ∧ ∀ (H2 : Heap), Heap.le H H2 → ∀ (n4 n5 : Int), inv0 n4 n5 H2 → (decide (n5 < (↑slicesN : Int)) =
  true → someA slicesA ∧ (0 : Int) ≤ n5 ∧ n5 < (↑slicesN : Int) ∧ ∃ (A8 : Option Addr), ∃ (n9 : Nat), ∃ (c10 : Nat), Cells H2 slicesA (Int.toNat n5 * 1) [.slice A8 n9 c10] ∧ rng .i64 (n4 +
  (↑n9 : Int)) ∧ (decide (n4 + (↑n9 : Int) < (0 : Int)) = true → False) ∧ (decide (n4 + (↑n9 : Int) < (0 : Int)) = false → rng .i64 (n5 + (1 : Int)) ∧ inv0 (n4 + (↑n9 : Int)) (n5 + (1 : Int))
  H2 ∧ m1 (n4 + (↑n9 : Int)) (n5 + (1 : Int)) < m1 n4 n5)) ∧ (decide (n5 < (↑slicesN : Int)) = false → ∃ (post14 : Nat → List Value → Heap → Prop), ConT P 182 [.slice none 0 0, .int .i64 n4]
  H2 ⟨false, [(false, [.row 36 3])]⟩ post14 ∧ ∀ (H15 : Heap), Heap.le H2 H15 → ∀ (n17 : Nat) (xs18 : List Value), post14 n17 xs18 H15 → ∃ (inv20 : Nat → List Value → Int → Heap → Prop), ∃
  (m21 : Nat → List Value → Int → Nat), inv20 n17 xs18 (0 : Int) H15 ∧ ∀ (H22 : Heap), Heap.le H15 H22 → ∀ (n24 : Nat) (xs25 : List Value) (n26 : Int), inv20 n24 xs25 n26 H22 → (decide (n26 <
  (↑slicesN : Int)) = true → someA slicesA ∧ (0 : Int) ≤ n26 ∧ n26 < (↑slicesN : Int) ∧ ∃ (A29 : Option Addr), ∃ (n30 : Nat), ∃ (c31 : Nat), Cells H22 slicesA (Int.toNat n26 * 1) [.slice A29
  n30 c31] ∧ ∃ (ys32 : List Value), Cells H22 A29 0 ys32 ∧ List.length ys32 = n30 * 1 ∧ (n24 + n30) * 8 ≤ 140737488355328 ∧ rng .i64 (n26 + (1 : Int)) ∧ inv20 (n24 + n30) (xs25 ++ ys32) (n26
  + (1 : Int)) H22 ∧ m21 (n24 + n30) (xs25 ++ ys32) (n26 + (1 : Int)) < m21 n24 xs25 n26) ∧ (decide (n26 < (↑slicesN : Int)) = false → post n24 xs25 H22))) := by kernel_rfl
theorem Concat_Int {H : Heap} {A : Option Addr} {n c r : Nat} {ls : List (List Int)} (hs : Sl H A n c ls) (hb : ls.flatten.length * 8 ≤ 140737488355328) :
    ConT Tryz.prog 169 [.slice A n c] H ⟨false, [(false, [.row r 3])]⟩ (fun m xs H' => m = ls.flatten.length ∧ Row H' xs ls.flatten) := by
  refine con_of_vc (an := an169) (fn := Tryz.f169) mix tabOK Tryz.func169 (by kernel_rfl) (extra := 2) ?_
  rw [vc169]
  have b1 := hs.bn; have b2 := hs.len
  have hle0 : ∀ k, (ls.take k).flatten.length ≤ ls.flatten.length := fun k => by
    have : ls.flatten.length = (ls.take k).flatten.length + (ls.drop k).flatten.length := by rw [← List.length_append, ← List.flatten_append, List.take_append_drop]
    omega
  have hsucc : ∀ {i : Int} (h0 : 0 ≤ i) (hi : i.toNat < ls.length), (ls.take (i + 1).toNat).flatten = (ls.take i.toNat).flatten ++ ls[i.toNat] := fun {i} h0 hi => by
    rw [show (i + 1).toNat = i.toNat + 1 by omega, List.take_succ_eq_append_getElem hi, List.flatten_append]; simp
  refine ⟨fun m i _ => 0 ≤ i ∧ i ≤ n ∧ m = (ls.take i.toNat).flatten.length, fun _ i => n - i.toNat, ⟨by omega, by omega, by simp⟩, ?_⟩
  rintro H2 l2 m i ⟨h0, h1, rfl⟩
  refine ⟨fun hlt => ?_, fun hge => ?_⟩
  · have hlt := of_decide_eq_true hlt
    obtain ⟨hi, hA, _, hc, ⟨A3, n3, c3, rfl, hs3⟩⟩ := hs.at l2 h0 hlt
    have e3 := hs3.len
    have k1 := hle0 (i + 1).toNat
    have k2 := congrArg List.length (hsucc h0 hi)
    rw [List.length_append, e3] at k2
    refine ⟨hA, h0, hlt, _, _, _, hc, by simp only [rng]; omega, fun hf => ?_, fun _ => ⟨by simp only [rng]; omega, ⟨by omega, by omega, by omega⟩, by dsimp only; omega⟩⟩
    have := of_decide_eq_true hf
    omega
  · have hge := of_decide_eq_false hge
    have hall : (ls.take i.toNat).flatten = ls.flatten := by rw [List.take_of_length_le (by omega)]
    rw [hall]
    refine ⟨_, Grow_Int (by omega) (by omega), ?_⟩
    rintro H3 l3 _ _ ⟨rfl, rfl⟩
    refine ⟨fun m xs i H' => 0 ≤ i ∧ i ≤ n ∧ m = (ls.take i.toNat).flatten.length ∧ Row H' xs (ls.take i.toNat).flatten, fun _ _ i => n - i.toNat, ⟨by omega, by omega, by simp, by simp [Row]⟩, ?_⟩
    rintro H4 l4 _ xs j ⟨j0, j1, rfl, hr⟩
    refine ⟨fun hlt => ?_, fun hge => ?_⟩
    · have hlt := of_decide_eq_true hlt
      obtain ⟨hi, hA, _, hc, ⟨A3, n3, c3, rfl, hs3⟩⟩ := hs.at (hle_trans l2 (hle_trans l3 l4)) j0 hlt
      have e3 := hs3.len
      have k1 := hle0 (j + 1).toNat
      have k2 := congrArg List.length (hsucc j0 hi)
      rw [List.length_append, e3] at k2
      obtain ⟨ys, y1, y2⟩ := hs3.row
      refine ⟨hA, j0, hlt, _, _, _, hc, ys, y1, by rw [y2.length, e3]; rfl, by omega, by simp only [rng]; omega, ⟨by omega, by omega, by omega, ?_⟩, by dsimp only; omega⟩
      rw [hsucc j0 hi]
      exact hr.append y2
    · have hge := of_decide_eq_false hge
      have hall : (ls.take j.toNat).flatten = ls.flatten := by rw [List.take_of_length_le (by omega)]
      rw [hall] at hr
      rw [hall]
      exact ⟨rfl, hr⟩
def mergeLin (a b : List Int) : List Int := Lib.compact (sortI (a ++ b))
def an136 : Ann where
  res := fun | 9 => some ⟨false, [(false, [.row 14 3])]⟩ | 13 => some ⟨false, [(false, [.row 15 3])]⟩ | _ => none
  lend := fun _ => false
  mt := fun | 79 => some true | 98 => some false | _ => none
  sch := fun _ => .done
  lt := fun _ => []
  tup := tups

theorem vc136 (P : Program) (H : Heap) (aA : Option Addr) (aN aC : Nat) (bA : Option Addr) (bN bC : Nat) (ri0 : Nat) (post : Nat → List Value → Heap → Prop) :
  vcFn P tab an136 Tryz.f136 [.slice aA aN aC, .slice bA bN bC] 2 H ⟨false, [(false, [.row ri0 3])]⟩ post =
  (  ∀ (A0 : Option Addr) (c1 : Nat) (H2 : Heap), Heap.le H H2 → Cells H2 A0 0 [.slice aA aN aC, .slice bA bN bC] → 2 ≤ c1 → ∃ (post6 : Nat → List Value → Heap → Prop), ConT P 169 [.slice A0 2
  c1] H2 ⟨false, [(false, [.row 14 3])]⟩ post6 ∧ ∀ (H7 : Heap), Heap.le H2 H7 → ∀ (n9 : Nat) (xs10 : List Value), post6 n9 xs10 H7 → ∃ (post12 : List Value → Heap → Prop), ConM P 79 [.slice
  none 0 0] 0 3 n9 xs10 true H7 ⟨true, []⟩ post12 ∧ ∀ (H13 : Heap), Heap.le H7 H13 → ∀ (ys15 : List Value), post12 ys15 H13 → ∃ (post17 : List Value → Nat → List Value → Heap → Prop), ConM P
  98 [.slice none 0 0] 0 3 n9 ys15 false H13 ⟨false, [(false, [.row 15 3])]⟩ post17 ∧ ∀ (H18 : Heap), Heap.le H13 H18 → ∀ (ys20 : List Value) (n21 : Nat) (xs22 : List Value), post17 ys20 n21
  xs22 H18 → post n21 xs22 H18) := by kernel_rfl
theorem bag_MergeLineage {H : Heap} {A B : Option Addr} {n c m d r : Nat} {a b : List Int} (hs : Sl H A n c a) (ht : Sl H B m d b) (hb : (n + m) * 8 ≤ 140737488355328) :
    ConT Tryz.prog 136 [.slice A n c, .slice B m d] H ⟨false, [(false, [.row r 3])]⟩ (fun k xs H' => k = (mergeLin a b).length ∧ Row H' xs (mergeLin a b)) := by
  refine con_of_vc (an := an136) (fn := Tryz.f136) mix tabOK Tryz.func136 (by kernel_rfl) (extra := 2) ?_
  rw [vc136]
  intro A0 c0 H2 l2 hc hn
  have h0 : Sl H2 A0 2 c0 [a, b] := Row.sl (H := H2) (T := List Int) (l := [a, b]) ⟨[_], [_], rfl, ⟨A, n, c, rfl, hs.mono l2⟩, [_], [], rfl, ⟨B, m, d, rfl, ht.mono l2⟩, rfl⟩ (hle_refl H2) hc rfl hn (by decide) (by decide)
  have hl := hs.len; have hm := ht.len
  have e : [a, b].flatten = a ++ b := by simp
  have hlen : (a ++ b).length = n + m := by rw [List.length_append, hl, hm]
  refine ⟨_, Concat_Int h0 (by rw [e, hlen]; exact hb), ?_⟩
  rw [e]
  rintro H3 l3 k xs ⟨rfl, h3⟩
  refine ⟨_, Sort_Int h3 rfl (by omega), ?_⟩
  intro H4 l4 ys h4
  have h4 : Row H4 ys (sortI (a ++ b)) := h4
  refine ⟨_, Compact_Int h4 (sortI_len _) (by omega), ?_⟩
  rintro H5 l5 zs k5 xs5 h5
  exact h5
def lins (l : List Kd) : List Int := l.flatMap fun k => k.t.lin
end Go.Vc
/- Violations of one key: extending, the active tuples. -/
namespace Go.Vc
open Go Go.Proofs Go.Shelf
def an71 : Ann where
  res := fun _ => none
  lend := fun _ => false
  sch := fun | 6 => (tk [0, 1, 2, 3, 4, 5, 6, 7, 8] .done) | _ => .done
  lt := fun | 4 => [.slot 13 false [.int .i64]] | _ => []
  tup := tups

theorem vc71 (P : Program) (H : Heap) (s1A : Option Addr) (s1N s1C : Nat) (s2A : Option Addr) (s2N s2C : Nat) (post : Bool → Heap → Prop) :
  vcFn P tab an71 Tryz.f71 [.slice s1A s1N s1C, .slice s2A s2N s2C] 0 H ⟨false, [(false, [.bool])]⟩ post =
  (  ((!decide ((↑s1N : Int) = (↑s2N : Int))) = true → post false H) ∧ ((!decide ((↑s1N : Int) = (↑s2N : Int))) = false → ∃ (inv2 : Int → Heap → Prop), ∃ (m3 : Int → Nat), inv2 (0 : Int) H ∧ ∀
  (H4 : Heap), Heap.le H H4 → ∀ (n6 : Int), inv2 n6 H4 → (decide (n6 < (↑s1N : Int)) = true → someA s1A ∧ (0 : Int) ≤ n6 ∧ n6 < (↑s1N : Int) ∧ ∃ (n9 : Int), Cells H4 s1A (Int.toNat n6 * 1)
  [.int .i64 n9] ∧ someA s2A ∧ (0 : Int) ≤ n6 ∧ n6 < (↑s2N : Int) ∧ ∃ (n10 : Int), Cells H4 s2A (Int.toNat n6 * 1) [.int .i64 n10] ∧ ((!decide (n9 = n10)) = true → post false H4) ∧ ((!decide
  (n9 = n10)) = false → rng .i64 (n6 + (1 : Int)) ∧ inv2 (n6 + (1 : Int)) H4 ∧ m3 (n6 + (1 : Int)) < m3 n6)) ∧ (decide (n6 < (↑s1N : Int)) = false → post true H4))) := by kernel_rfl
theorem Equal_Int {H : Heap} {A B : Option Addr} {n c m d : Nat} {a b : List Int} (hs : Sl H A n c a) (ht : Sl H B m d b) :
    ConT Tryz.prog 71 [.slice A n c, .slice B m d] H shB (fun r _ => r = decide (a = b)) := by
  refine con_of_vc (an := an71) (fn := Tryz.f71) mix tabOK Tryz.func71 (by kernel_rfl) (extra := 0) ?_
  rw [vc71]
  have hl := hs.len; have hm := ht.len; have hb := hs.bn
  refine ⟨fun hne => ?_, fun he => ?_⟩
  · have : ¬ a = b := fun e => by subst e; simp at hne; omega
    simp [this]
  have hnm' : (n : Int) = m := by simpa using he
  have hnm : n = m := by omega
  refine ⟨fun i _ => 0 ≤ i ∧ i ≤ n ∧ (a = b ↔ a.drop i.toNat = b.drop i.toNat), fun i => n - i.toNat, ⟨by omega, by omega, by simp⟩, ?_⟩
  rintro H2 hle i ⟨h0, h1, h2⟩
  refine ⟨fun hlt => ?_, fun hge => ?_⟩
  · have hlt := of_decide_eq_true hlt
    obtain ⟨hi, hA, _, hc, ⟨rfl, q⟩⟩ := hs.at hle h0 hlt
    obtain ⟨hj, hB, _, hd, ⟨rfl, q'⟩⟩ := ht.at hle h0 (by omega)
    rw [drop_at h0 hi, drop_at h0 hj] at h2
    refine ⟨hA, h0, hlt, _, hc, hB, h0, by omega, _, hd, fun hne => ?_, fun he => ⟨by simp only [rng]; omega, ⟨by omega, by omega, ?_⟩, by dsimp only; omega⟩⟩
    · have : ¬ a = b := fun e => by
        have := h2.1 e
        simp only [List.cons.injEq] at this
        simp [this.1] at hne
      simp [this]
    · have he : a[i.toNat] = b[i.toNat] := by simpa using he
      rw [h2, he]; simp
  · have hge := of_decide_eq_false hge
    rw [drop_end hge hl, List.drop_eq_nil_of_le (by omega)] at h2
    simp [h2.2 rfl]
theorem set_last {T : Type} {l : List T} {x : T} (h : 0 < l.length) : l.set (l.length - 1) x = l.dropLast ++ [x] := by
  rw [List.set_eq_take_append_cons_drop, if_pos (by omega), List.dropLast_eq_take, show l.length - 1 + 1 = l.length by omega, List.drop_length]
def extV (l : List Vio) (v : Vio) : List Vio := match l.getLast? with
  | some u => if u.p.hi = v.p.lo ∧ u.ids = v.ids then l.dropLast ++ [⟨⟨u.p.lo, v.p.hi⟩, u.ids⟩] else l ++ [v]
  | none => l ++ [v]
theorem idxOf_spec {T : Type} (p : T → Bool) : ∀ (l : List T) (i : Int), 0 ≤ i → (idxOf p i l = -1 ∧ l.filter (fun x => !p x) = l) ∨ (∃ k : Nat, idxOf p i l = i + k ∧ k < l.length ∧ (l.take (k + 1)).filter (fun x => !p x) = l.take k)
  | [], i, h => .inl ⟨rfl, rfl⟩
  | x :: r, i, h => by
    by_cases hp : p x = true
    · exact .inr ⟨0, by simp [idxOf, hp], by simp, by simp [hp]⟩
    · have hp' : p x = false := by simpa using hp
      rcases idxOf_spec p r (i + 1) (by omega) with ⟨h1, h2⟩ | ⟨k, h1, h2, h3⟩
      · exact .inl ⟨by simp [idxOf, hp', h1], by simp [hp', h2]⟩
      · refine .inr ⟨k + 1, by simp [idxOf, hp', h1]; omega, by simp; omega, ?_⟩
        rw [List.take_succ_cons, List.filter_cons, if_pos (by simp [hp']), h3, List.take_succ_cons]
theorem Row.take {T : Type} [Rep T] {H : Heap} : ∀ {xs : List Value} {l : List T} (i : Nat), Row H xs l → Row H (xs.take (i * Rep.sz T)) (l.take i)
  | xs, [], i, h => by rw [show xs = [] from h]; simp [Row]
  | xs, t :: l, 0, h => by simp [Row]
  | xs, t :: l, i + 1, ⟨vs, ys, h1, h2, h3⟩ => by
    have hl := Rep.len h2
    refine ⟨vs, ys.take (i * Rep.sz T), ?_, h2, Row.take i h3⟩
    rw [h1, Nat.succ_mul, List.take_append, List.take_of_length_le (by omega), hl, Nat.add_sub_cancel]
/- the head of a row behind which cells were written -/
theorem cut_splice {T : Type} [Rep T] {H : Heap} {ys Z : List Value} {cur : List T} {n i : Nat} (hr : Row H ys cur) (hl : cur.length = n) (hi : i ≤ n) (hZ : Z.length = (n - i) * Rep.sz T) :
    Row H (List.take (List.length (splice ys (i * Rep.sz T) Z) / n * (i - 0)) (splice ys (i * Rep.sz T) Z)) (cur.take i) := by
  have hy := hr.length
  rw [hl] at hy
  have hle : i * Rep.sz T ≤ n * Rep.sz T := Nat.mul_le_mul_right _ hi
  have hsub : (n - i) * Rep.sz T = n * Rep.sz T - i * Rep.sz T := Nat.sub_mul _ _ _
  have hlen : (splice ys (i * Rep.sz T) Z).length = n * Rep.sz T := by
    simp only [splice, List.length_append, List.length_take, List.length_drop]; omega
  have hk : (splice ys (i * Rep.sz T) Z).length / n * (i - 0) = i * Rep.sz T := by
    rw [hlen, Nat.sub_zero]
    rcases Nat.eq_zero_or_pos n with h0 | h0
    · have : i = 0 := by omega
      subst this; simp
    · rw [Nat.mul_div_cancel_left _ h0, Nat.mul_comm]
  rw [hk]
  have : List.take (i * Rep.sz T) (splice ys (i * Rep.sz T) Z) = ys.take (i * Rep.sz T) := by
    simp only [splice]
    rw [List.append_assoc, List.take_append_of_le_length (by rw [List.length_take]; omega), List.take_take, Nat.min_self]
  rw [this]
  exact hr.take i
theorem filter_take_succ {T : Type} (p : T → Bool) {l : List T} {j : Nat} (hj : j < l.length) : (l.take (j + 1)).filter (fun x => !p x) = (l.take j).filter (fun x => !p x) ++ (if p l[j] then [] else [l[j]]) := by
  rw [List.take_succ_eq_append_getElem hj, List.filter_append]
  by_cases h : p l[j] <;> simp [h]
end Go.Vc
/- Violations of one key: the program's sweep. -/
namespace Go.Vc
open Go Go.Proofs Go.Shelf
theorem extV_len (l : List Vio) (v : Vio) : (extV l v).length ≤ l.length + 1 := by
  unfold extV
  split
  · split
    · simp only [List.length_append, List.length_dropLast, List.length_cons, List.length_nil]; omega
    · simp
  · simp
end Go.Vc
/- keys.Violations and keys.Holds (fewer than twenty tuples). -/
namespace Go.Vc
open Go Go.Proofs Go.Shelf
def tlins (l : List Tup) : List Int := l.flatMap fun t => t.lin
end Go.Vc
/- Plain laws of the violations of one key: in ascending order, separated or with other IDs. -/
namespace Go.Vc
open Go
def apartV (u v : Vio) : Prop := u.p.hi ≤ v.p.lo ∧ ¬ (u.p.hi = v.p.lo ∧ u.ids = v.ids)
def chainV : List Vio → Prop
  | [] => True
  | [_] => True
  | u :: v :: r => apartV u v ∧ chainV (v :: r)
theorem chainV_snoc : ∀ (l : List Vio) (v : Vio), chainV (l ++ [v]) ↔ chainV l ∧ ∀ u, l.getLast? = some u → apartV u v
  | [], v => by simp [chainV]
  | [u], v => by simp [chainV]
  | u :: w :: r, v => by
    have ih := chainV_snoc (w :: r) v
    simp only [List.cons_append, chainV] at ih ⊢
    rw [ih, and_assoc]
    simp [List.getLast?_cons_cons]
theorem extV_chain {l : List Vio} {v : Vio} (hc : chainV l) (hl : ∀ u, l.getLast? = some u → u.p.hi ≤ v.p.lo) : chainV (extV l v) ∧ ∀ u, (extV l v).getLast? = some u → u.p.hi = v.p.hi := by
  unfold extV
  split
  · rename_i u hu
    obtain ⟨l', rfl⟩ : ∃ l', l = l' ++ [u] := by
      rw [List.getLast?_eq_some_iff] at hu
      exact hu
    rw [List.dropLast_concat]
    obtain ⟨h1, h2⟩ := (chainV_snoc l' u).1 hc
    split
    · rename_i h
      refine ⟨(chainV_snoc _ _).2 ⟨h1, fun w hw => ?_⟩, fun w hw => ?_⟩
      · have := h2 w hw
        exact this
      · simp at hw; subst hw; rfl
    · rename_i h
      refine ⟨(chainV_snoc _ _).2 ⟨hc, fun w hw => ?_⟩, fun w hw => ?_⟩
      · simp at hw; subst hw
        exact ⟨hl u (by simp), h⟩
      · simp at hw; subst hw; rfl
  · rename_i h
    refine ⟨(chainV_snoc _ _).2 ⟨hc, fun w hw => ?_⟩, fun w hw => ?_⟩
    · rw [h] at hw; cases hw
    · simp at hw; subst hw; rfl
end Go.Vc
/- Plain laws: dropping neighbours that are equal, out of an ascending list. -/
namespace Go.Vc
open Go
theorem snoc_ind {T : Type} {p : List T → Prop} (h0 : p []) (h1 : ∀ l x, p l → p (l ++ [x])) (l : List T) : p l := by
  have key : ∀ r : List T, p r.reverse := by
    intro r
    induction r with
    | nil => exact h0
    | cons x r ih => rw [List.reverse_cons]; exact h1 _ _ ih
  have := key l.reverse
  rwa [List.reverse_reverse] at this
theorem compact_last (l : List Int) : (Lib.compact l).getLast? = l.getLast? := by
  refine snoc_ind (p := fun l => (Lib.compact l).getLast? = l.getLast?) rfl (fun l x ih => ?_) l
  rw [compact_snoc]
  split
  · rename_i h
    rw [List.append_nil, ih, h]; simp
  · simp
theorem compact_mem (l : List Int) (y : Int) : y ∈ Lib.compact l ↔ y ∈ l := by
  refine snoc_ind (p := fun l => y ∈ Lib.compact l ↔ y ∈ l) (by simp [show Lib.compact ([] : List Int) = [] from rfl]) (fun l x ih => ?_) l
  rw [compact_snoc]
  split
  · rename_i h
    have hx : x ∈ l := List.mem_of_getLast? h
    rw [List.append_nil, ih]
    simp only [List.mem_append, List.mem_singleton]
    exact ⟨.inl, fun h => h.elim id (fun e => e ▸ hx)⟩
  · simp [ih]
theorem compact_asc (l : List Int) (h : l.Pairwise (fun a b => a ≤ b)) : (Lib.compact l).Pairwise (fun a b => a < b) := by
  revert h
  refine snoc_ind (p := fun l => l.Pairwise (fun a b => a ≤ b) → (Lib.compact l).Pairwise (fun a b => a < b)) (fun _ => by simp [show Lib.compact ([] : List Int) = [] from rfl]) (fun l x ih => ?_) l
  intro h
  obtain ⟨h1, -, h2⟩ := List.pairwise_append.1 h
  have h2 : ∀ a ∈ l, a ≤ x := fun a ha => h2 a ha x (by simp)
  rw [compact_snoc]
  split
  · rw [List.append_nil]; exact ih h1
  · rename_i hne
    refine List.pairwise_append.2 ⟨ih h1, by simp, fun a ha b hb => ?_⟩
    simp at hb; subst hb
    -- a is below the last, which is below x
    obtain ⟨z, hz⟩ : ∃ z, (Lib.compact l).getLast? = some z := by
      cases hl : (Lib.compact l).getLast? with
      | none => rw [List.getLast?_eq_none_iff] at hl; rw [hl] at ha; cases ha
      | some z => exact ⟨z, rfl⟩
    have hzl : l.getLast? = some z := by rw [← compact_last]; exact hz
    have hzx : z ≠ b := fun e => hne (by rw [hzl, e])
    have hz1 := h2 z (List.mem_of_getLast? hzl)
    obtain ⟨l', hl'⟩ := List.getLast?_eq_some_iff.1 hz
    have hp := ih h1
    rw [hl'] at hp ha
    rcases List.mem_append.1 ha with ha | ha
    · have := (List.pairwise_append.1 hp).2.2 a ha z (by simp)
      omega
    · simp at ha; subst ha; omega
theorem sortI_asc (l : List Int) : (sortI l).Pairwise (fun a b => a ≤ b) := by
  have h1 := List.pairwise_mergeSort (le := fun x y : Int => decide (x ≤ y)) (fun a b c h1 h2 => by simp only [decide_eq_true_eq] at *; omega) (fun a b => by simp only [Bool.or_eq_true, decide_eq_true_eq]; omega) l
  exact h1.imp fun h => by simpa using h
end Go.Vc
/- Plain laws: which days the violations of one key cover. -/
namespace Go.Vc
open Go
def inV (v : Vio) (d : Int) : Prop := v.p.lo ≤ d ∧ d < v.p.hi
end Go.Vc
/- Plain laws: the tuples that the sweep holds active are those that hold on the day. -/
namespace Go.Vc
open Go
theorem tw_mem {T : Type} {p : T → Bool} : ∀ {l : List T} {x : T}, x ∈ l.takeWhile p → p x = true
  | [], x, h => by cases h
  | y :: l, x, h => by
    rw [List.takeWhile_cons] at h
    split at h
    · rcases List.mem_cons.1 h with rfl | h
      · assumption
      · exact tw_mem h
    · cases h
end Go.Vc
/- Plain laws: the groups of equal key values; which days the violations of a key cover. -/
namespace Go.Vc
open Go
theorem cmpVs_zero {a b : List Val} : cmpVs a b = 0 ↔ a = b := ⟨fun h => cmpVs_ord.eq _ _ h, fun h => h ▸ cmpVs_ord.refl _⟩
end Go.Vc
/- The laws' data; the sanity check; the reference's key values. -/
namespace Go.Vc
open Go Go.Proofs Go.Shelf
abbrev shV : RSh := ⟨false, [(true, [.int .i64, .int .i64, .str])]⟩
def txt (r : Int) : ByteArray := if r = 0 then ⟨#[]⟩ else if r = 1 then ⟨#[97]⟩ else ⟨#[98, 39]⟩
def lv0 (x : Int) : Val := if x.tmod 7 = 6 then val0 else ⟨1, x.tmod 3 - 1, ⟨#[]⟩⟩
def lv1 (x : Int) : Val := if x.tmod 7 = 6 then val0 else ⟨2, 0, txt (x.tmod 3)⟩
theorem tmod3 {x : Int} (h : 0 ≤ x) : x.tmod 3 = 0 ∨ x.tmod 3 = 1 ∨ x.tmod 3 = 2 := by
  have h1 := Int.tmod_eq_emod_of_nonneg h (b := 3)
  omega
def an74 : Ann where
  res := fun _ => none
  lend := fun _ => false
  sch := fun _ => .done
  lt := fun _ => []
  tup := tups

theorem vc74 (P : Program) (H : Heap) (n : Int) (post : Int → Int → ByteArray → Heap → Prop) :
  vcFn P tab an74 Tryz.f74 [.int .i64 n] 0 H ⟨false, [(true, [.int .i64, .int .i64, .str])]⟩ post =
  (  post (1 : Int) n ⟨⟨[]⟩⟩ H) := by kernel_rfl
theorem law0_IntValue {n : Int} {H : Heap} : ConT Tryz.prog 74 [.int .i64 n] H shV (fun k m s _ => k = 1 ∧ m = n ∧ s = ⟨#[]⟩) := by
  refine con_of_vc (an := an74) (fn := Tryz.f74) mix tabOK Tryz.func74 (by kernel_rfl) (extra := 0) ?_
  rw [vc74]
  exact ⟨rfl, rfl, rfl⟩
def an41 : Ann where
  res := fun _ => none
  lend := fun _ => false
  sch := fun _ => .done
  lt := fun _ => []
  tup := tups

theorem vc41 (P : Program) (H : Heap) (col : Int) (x : Int) (post : Int → Int → ByteArray → Heap → Prop) :
  vcFn P tab an41 Tryz.f41 [.int .i64 col, .int .u16 x] 0 H ⟨false, [(true, [.int .i64, .int .i64, .str])]⟩ post =
  (  (7 : Int) ≠ (0 : Int) ∧ (decide (Int.tmod x (7 : Int) = (6 : Int)) = true → post (0 : Int) (0 : Int) ⟨⟨[]⟩⟩ H) ∧ (decide (Int.tmod x (7 : Int) = (6 : Int)) = false → (2 : Int) ≠ (0 : Int) ∧
  (decide (Int.tmod col (2 : Int) = (0 : Int)) = true → (3 : Int) ≠ (0 : Int) ∧ ∃ (e3 : Int), IntKind.wrap IntKind.i64 (Int.tmod x (3 : Int)) = e3 ∧ rng .i64 (e3 - (1 : Int)) ∧ ∃ (post4 : Int
  → Int → ByteArray → Heap → Prop), ConT P 74 [.int .i64 (e3 - (1 : Int))] H ⟨false, [(true, [.int .i64, .int .i64, .str])]⟩ post4 ∧ ∀ (H5 : Heap), Heap.le H H5 → ∀ (n7 n8 : Int) (s9 :
  ByteArray), post4 n7 n8 s9 H5 → post n7 n8 s9 H5) ∧ (decide (Int.tmod col (2 : Int) = (0 : Int)) = false → (3 : Int) ≠ (0 : Int) ∧ (0 : Int) ≤ Int.tmod x (3 : Int) ∧ Int.tmod x (3 : Int) <
  (↑3 : Int) ∧ ∃ (s12 : ByteArray), win [.string ⟨⟨[]⟩⟩, .string { data := ⟨[(97 : UInt8)]⟩ }, .string { data := ⟨[(98 : UInt8), (39 : UInt8)]⟩ }] (Int.toNat (Int.tmod x (3 : Int)) * 1) 1 =
  [.string s12] ∧ post (2 : Int) (0 : Int) s12 H))) := by kernel_rfl
theorem law0_Value0 {x : Int} {H : Heap} (hx : 0 ≤ x) : ConT Tryz.prog 41 [.int .i64 0, .int .u16 x] H shV (fun k n s _ => (⟨k, n, s⟩ : Val) = lv0 x) := by
  refine con_of_vc (an := an41) (fn := Tryz.f41) mix tabOK Tryz.func41 (by kernel_rfl) (extra := 0) ?_
  rw [vc41]
  refine ⟨by decide, fun h => ?_, fun h => ⟨by decide, fun _ => ⟨by decide, ?_⟩, fun h => absurd h (by decide)⟩⟩
  · have h := of_decide_eq_true h
    simp [lv0, h, val0]
  · have h := of_decide_eq_false h
    rcases tmod3 hx with e | e | e <;> rw [e] <;> refine ⟨_, rfl, by decide, _, law0_IntValue, ?_⟩ <;> rintro H5 _ _ _ _ ⟨rfl, rfl, rfl⟩ <;> simp only [lv0, if_neg h, e] <;> rfl
theorem law0_Value1 {x : Int} {H : Heap} (hx : 0 ≤ x) : ConT Tryz.prog 41 [.int .i64 1, .int .u16 x] H shV (fun k n s _ => (⟨k, n, s⟩ : Val) = lv1 x) := by
  refine con_of_vc (an := an41) (fn := Tryz.f41) mix tabOK Tryz.func41 (by kernel_rfl) (extra := 0) ?_
  rw [vc41]
  refine ⟨by decide, fun h => ?_, fun h => ⟨by decide, fun h => absurd h (by decide), fun _ => ⟨by decide, ?_⟩⟩⟩
  · have h := of_decide_eq_true h
    simp [lv1, h, val0]
  · have h := of_decide_eq_false h
    rcases tmod3 hx with e | e | e <;> rw [e] <;> refine ⟨by decide, by decide, _, rfl, ?_⟩ <;> simp only [lv1, if_neg h, e] <;> rfl
theorem val_eta {k n : Int} {s : ByteArray} {v : Val} (h : (⟨k, n, s⟩ : Val) = v) : k = v.kind ∧ n = v.n ∧ s = v.s := by subst h; exact ⟨rfl, rfl, rfl⟩
theorem lv0_ok {x : Int} (hx : 0 ≤ x) : rng .i64 (lv0 x).kind ∧ rng .i64 (lv0 x).n ∧ str (lv0 x).s := by
  unfold lv0
  split
  · exact ⟨by decide, by decide, by unfold str val0; decide⟩
  · refine ⟨(by decide : rng .i64 1), ?_, (by unfold str; decide : str ⟨#[]⟩)⟩
    rcases tmod3 hx with e | e | e <;> simp only [e] <;> decide
theorem lv1_ok {x : Int} (hx : 0 ≤ x) : rng .i64 (lv1 x).kind ∧ rng .i64 (lv1 x).n ∧ str (lv1 x).s := by
  unfold lv1
  split
  · exact ⟨by decide, by decide, by unfold str val0; decide⟩
  · refine ⟨(by decide : rng .i64 2), (by decide : rng .i64 0), ?_⟩
    rcases tmod3 hx with e | e | e <;> simp only [e] <;> unfold str txt <;> decide
def an20 : Ann where
  res := fun _ => none
  lend := fun _ => false
  sch := fun _ => .done
  lt := fun _ => []
  tup := tups

theorem vc20 (P : Program) (H : Heap) (x : Int) (y : Int) (post : Option Addr → Nat → Nat → Heap → Prop) :
  vcFn P tab an20 Tryz.f20 [.int .u16 x, .int .u16 y] 0 H ⟨false, [(false, [.sl])]⟩ post =
  (  ∃ (post0 : Int → Int → ByteArray → Heap → Prop), ConT P 41 [.int .i64 (0 : Int), .int .u16 x] H ⟨false, [(true, [.int .i64, .int .i64, .str])]⟩ post0 ∧ ∀ (H1 : Heap), Heap.le H H1 → ∀ (n3
  n4 : Int) (s5 : ByteArray), post0 n3 n4 s5 H1 → ∃ (post7 : Int → Int → ByteArray → Heap → Prop), ConT P 41 [.int .i64 (1 : Int), .int .u16 y] H1 ⟨false, [(true, [.int .i64, .int .i64,
  .str])]⟩ post7 ∧ ∀ (H8 : Heap), Heap.le H1 H8 → ∀ (n10 n11 : Int) (s12 : ByteArray), post7 n10 n11 s12 H8 → ∀ (A14 : Option Addr) (c15 : Nat) (H16 : Heap), Heap.le H8 H16 → Cells H16 A14 0
  [.int .i64 n3, .int .i64 n4, .string s5, .int .i64 n10, .int .i64 n11, .string s12] → 2 ≤ c15 → post A14 2 c15 H16) := by kernel_rfl
theorem law0_Vals {x y : Int} {H : Heap} (hx : 0 ≤ x) (hy : 0 ≤ y) : ConT Tryz.prog 20 [.int .u16 x, .int .u16 y] H shS (fun A n c H' => Sl H' A n c [lv0 x, lv1 y]) := by
  refine con_of_vc (an := an20) (fn := Tryz.f20) mix tabOK Tryz.func20 (by kernel_rfl) (extra := 0) ?_
  rw [vc20]
  refine ⟨_, law0_Value0 hx, ?_⟩
  intro H1 l1 k n s h
  obtain ⟨rfl, rfl, rfl⟩ := val_eta h
  refine ⟨_, law0_Value1 hy, ?_⟩
  intro H2 l2 k n s h
  obtain ⟨rfl, rfl, rfl⟩ := val_eta h
  intro A c H3 l3 hc hn
  exact Row.sl (H := H3) (T := Val) (l := [lv0 x, lv1 y]) ⟨[_, _, _], [_, _, _], rfl, ⟨rfl, lv0_ok hx⟩, [_, _, _], [], rfl, ⟨rfl, lv1_ok hy⟩, rfl⟩ (hle_refl H3) hc rfl hn (by decide) (by decide)
end Go.Vc
/- The laws' drawn tuples; comparing lists of ints. -/
namespace Go.Vc
open Go Go.Proofs Go.Shelf
theorem wrap_i64 {e : Int} (h0 : 0 ≤ e) (h1 : e < 100000) : IntKind.wrap .i64 e = e := by
  simp [IntKind.wrap, IntKind.bits, IntKind.signed]; omega
theorem tmod_bd {x : Int} (h : 0 ≤ x) {m : Int} (hm : 0 < m) : 0 ≤ x.tmod m ∧ x.tmod m < m := by
  rw [Int.tmod_eq_emod_of_nonneg h]
  exact ⟨Int.emod_nonneg _ (by omega), Int.emod_lt_of_pos _ hm⟩
def lPer (a b : Int) : Per := ⟨a.tmod 40, if b.tmod 11 = 0 then 1000000 else a.tmod 40 + 1 + b.tmod 15⟩
theorem lPer_ok {a b : Int} (ha : 0 ≤ a) (hb : 0 ≤ b) : 0 ≤ (lPer a b).lo ∧ (lPer a b).lo < 40 ∧ (lPer a b).lo < (lPer a b).hi ∧ (lPer a b).hi ≤ 1000000 := by
  have h1 := tmod_bd ha (m := 40) (by decide)
  have h2 := tmod_bd hb (m := 15) (by decide)
  unfold lPer
  split <;> simp only <;> omega
def an73 : Ann where
  res := fun _ => none
  lend := fun _ => false
  sch := fun _ => .done
  lt := fun _ => []
  tup := tups

theorem vc73 (P : Program) (H : Heap) (from0 : Int) (length : Int) (post : Int → Int → Heap → Prop) :
  vcFn P tab an73 Tryz.f73 [.int .u16 from0, .int .u16 length] 0 H ⟨false, [(true, [.int .i64, .int .i64])]⟩ post =
  (  (40 : Int) ≠ (0 : Int) ∧ ∃ (e0 : Int), IntKind.wrap IntKind.i64 (Int.tmod from0 (40 : Int)) = e0 ∧ (11 : Int) ≠ (0 : Int) ∧ (decide (Int.tmod length (11 : Int) = (0 : Int)) = true → post e0
  (1000000 : Int) H) ∧ (decide (Int.tmod length (11 : Int) = (0 : Int)) = false → rng .i64 (e0 + (1 : Int)) ∧ (15 : Int) ≠ (0 : Int) ∧ ∃ (e3 : Int), IntKind.wrap IntKind.i64 (Int.tmod length
  (15 : Int)) = e3 ∧ rng .i64 (e0 + (1 : Int) + e3) ∧ post e0 (e0 + (1 : Int) + e3) H)) := by kernel_rfl
theorem law0_Period {a b : Int} {H : Heap} (ha : 0 ≤ a) (hb : 0 ≤ b) : ConT Tryz.prog 73 [.int .u16 a, .int .u16 b] H ⟨false, [(true, [.int .i64, .int .i64])]⟩ (fun x y _ => (⟨x, y⟩ : Per) = lPer a b) := by
  refine con_of_vc (an := an73) (fn := Tryz.f73) mix tabOK Tryz.func73 (by kernel_rfl) (extra := 0) ?_
  rw [vc73]
  have h1 := tmod_bd ha (m := 40) (by decide)
  have h2 := tmod_bd hb (m := 15) (by decide)
  refine ⟨by decide, _, wrap_i64 h1.1 (by omega), by decide, fun h => ?_, fun h => ⟨by simp only [rng]; omega, by decide, _, wrap_i64 h2.1 (by omega), by simp only [rng]; omega, ?_⟩⟩
  · have h := of_decide_eq_true h
    simp [lPer, h]
  · have h := of_decide_eq_false h
    simp [lPer, h]
structure U5 where
  a : Int
  b : Int
  c : Int
  d : Int
  e : Int
instance : Rep U5 where
  sz := 5
  byt := 10
  rel _ vs v := vs = [.int .u16 v.a, .int .u16 v.b, .int .u16 v.c, .int .u16 v.d, .int .u16 v.e] ∧ rng .u16 v.a ∧ rng .u16 v.b ∧ rng .u16 v.c ∧ rng .u16 v.d ∧ rng .u16 v.e
  mono _ h := h
  len h := by simp [h.1]
  pos := by decide
  bpos := by decide
  one h := by rw [h.1]; simp [Value.oneCell']
def lTup (x : U5) : Tup := ⟨[lv0 x.c, lv1 x.d], lPer x.a x.b, [1 + x.e.tmod 5]⟩
end Go.Vc
/- The laws' drawn tuples, all of them. -/
namespace Go.Vc
open Go Go.Proofs Go.Shelf
abbrev shT : RSh := ⟨false, [(true, [.sl, .int .i64, .int .i64, .sl])]⟩
def an40 : Ann where
  res := fun _ => none
  lend := fun _ => false
  sch := fun | 1 => (tk [0, 1, 2, 3, 5, 6, 7, 8, 10, 11, 12, 13, 14] (.alt 4 (.alt 9 (.alt 15 (tk [16] (.alt 17 .done .fin)) .fin) (.alt 15 (.alt 9 (tk [16] (.alt 17 .done .fin)) .fin) .fin)) (.alt 15 (.alt 4 (.alt 9 (tk [16] (.alt 17 .done .fin)) .fin) .fin) .fin))) | _ => .done
  lt := fun _ => []
  tup := tups

theorem vc40 (P : Program) (H : Heap) (x0 : Int) (x1 : Int) (x2 : Int) (x3 : Int) (x4 : Int) (post : Option Addr → Nat → Nat → Int → Int → Option Addr → Nat → Nat → Heap → Prop) :
  vcFn P tab an40 Tryz.f40 [.agg #[.int .u16 x0, .int .u16 x1, .int .u16 x2, .int .u16 x3, .int .u16 x4]] 0 H ⟨false, [(true, [.sl, .int .i64, .int .i64, .sl])]⟩ post =
  (  (0 : Int) ≤ (2 : Int) ∧ (2 : Int) < (↑5 : Int) ∧ ∃ (n0 : Int), win [.int .u16 x0, .int .u16 x1, .int .u16 x2, .int .u16 x3, .int .u16 x4] (Int.toNat (2 : Int) * 1) 1 = [.int .u16 n0] ∧ (0 :
  Int) ≤ (3 : Int) ∧ (3 : Int) < (↑5 : Int) ∧ ∃ (n1 : Int), win [.int .u16 x0, .int .u16 x1, .int .u16 x2, .int .u16 x3, .int .u16 x4] (Int.toNat (3 : Int) * 1) 1 = [.int .u16 n1] ∧ (0 : Int)
  ≤ (0 : Int) ∧ (0 : Int) < (↑5 : Int) ∧ ∃ (n2 : Int), win [.int .u16 x0, .int .u16 x1, .int .u16 x2, .int .u16 x3, .int .u16 x4] (Int.toNat (0 : Int) * 1) 1 = [.int .u16 n2] ∧ (0 : Int) ≤ (1
  : Int) ∧ (1 : Int) < (↑5 : Int) ∧ ∃ (n3 : Int), win [.int .u16 x0, .int .u16 x1, .int .u16 x2, .int .u16 x3, .int .u16 x4] (Int.toNat (1 : Int) * 1) 1 = [.int .u16 n3] ∧ (0 : Int) ≤ (4 :
  Int) ∧ (4 : Int) < (↑5 : Int) ∧ ∃ (n4 : Int), win [.int .u16 x0, .int .u16 x1, .int .u16 x2, .int .u16 x3, .int .u16 x4] (Int.toNat (4 : Int) * 1) 1 = [.int .u16 n4] ∧ (5 : Int) ≠ (0 : Int)
  ∧ ∃ (e5 : Int), IntKind.wrap IntKind.i64 (Int.tmod n4 (5 : Int)) = e5 ∧ rng .i64 ((1 : Int) + e5) ∧ (∃ (post6 : Option Addr → Nat → Nat → Heap → Prop), ConT P 20 [.int .u16 n0, .int .u16
  n1] H ⟨false, [(false, [.sl])]⟩ post6 ∧ ∀ (H7 : Heap), Heap.le H H7 → ∀ (A9 : Option Addr) (n10 c11 : Nat), post6 A9 n10 c11 H7 → (∃ (post13 : Int → Int → Heap → Prop), ConT P 73 [.int .u16
  n2, .int .u16 n3] H7 ⟨false, [(true, [.int .i64, .int .i64])]⟩ post13 ∧ ∀ (H14 : Heap), Heap.le H7 H14 → ∀ (n16 n17 : Int), post13 n16 n17 H14 → ∀ (A19 : Option Addr) (c20 : Nat) (H21 :
  Heap), Heap.le H14 H21 → Cells H21 A19 0 [.int .i64 ((1 : Int) + e5)] → 1 ≤ c20 → post A9 n10 c11 n16 n17 A19 1 c20 H21) ∧ ∃ (post25 : Int → Int → Heap → Prop), ConT P 73 [.int .u16 n2,
  .int .u16 n3] H7 ⟨false, [(true, [.int .i64, .int .i64])]⟩ post25 ∧ ∀ (H26 : Heap), Heap.le H7 H26 → ∀ (n28 n29 : Int), post25 n28 n29 H26 → ∀ (A31 : Option Addr) (c32 : Nat) (H33 : Heap),
  Heap.le H26 H33 → Cells H33 A31 0 [.int .i64 ((1 : Int) + e5)] → 1 ≤ c32 → post A9 n10 c11 n28 n29 A31 1 c32 H33) ∧ ∃ (post37 : Option Addr → Nat → Nat → Heap → Prop), ConT P 20 [.int .u16
  n0, .int .u16 n1] H ⟨false, [(false, [.sl])]⟩ post37 ∧ ∀ (H38 : Heap), Heap.le H H38 → ∀ (A40 : Option Addr) (n41 c42 : Nat), post37 A40 n41 c42 H38 → ∃ (post44 : Int → Int → Heap → Prop),
  ConT P 73 [.int .u16 n2, .int .u16 n3] H38 ⟨false, [(true, [.int .i64, .int .i64])]⟩ post44 ∧ ∀ (H45 : Heap), Heap.le H38 H45 → ∀ (n47 n48 : Int), post44 n47 n48 H45 → ∀ (A50 : Option Addr)
  (c51 : Nat) (H52 : Heap), Heap.le H45 H52 → Cells H52 A50 0 [.int .i64 ((1 : Int) + e5)] → 1 ≤ c51 → post A40 n41 c42 n47 n48 A50 1 c51 H52) := by kernel_rfl
theorem law0_Tuple {x : U5} {H : Heap} (ha : 0 ≤ x.a) (hb : 0 ≤ x.b) (hc : 0 ≤ x.c) (hd : 0 ≤ x.d) (he : 0 ≤ x.e) :
    ConT Tryz.prog 40 [.agg ⟨[.int .u16 x.a, .int .u16 x.b, .int .u16 x.c, .int .u16 x.d, .int .u16 x.e]⟩] H shT (fun A n c lo hi B m d H' => Rep.rel H' [.slice A n c, .int .i64 lo, .int .i64 hi, .slice B m d] (lTup x)) := by
  refine con_of_vc (an := an40) (fn := Tryz.f40) mix tabOK Tryz.func40 (by kernel_rfl) (extra := 0) ?_
  rw [vc40]
  have h5 := tmod_bd he (m := 5) (by decide)
  have hp := lPer_ok ha hb
  refine ⟨by decide, by decide, x.c, rfl, by decide, by decide, x.d, rfl, by decide, by decide, x.a, rfl, by decide, by decide, x.b, rfl, by decide, by decide, x.e, rfl, by decide, _, wrap_i64 h5.1 (by omega), by simp only [rng]; omega, ?_⟩
  have fin : ∀ {H1 H2 H3 : Heap} {A B : Option Addr} {n c d : Nat} {lo hi : Int}, Sl H1 A n c [lv0 x.c, lv1 x.d] → Heap.le H1 H2 → (⟨lo, hi⟩ : Per) = lPer x.a x.b → Heap.le H2 H3 → Cells H3 B 0 [.int .i64 (1 + x.e.tmod 5)] → 1 ≤ d →
      Rep.rel H3 [Value.slice A n c, .int .i64 lo, .int .i64 hi, .slice B 1 d] (lTup x) := by
    intro H1 H2 H3 A B n c d lo hi h1 l2 hq l3 hcc hn
    have e1 : lo = (lPer x.a x.b).lo := congrArg Per.lo hq
    have e2 : hi = (lPer x.a x.b).hi := congrArg Per.hi hq
    subst e1 e2
    refine ⟨_, _, _, _, _, _, rfl, h1.mono (hle_trans l2 l3), by simp only [rng, lTup]; omega, by simp only [rng, lTup]; omega, ?_⟩
    exact Row.sl (H := H3) (T := Int) (l := [1 + x.e.tmod 5]) ⟨[_], [], rfl, ⟨rfl, by simp only [rng]; omega⟩, rfl⟩ (hle_refl _) hcc rfl hn (by decide) (by decide)
  have per : ∀ {H1 : Heap} {A : Option Addr} {n c : Nat}, Sl H1 A n c [lv0 x.c, lv1 x.d] → ∃ (post13 : Int → Int → Heap → Prop), ConT Tryz.prog 73 [.int .u16 x.a, .int .u16 x.b] H1 ⟨false, [(true, [.int .i64, .int .i64])]⟩ post13 ∧ ∀ (H14 : Heap), Heap.le H1 H14 → ∀ (n16 n17 : Int), post13 n16 n17 H14 → ∀ (A19 : Option Addr) (c20 : Nat) (H21 : Heap), Heap.le H14 H21 → Cells H21 A19 0 [.int .i64 (1 + x.e.tmod 5)] → 1 ≤ c20 →
      Rep.rel H21 [Value.slice A n c, .int .i64 n16, .int .i64 n17, .slice A19 1 c20] (lTup x) := by
    intro H1 A n c h1
    exact ⟨_, law0_Period ha hb, fun H14 l14 n16 n17 hq A19 c20 H21 l21 hcc hn => fin h1 l14 hq l21 hcc hn⟩
  exact ⟨⟨_, law0_Vals hc hd, fun H7 l7 A9 n10 c11 h9 => ⟨per h9, per h9⟩⟩, _, law0_Vals hc hd, fun H7 l7 A9 n10 c11 h9 => per h9⟩
def lTups (l : List U5) (most : Nat) : List Tup := (l.take most).map lTup
end Go.Vc
/- KeysApart: the law's text. -/
namespace Go.Vc
open Go Go.Proofs Go.Shelf
end Go.Vc
/- Rows: comparing, copying, sorting; the rows of a day. -/
namespace Go.Vc
open Go Go.Proofs Go.Shelf
def an103 : Ann where
  res := fun _ => none
  lend := fun _ => false
  sch := fun _ => .done
  lt := fun _ => []
  tup := tups

theorem vc103 (P : Program) (H : Heap) (sA : Option Addr) (sN sC : Nat) (post : Option Addr → Nat → Nat → Heap → Prop) :
  vcFn P tab an103 Tryz.f103 [.slice sA sN sC] 0 H ⟨false, [(false, [.sl])]⟩ post =
  (  (Option.isNone sA = true → post none 0 0 H) ∧ (Option.isNone sA = false → ∃ (ys2 : List Value), Cells H sA 0 ys2 ∧ List.length ys2 = sN * 3 ∧ (0 + sN) * 32 ≤ 140737488355328 ∧ ∀ (A3 :
  Option Addr) (c4 : Nat) (H5 : Heap), Heap.le H H5 → Cells H5 A3 0 ([] ++ ys2) → 0 + sN ≤ c4 → post A3 (0 + sN) c4 H5)) := by kernel_rfl
theorem Clone_Val {H : Heap} {A : Option Addr} {n c : Nat} {l : List Val} (hs : Sl H A n c l) :
    ConT Tryz.prog 103 [.slice A n c] H shS (fun A' n' c' H' => Sl H' A' n' c' l) := by
  refine con_of_vc (an := an103) (fn := Tryz.f103) mix tabOK Tryz.func103 (by kernel_rfl) (extra := 0) ?_
  rw [vc103]
  refine ⟨fun hA => ?_, fun hA => ?_⟩
  · have : n = 0 := by
      rcases Nat.eq_zero_or_pos n with h | h
      · exact h
      · obtain ⟨b, o, e⟩ := hs.someA h; simp [e] at hA
    subst this
    rw [List.eq_nil_of_length_eq_zero hs.len]; exact Sl.nil
  · obtain ⟨ys, h1, h2⟩ := hs.row
    refine ⟨ys, h1, by rw [h2.length, hs.len]; rfl, by have := hs.bnd; rw [Nat.zero_add]; exact this, fun A' c' H' hle hc hn => ?_⟩
    rw [Nat.zero_add] at hn ⊢
    exact h2.sl hle (by simpa using hc) hs.len hn hs.bnd hs.bn
def an72 : Ann where
  res := fun _ => none
  lend := fun _ => false
  sch := fun _ => .done
  lt := fun _ => []
  tup := tups

theorem vc72 (P : Program) (H : Heap) (sA : Option Addr) (sN sC : Nat) (post : Option Addr → Nat → Nat → Heap → Prop) :
  vcFn P tab an72 Tryz.f72 [.slice sA sN sC] 0 H ⟨false, [(false, [.sl])]⟩ post =
  (  (Option.isNone sA = true → post none 0 0 H) ∧ (Option.isNone sA = false → ∃ (ys2 : List Value), Cells H sA 0 ys2 ∧ List.length ys2 = sN * 1 ∧ (0 + sN) * 8 ≤ 140737488355328 ∧ ∀ (A3 : Option
  Addr) (c4 : Nat) (H5 : Heap), Heap.le H H5 → Cells H5 A3 0 ([] ++ ys2) → 0 + sN ≤ c4 → post A3 (0 + sN) c4 H5)) := by kernel_rfl
theorem Clone_Int {H : Heap} {A : Option Addr} {n c : Nat} {l : List Int} (hs : Sl H A n c l) :
    ConT Tryz.prog 72 [.slice A n c] H shS (fun A' n' c' H' => Sl H' A' n' c' l) := by
  refine con_of_vc (an := an72) (fn := Tryz.f72) mix tabOK Tryz.func72 (by kernel_rfl) (extra := 0) ?_
  rw [vc72]
  refine ⟨fun hA => ?_, fun hA => ?_⟩
  · have : n = 0 := by
      rcases Nat.eq_zero_or_pos n with h | h
      · exact h
      · obtain ⟨b, o, e⟩ := hs.someA h; simp [e] at hA
    subst this
    rw [List.eq_nil_of_length_eq_zero hs.len]; exact Sl.nil
  · obtain ⟨ys, h1, h2⟩ := hs.row
    refine ⟨ys, h1, by rw [h2.length, hs.len]; rfl, by have := hs.bnd; rw [Nat.zero_add]; exact this, fun A' c' H' hle hc hn => ?_⟩
    rw [Nat.zero_add] at hn ⊢
    exact h2.sl hle (by simpa using hc) hs.len hn hs.bnd hs.bn
def an75 : Ann where
  res := fun _ => none
  lend := fun _ => false
  sch := fun | 1 => (tk [0, 1, 3, 4] (.alt 2 (.alt 5 (tk [6] (.alt 7 .done .fin)) .fin) .fin)) | _ => .done
  lt := fun _ => []
  tup := tups

theorem vc75 (P : Program) (H : Heap) (rValsA : Option Addr) (rValsN rValsC : Nat) (rLineageA : Option Addr) (rLineageN rLineageC : Nat) (post : Option Addr → Nat → Nat → Option Addr → Nat → Nat → Heap → Prop) :
  vcFn P tab an75 Tryz.f75 [.agg #[.slice rValsA rValsN rValsC, .slice rLineageA rLineageN rLineageC]] 0 H ⟨false, [(true, [.sl, .sl])]⟩ post =
  (  ∃ (post0 : Option Addr → Nat → Nat → Heap → Prop), ConT P 103 [.slice rValsA rValsN rValsC] H ⟨false, [(false, [.sl])]⟩ post0 ∧ ∀ (H1 : Heap), Heap.le H H1 → ∀ (A3 : Option Addr) (n4 c5 :
  Nat), post0 A3 n4 c5 H1 → ∃ (post7 : Option Addr → Nat → Nat → Heap → Prop), ConT P 72 [.slice rLineageA rLineageN rLineageC] H1 ⟨false, [(false, [.sl])]⟩ post7 ∧ ∀ (H8 : Heap), Heap.le H1
  H8 → ∀ (A10 : Option Addr) (n11 c12 : Nat), post7 A10 n11 c12 H8 → post A3 n4 c5 A10 n11 c12 H8) := by kernel_rfl
theorem bag_Clone {H : Heap} {A B : Option Addr} {n c m d : Nat} {r : Rw} (h1 : Sl H A n c r.vals) (h2 : Sl H B m d r.lin) :
    ConT Tryz.prog 75 [.agg ⟨[.slice A n c, .slice B m d]⟩] H ⟨false, [(true, [.sl, .sl])]⟩ (fun A' n' c' B' m' d' H' => Rep.rel H' [.slice A' n' c', .slice B' m' d'] r) := by
  refine con_of_vc (an := an75) (fn := Tryz.f75) mix tabOK Tryz.func75 (by kernel_rfl) (extra := 0) ?_
  rw [vc75]
  refine ⟨_, Clone_Val h1, fun H1 l1 A1 n1 c1 q1 => ⟨_, Clone_Int (h2.mono l1), fun H2 l2 A2 n2 c2 q2 => ?_⟩⟩
  exact ⟨_, _, _, _, _, _, rfl, q1.mono l2, q2⟩
def an43 : Ann where
  res := fun _ => none
  lend := fun _ => false
  sch := fun _ => .done
  lt := fun _ => []
  tup := tups

theorem vc43 (P : Program) (H : Heap) (tValsA : Option Addr) (tValsN tValsC : Nat) (tValidFrom : Int) (tValidTo : Int) (tLineageA : Option Addr) (tLineageN tLineageC : Nat) (post : Option Addr → Nat → Nat → Option Addr → Nat → Nat → Heap → Prop) :
  vcFn P tab an43 Tryz.f43 [.agg #[.slice tValsA tValsN tValsC, .int .i64 tValidFrom, .int .i64 tValidTo, .slice tLineageA tLineageN tLineageC]] 0 H ⟨false, [(true, [.sl, .sl])]⟩ post =
  (  post tValsA tValsN tValsC tLineageA tLineageN tLineageC H) := by kernel_rfl
theorem tuple_Row {H : Heap} {A B : Option Addr} {n c m d : Nat} {a b : Int} : ConT Tryz.prog 43 [.agg ⟨[.slice A n c, .int .i64 a, .int .i64 b, .slice B m d]⟩] H ⟨false, [(true, [.sl, .sl])]⟩ (fun A' n' c' B' m' d' _ => A' = A ∧ n' = n ∧ c' = c ∧ B' = B ∧ m' = m ∧ d' = d) := by
  refine con_of_vc (an := an43) (fn := Tryz.f43) mix tabOK Tryz.func43 (by kernel_rfl) (extra := 0) ?_
  rw [vc43]
  exact ⟨rfl, rfl, rfl, rfl, rfl, rfl⟩
end Go.Vc
/- The laws' column lists; the laws' tuples as a public slice. -/
namespace Go.Vc
open Go Go.Proofs Go.Shelf
def an17 : Ann where
  res := fun _ => none
  lend := fun _ => false
  sch := fun _ => .done
  lt := fun | 3 => [.slot 5 false [.row 27 57], .slot 6 false [.int .i64]] | _ => []
  tup := tups

theorem vc17 (P : Program) (H : Heap) (lA : Option Addr) (lN lC : Nat) (most : Int) (post : Option Addr → Nat → Nat → Heap → Prop) :
  vcFn P tab an17 Tryz.f17 [.slice lA lN lC, .int .i64 most] 1 H ⟨false, [(false, [.sl])]⟩ post =
  (  ∃ (inv0 : Nat → List Value → Int → Heap → Prop), ∃ (m1 : Nat → List Value → Int → Nat), inv0 0 [] (0 : Int) H ∧ ∀ (H2 : Heap), Heap.le H H2 → ∀ (n4 : Nat) (xs5 : List Value) (n6 : Int),
  inv0 n4 xs5 n6 H2 → (decide (n6 < (↑lN : Int)) = true → (decide (n6 < most) = true → someA lA ∧ (0 : Int) ≤ n6 ∧ n6 < (↑lN : Int) ∧ ∃ (n10 : Int), ∃ (n11 : Int), ∃ (n12 : Int), ∃ (n13 :
  Int), ∃ (n14 : Int), Cells H2 lA (Int.toNat n6 * 5) [.int .u16 n10, .int .u16 n11, .int .u16 n12, .int .u16 n13, .int .u16 n14] ∧ ∃ (post15 : Option Addr → Nat → Nat → Int → Int → Option
  Addr → Nat → Nat → Heap → Prop), ConT P 40 [.agg ⟨[.int .u16 n10, .int .u16 n11, .int .u16 n12, .int .u16 n13, .int .u16 n14]⟩] H2 ⟨false, [(true, [.sl, .int .i64, .int .i64, .sl])]⟩ post15
  ∧ ∀ (H16 : Heap), Heap.le H2 H16 → ∀ (A18 : Option Addr) (n19 c20 : Nat) (n21 n22 : Int) (A23 : Option Addr) (n24 c25 : Nat), post15 A18 n19 c20 n21 n22 A23 n24 c25 H16 → (n4 + 1) * 64 ≤
  140737488355328 ∧ rng .i64 (n6 + (1 : Int)) ∧ inv0 (n4 + 1) (xs5 ++ [.slice A18 n19 c20, .int .i64 n21, .int .i64 n22, .slice A23 n24 c25]) (n6 + (1 : Int)) H16 ∧ m1 (n4 + 1) (xs5 ++
  [.slice A18 n19 c20, .int .i64 n21, .int .i64 n22, .slice A23 n24 c25]) (n6 + (1 : Int)) < m1 n4 xs5 n6) ∧ (decide (n6 < most) = false → ∀ (A28 : Option Addr) (c29 : Nat) (H30 : Heap),
  Heap.le H2 H30 → Cells H30 A28 0 xs5 → n4 ≤ c29 → post A28 n4 c29 H30)) ∧ (decide (n6 < (↑lN : Int)) = false → ∀ (A35 : Option Addr) (c36 : Nat) (H37 : Heap), Heap.le H2 H37 → Cells H37 A35
  0 xs5 → n4 ≤ c36 → post A35 n4 c36 H37)) := by kernel_rfl
theorem law0_Tuples {H : Heap} {A : Option Addr} {n c most : Nat} {l : List U5} (hs : Sl H A n c l) (hm : most < 1000) :
    ConT Tryz.prog 17 [.slice A n c, .int .i64 most] H shS (fun A' n' c' H' => Sl H' A' n' c' (lTups l most)) := by
  refine con_of_vc (an := an17) (fn := Tryz.f17) mix tabOK Tryz.func17 (by kernel_rfl) (extra := 1) ?_
  rw [vc17]
  have hl := hs.len
  refine ⟨fun k xs i H' => 0 ≤ i ∧ i ≤ n ∧ i ≤ most ∧ k = i.toNat ∧ Row H' xs ((l.take i.toNat).map lTup), fun _ _ i => n - i.toNat, ⟨by omega, by omega, by omega, rfl, rfl⟩, ?_⟩
  rintro H2 hle k xs i ⟨h0, h1, h1', rfl, hr⟩
  have fin : (n ≤ i.toNat ∨ most ≤ i.toNat) → ∀ (A9 : Option Addr) (c9 : Nat) (H9 : Heap), Heap.le H2 H9 → Cells H9 A9 0 xs → i.toNat ≤ c9 → Sl H9 A9 i.toNat c9 (lTups l most) := by
    intro h A9 c9 H9 l9 hc9 hn9
    have e : (l.take i.toNat) = l.take most := by
      rcases h with h | h
      · rw [List.take_of_length_le (by omega), List.take_of_length_le (by omega)]
      · congr 1; omega
    rw [e] at hr
    refine hr.sl l9 hc9 ?_ hn9 ?_ (by omega)
    · simp only [List.length_map, List.length_take]; omega
    · show i.toNat * 64 ≤ _
      omega
  refine ⟨fun hlt => ⟨fun hlm => ?_, fun hlm => ?_⟩, fun hge => ?_⟩
  · have hlt := of_decide_eq_true hlt; have hlm := of_decide_eq_true hlm
    obtain ⟨hi, hA, _, hc, ⟨rfl, q1, q2, q3, q4, q5⟩⟩ := hs.at hle h0 hlt
    refine ⟨hA, h0, hlt, _, _, _, _, _, hc, _, law0_Tuple q1.1 q2.1 q3.1 q4.1 q5.1, ?_⟩
    intro H3 l3 A18 n19 c20 n21 n22 A23 n24 c25 hrel
    have e1 : (i + 1).toNat = i.toNat + 1 := by omega
    refine ⟨by omega, by simp only [rng]; omega, ⟨by omega, by omega, by omega, by omega, ?_⟩, by dsimp only; omega⟩
    rw [e1, List.take_succ_eq_append_getElem hi, List.map_append]
    exact (hr.mono l3).append ⟨_, [], rfl, hrel, rfl⟩
  · have hlm := of_decide_eq_false hlm
    exact fin (.inr (by omega))
  · have hge := of_decide_eq_false hge
    exact fin (.inl (by omega))
theorem lTups_len (l : List U5) (most : Nat) : (lTups l most).length ≤ most := by simp only [lTups, List.length_map, List.length_take]; omega
theorem lTups_lins (l : List U5) (most : Nat) : (tlins (lTups l most)).length ≤ most := by
  have key : ∀ m : List U5, (tlins (m.map lTup)).length = m.length := by
    intro m
    induction m with
    | nil => rfl
    | cons x m ih => simp only [tlins, List.map_cons, List.flatMap_cons, List.length_append, List.length_cons] at *; rw [ih]; simp [lTup]; omega
  rw [lTups, key, List.length_take]; omega
end Go.Vc
/- The reference's rows: comparing, sorting. -/
namespace Go.Vc
open Go Go.Proofs Go.Shelf
/- sorted lists -/
def leF {T : Type} (f : T → T → Int) (x y : T) : Prop := ¬ f y x < 0
section
variable {T : Type} {f : T → T → Int}
/- merging two sorted lists -/
structure Mrg (f : T → T → Int) (a b out : List T) (i k : Nat) : Prop where
  perm : out.Perm (a.take i ++ b.take k)
  sorted : out.Pairwise (leF f)
  le : ∀ x ∈ out, ∀ y ∈ a.drop i ++ b.drop k, leF f x y
theorem Mrg.nil {a b : List T} : Mrg f a b [] 0 0 := ⟨by simp, by simp, fun x h => by cases h⟩
theorem Mrg.left (hO : Ord3 f) {a b out : List T} {i k : Nat} (h : Mrg f a b out i k) (ha : a.Pairwise (leF f)) (hi : i < a.length) (hb : ∀ y ∈ b.drop k, leF f a[i] y) : Mrg f a b (out ++ [a[i]]) (i + 1) k := by
  have hd : a.drop i = a[i] :: a.drop (i + 1) := List.drop_eq_getElem_cons hi
  refine ⟨?_, ?_, ?_⟩
  · rw [List.take_succ_eq_append_getElem hi, List.append_assoc]
    refine (List.Perm.append_right _ h.perm).trans ?_
    rw [List.append_assoc]
    exact List.Perm.append_left _ List.perm_append_comm
  · refine List.pairwise_append.2 ⟨h.sorted, by simp, fun x hx y hy => ?_⟩
    simp at hy; subst hy
    exact h.le x hx _ (List.mem_append_left _ (hd ▸ List.mem_cons_self))
  · intro x hx y hy
    rcases List.mem_append.1 hx with hx | hx
    · refine h.le x hx y ?_
      rcases List.mem_append.1 hy with hy | hy
      · exact List.mem_append_left _ (hd ▸ List.mem_cons_of_mem _ hy)
      · exact List.mem_append_right _ hy
    · simp at hx; subst hx
      rcases List.mem_append.1 hy with hy | hy
      · have := List.Pairwise.sublist (List.drop_sublist i a) ha
        rw [hd] at this
        exact (List.pairwise_cons.1 this).1 y hy
      · exact hb y hy
theorem Mrg.right (hO : Ord3 f) {a b out : List T} {i k : Nat} (h : Mrg f a b out i k) (hb : b.Pairwise (leF f)) (hk : k < b.length) (ha : ∀ y ∈ a.drop i, leF f b[k] y) : Mrg f a b (out ++ [b[k]]) i (k + 1) := by
  have hd : b.drop k = b[k] :: b.drop (k + 1) := List.drop_eq_getElem_cons hk
  refine ⟨?_, ?_, ?_⟩
  · rw [List.take_succ_eq_append_getElem hk, ← List.append_assoc]
    exact List.Perm.append_right _ h.perm
  · refine List.pairwise_append.2 ⟨h.sorted, by simp, fun x hx y hy => ?_⟩
    simp at hy; subst hy
    exact h.le x hx _ (List.mem_append_right _ (hd ▸ List.mem_cons_self))
  · intro x hx y hy
    rcases List.mem_append.1 hx with hx | hx
    · refine h.le x hx y ?_
      rcases List.mem_append.1 hy with hy | hy
      · exact List.mem_append_left _ hy
      · exact List.mem_append_right _ (hd ▸ List.mem_cons_of_mem _ hy)
    · simp at hx; subst hx
      rcases List.mem_append.1 hy with hy | hy
      · exact ha y hy
      · have := List.Pairwise.sublist (List.drop_sublist k b) hb
        rw [hd] at this
        exact (List.pairwise_cons.1 this).1 y hy
end
end Go.Vc
/- The reference's MergeLineage. -/
namespace Go.Vc
open Go Go.Proofs Go.Shelf
/- ascending without duplicates, the members of p -/
structure InsP (out p : List Int) : Prop where
  asc : out.Pairwise (fun a b => a < b)
  mem : ∀ y, y ∈ out ↔ y ∈ p
  len : out.length ≤ p.length
theorem InsP.nil : InsP [] [] := ⟨List.Pairwise.nil, fun _ => Iff.rfl, Nat.le_refl _⟩
theorem InsP.old {out p : List Int} {x : Int} (h : InsP out p) (hx : x ∈ out) : InsP out (p ++ [x]) := by
  refine ⟨h.asc, fun y => ?_, by have := h.len; simp; omega⟩
  rw [List.mem_append, List.mem_singleton, ← h.mem]
  exact ⟨.inl, fun h => h.elim id (fun e => e ▸ hx)⟩
theorem InsP.ins {out p : List Int} {x : Int} {k : Nat} (h : InsP out p) (hk : k ≤ out.length) (hlt : ∀ y ∈ out.take k, y < x) (hge : ∀ z, out[k]? = some z → x < z) :
    InsP (out.take k ++ [x] ++ out.drop k) (p ++ [x]) := by
  have hall : ∀ y ∈ out.drop k, x < y := by
    intro y hy
    by_cases hk' : k < out.length
    · have hd : out.drop k = out[k] :: out.drop (k + 1) := List.drop_eq_getElem_cons hk'
      have hs := List.Pairwise.sublist (List.drop_sublist k out) h.asc
      rw [hd] at hy hs
      have := hge _ (List.getElem?_eq_getElem hk')
      rcases List.mem_cons.1 hy with rfl | hy
      · exact this
      · have := (List.pairwise_cons.1 hs).1 y hy
        omega
    · rw [List.drop_eq_nil_of_le (by omega)] at hy; cases hy
  refine ⟨?_, fun y => ?_, ?_⟩
  · refine List.pairwise_append.2 ⟨List.pairwise_append.2 ⟨List.Pairwise.sublist (List.take_sublist k out) h.asc, by simp, fun a ha b hb => ?_⟩, List.Pairwise.sublist (List.drop_sublist k out) h.asc, fun a ha b hb => ?_⟩
    · simp at hb; subst hb; exact hlt a ha
    · have := hall b hb
      rcases List.mem_append.1 ha with ha | ha
      · have := hlt a ha; omega
      · simp at ha; subst ha; omega
  · rw [List.mem_append, List.mem_append, List.mem_append, ← h.mem y]
    conv => rhs; rw [← List.take_append_drop k out, List.mem_append]
    constructor
    · rintro ((h | h) | h)
      · exact .inl (.inl h)
      · exact .inr h
      · exact .inl (.inr h)
    · rintro ((h | h) | h)
      · exact .inl (.inl h)
      · exact .inr h
      · exact .inl (.inr h)
  · have := h.len
    simp only [List.length_append, List.length_take, List.length_drop, List.length_cons, List.length_nil]; omega
theorem asc_unique {l m : List Int} (hl : l.Pairwise (fun a b => a < b)) (hm : m.Pairwise (fun a b => a < b)) (h : ∀ y, y ∈ l ↔ y ∈ m) : l = m := by
  have n1 : l.Nodup := hl.imp (fun h => by omega)
  have n2 : m.Nodup := hm.imp (fun h => by omega)
  exact List.Perm.eq_of_pairwise (le := fun a b : Int => a < b) (fun a b _ _ h h' => by omega) hl hm ((List.perm_ext_iff_of_nodup n1 n2).2 h)
theorem mergeLin_asc (a b : List Int) : (mergeLin a b).Pairwise (fun a b => a < b) := compact_asc _ (sortI_asc _)
theorem mergeLin_mem (a b : List Int) (y : Int) : y ∈ mergeLin a b ↔ y ∈ a ∨ y ∈ b := by
  rw [mergeLin, compact_mem, sortI, List.mem_mergeSort, List.mem_append]
theorem InsP.eq {out a b : List Int} (h : InsP out (a ++ b)) : out = mergeLin a b :=
  asc_unique h.asc (mergeLin_asc a b) fun y => by rw [h.mem, mergeLin_mem, List.mem_append]
end Go.Vc
/- The reference's runs of equal rows: rows that grow in place. -/
namespace Go.Vc
open Go Go.Proofs Go.Shelf
structure RunR where
  vals : List Val
  B : Option Addr
  m : Nat
  d : Nat
  rows : List Rw
  lin : List Int
instance : Rep RunR where
  sz := 3
  byt := 72
  rel H vs r := ∃ A n c C k e, vs = [.slice A n c, .slice r.B r.m r.d, .slice C k e] ∧ Sl H A n c r.vals ∧ Sl H C k e r.lin
  mono := fun hle ⟨A, n, c, C, k, e, h1, h2, h3⟩ => ⟨A, n, c, C, k, e, h1, h2.mono hle, h3.mono hle⟩
  len := fun ⟨A, n, c, C, k, e, h1, _⟩ => by simp [h1]
  pos := by decide
  bpos := by decide
  one := fun ⟨A, n, c, C, k, e, h1, _⟩ => by rw [h1]; simp [Value.oneCell']
structure OpenR (O : OMap) (H : Heap) (r : RunR) : Prop where
  opn : isOpen O r.B 45 r.m r.d
  row : ∃ ys, Cells H r.B 0 ys ∧ Row H ys r.rows
  len : r.rows.length = r.m
structure RunsOK (O : OMap) (H : Heap) (xs : List Value) (rs : List RunR) : Prop where
  row : Row H xs rs
  opn : ∀ j (h : j < rs.length), OpenR O H rs[j]
  sep : ∀ j k (hj : j < rs.length) (hk : k < rs.length), j ≠ k → rs[j].B ≠ none → rs[j].B ≠ rs[k].B
  lin : ∀ j (h : j < rs.length), rs[j].lin = []
theorem RunsOK.mono {O : OMap} {H H' : Heap} {xs : List Value} {rs : List RunR} (h : RunsOK O H xs rs) (hle : Heap.le H H') : RunsOK O H' xs rs :=
  ⟨h.row.mono hle, fun j hj => let ⟨a, ⟨ys, b1, b2⟩, c⟩ := h.opn j hj; ⟨a, ⟨ys, b1.mono hle, b2.mono hle⟩, c⟩, h.sep, h.lin⟩
theorem RunsOK.new {O : OMap} {H : Heap} {xs : List Value} {rs : List RunR} (h : RunsOK O H xs rs) {A : Option Addr} {n c : Nat} {v : List Val} (hv : Sl H A n c v) :
    RunsOK O H (xs ++ [.slice A n c, .slice none 0 0, .slice none 0 0]) (rs ++ [⟨v, none, 0, 0, [], []⟩]) := by
  refine ⟨h.row.append (Row.one ⟨A, n, c, none, 0, 0, rfl, hv, Sl.nil⟩), fun j hj => ?_, fun j k hj hk hne h0 => ?_, fun j hj => ?_⟩
  · rw [List.getElem_append]
    split
    · exact h.opn j _
    · simp only [List.getElem_singleton]
      exact ⟨.inl ⟨rfl, rfl, rfl⟩, ⟨[], .inl rfl, rfl⟩, rfl⟩
  · simp only [List.length_append, List.length_singleton] at hj hk
    by_cases hj' : j < rs.length
    · rw [List.getElem_append_left hj'] at h0 ⊢
      by_cases hk' : k < rs.length
      · rw [List.getElem_append_left hk']
        exact h.sep j k hj' hk' hne h0
      · have : k = rs.length := by omega
        subst this
        simp only [List.getElem_concat_length]
        exact h0
    · have : j = rs.length := by omega
      subst this
      simp only [List.getElem_concat_length] at h0
      exact absurd rfl h0
  · rw [List.getElem_append]
    split
    · exact h.lin j _
    · simp only [List.getElem_singleton]
end Go.Vc
/- The reference's distinct key values. -/
namespace Go.Vc
open Go Go.Proofs Go.Shelf
def ascV (vs : List (List Val)) : Prop := vs.Pairwise (fun a b => cmpVs a b = -1)
structure GrpV (vs : List (List Val)) (p : List Rw) : Prop where
  asc : ascV vs
  mem : ∀ v, v ∈ vs ↔ ∃ r ∈ p, r.vals = v
  last : vs.getLast? = p.getLast?.map (·.vals)
theorem GrpV.nil : GrpV [] [] := ⟨List.Pairwise.nil, fun v => by simp, rfl⟩
theorem GrpV.old {vs : List (List Val)} {p : List Rw} {r : Rw} (h : GrpV vs p) (hl : vs.getLast? = some r.vals) : GrpV vs (p ++ [r]) := by
  refine ⟨h.asc, fun v => ?_, by rw [hl]; simp⟩
  rw [h.mem]
  constructor
  · rintro ⟨q, h1, h2⟩; exact ⟨q, by simp [h1], h2⟩
  · rintro ⟨q, h1, h2⟩
    rcases List.mem_append.1 h1 with h1 | h1
    · exact ⟨q, h1, h2⟩
    · simp at h1; subst h1
      have := (h.mem q.vals).1 (List.mem_of_getLast? hl)
      obtain ⟨z, z1, z2⟩ := this
      exact ⟨z, z1, by rw [z2, h2]⟩
theorem GrpV.new {vs : List (List Val)} {p : List Rw} {r : Rw} (h : GrpV vs p) (hl : vs.getLast? ≠ some r.vals) (hs : ∀ q ∈ p, leF cmpVs q.vals r.vals) : GrpV (vs ++ [r.vals]) (p ++ [r]) := by
  refine ⟨List.pairwise_append.2 ⟨h.asc, by simp, fun a ha b hb => ?_⟩, fun v => ?_, by simp⟩
  · simp at hb; subst hb
    cases hz : vs.getLast? with
    | none => rw [List.getLast?_eq_none_iff] at hz; rw [hz] at ha; cases ha
    | some z =>
      obtain ⟨q, q1, q2⟩ := (h.mem z).1 (List.mem_of_getLast? hz)
      have hle := hs q q1
      rw [q2] at hle
      have hne : z ≠ r.vals := fun e => hl (by rw [hz, e])
      have hzr : cmpVs z r.vals = -1 := by
        have s := cmpVs_ord.sign z r.vals; have a := cmpVs_ord.anti z r.vals
        have : cmpVs z r.vals ≠ 0 := fun e => hne (cmpVs_zero.1 e)
        unfold leF at hle
        omega
      obtain ⟨l', rfl⟩ := List.getLast?_eq_some_iff.1 hz
      rcases List.mem_append.1 ha with ha | ha
      · exact cmpVs_ord.trans _ _ _ ((List.pairwise_append.1 h.asc).2.2 a ha z (by simp)) hzr
      · simp at ha; subst ha; exact hzr
  · rw [List.mem_append, List.mem_singleton, h.mem]
    constructor
    · rintro (⟨q, h1, h2⟩ | rfl)
      · exact ⟨q, by simp [h1], h2⟩
      · exact ⟨r, by simp, rfl⟩
    · rintro ⟨q, h1, h2⟩
      rcases List.mem_append.1 h1 with h1 | h1
      · exact .inl ⟨q, h1, h2⟩
      · simp at h1; subst h1; exact .inr h2.symm
end Go.Vc
/- The reference's violations of keys: the distinct key values, the tuples of a key. -/
namespace Go.Vc
open Go Go.Proofs Go.Shelf
def withK (l : List Tup) (cols : List Int) (key : List Val) : List Tup := l.filter fun t => pOk t.p && decide (cmpVs (keyVals t.vals cols) key = 0)
theorem withK_succ {l : List Tup} {cols : List Int} {key : List Val} {i : Nat} (hi : i < l.length) : withK (l.take (i + 1)) cols key = withK (l.take i) cols key ++ (if pOk l[i].p && decide (cmpVs (keyVals l[i].vals cols) key = 0) then [l[i]] else []) := by
  rw [List.take_succ_eq_append_getElem hi]
  simp only [withK, List.filter_append, List.filter_cons, List.filter_nil]
def canon (l : List Int) : List Int := Lib.compact (sortI l)
theorem canon_asc (l : List Int) : (canon l).Pairwise (fun a b => a < b) := compact_asc _ (sortI_asc _)
theorem canon_mem {l : List Int} {y : Int} : y ∈ canon l ↔ y ∈ l := by rw [canon, compact_mem, sortI, List.mem_mergeSort]
theorem canon_eq {l m : List Int} (h : ∀ y, y ∈ l ↔ y ∈ m) : canon l = canon m := asc_unique (canon_asc l) (canon_asc m) fun y => by rw [canon_mem, canon_mem, h]
theorem canon_len (l : List Int) : (canon l).length ≤ l.length := by have := compact_len (sortI l); rw [sortI_len] at this; exact this
def tends (l : List Tup) : List Int := (l.filter fun t => pOk t.p).flatMap fun t => [t.p.lo, t.p.hi]
theorem tends_len : ∀ l : List Tup, (tends l).length ≤ 2 * l.length
  | [] => by simp [tends]
  | t :: l => by
    have ih := tends_len l
    simp only [tends, List.filter_cons, List.length_cons] at ih ⊢
    split
    · simp only [List.flatMap_cons, List.length_append, List.length_cons, List.length_nil]; omega
    · omega
def inT (t : Int) (x : Tup) : Bool := pIn x.p t
theorem tlins_sub {a b : List Tup} (h : a.Sublist b) : (tlins a).length ≤ (tlins b).length := by
  induction h with
  | slnil => exact Nat.le_refl _
  | cons x _ ih => simp only [tlins, List.flatMap_cons, List.length_append] at *; omega
  | cons_cons x _ ih => simp only [tlins, List.flatMap_cons, List.length_append] at *; omega
end Go.Vc
/- The reference's violations of keys. -/
namespace Go.Vc
open Go Go.Proofs Go.Shelf
def an35 : Ann where
  res := fun _ => none
  lend := fun _ => false
  sch := fun | 6 => (tk [0, 1, 2, 3, 4, 5, 6, 7, 8] .done) | _ => .done
  lt := fun | 4 => [.slot 5 false [.int .i64]] | _ => []
  tup := tups

theorem vc35 (P : Program) (H : Heap) (aA : Option Addr) (aN aC : Nat) (bA : Option Addr) (bN bC : Nat) (post : Bool → Heap → Prop) :
  vcFn P tab an35 Tryz.f35 [.slice aA aN aC, .slice bA bN bC] 0 H ⟨false, [(false, [.bool])]⟩ post =
  (  ((!decide ((↑aN : Int) = (↑bN : Int))) = true → post false H) ∧ ((!decide ((↑aN : Int) = (↑bN : Int))) = false → ∃ (inv2 : Int → Heap → Prop), ∃ (m3 : Int → Nat), inv2 (0 : Int) H ∧ ∀ (H4 :
  Heap), Heap.le H H4 → ∀ (n6 : Int), inv2 n6 H4 → (decide (n6 < (↑aN : Int)) = true → someA aA ∧ (0 : Int) ≤ n6 ∧ n6 < (↑aN : Int) ∧ ∃ (n9 : Int), Cells H4 aA (Int.toNat n6 * 1) [.int .i64
  n9] ∧ someA bA ∧ (0 : Int) ≤ n6 ∧ n6 < (↑bN : Int) ∧ ∃ (n10 : Int), Cells H4 bA (Int.toNat n6 * 1) [.int .i64 n10] ∧ ((!decide (n9 = n10)) = true → post false H4) ∧ ((!decide (n9 = n10)) =
  false → rng .i64 (n6 + (1 : Int)) ∧ inv2 (n6 + (1 : Int)) H4 ∧ m3 (n6 + (1 : Int)) < m3 n6)) ∧ (decide (n6 < (↑aN : Int)) = false → post true H4))) := by kernel_rfl
theorem ref1_SameInts {H : Heap} {A B : Option Addr} {n c m d : Nat} {a b : List Int} (hs : Sl H A n c a) (ht : Sl H B m d b) :
    ConT Tryz.prog 35 [.slice A n c, .slice B m d] H shB (fun r _ => r = decide (a = b)) := by
  refine con_of_vc (an := an35) (fn := Tryz.f35) mix tabOK Tryz.func35 (by kernel_rfl) (extra := 0) ?_
  rw [vc35]
  have hl := hs.len; have hm := ht.len; have hb := hs.bn
  refine ⟨fun hne => ?_, fun he => ?_⟩
  · have : ¬ a = b := fun e => by subst e; simp at hne; omega
    simp [this]
  have hnm' : (n : Int) = m := by simpa using he
  have hnm : n = m := by omega
  refine ⟨fun i _ => 0 ≤ i ∧ i ≤ n ∧ (a = b ↔ a.drop i.toNat = b.drop i.toNat), fun i => n - i.toNat, ⟨by omega, by omega, by simp⟩, ?_⟩
  rintro H2 hle i ⟨h0, h1, h2⟩
  refine ⟨fun hlt => ?_, fun hge => ?_⟩
  · have hlt := of_decide_eq_true hlt
    obtain ⟨hi, hA, _, hc, ⟨rfl, q⟩⟩ := hs.at hle h0 hlt
    obtain ⟨hj, hB, _, hd, ⟨rfl, q'⟩⟩ := ht.at hle h0 (by omega)
    rw [drop_at h0 hi, drop_at h0 hj] at h2
    refine ⟨hA, h0, hlt, _, hc, hB, h0, by omega, _, hd, fun hne => ?_, fun he => ⟨by simp only [rng]; omega, ⟨by omega, by omega, ?_⟩, by dsimp only; omega⟩⟩
    · have : ¬ a = b := fun e => by
        have := h2.1 e
        simp only [List.cons.injEq] at this
        simp [this.1] at hne
      simp [this]
    · have he : a[i.toNat] = b[i.toNat] := by simpa using he
      rw [h2, he]; simp
  · have hge := of_decide_eq_false hge
    rw [drop_end hge hl, List.drop_eq_nil_of_le (by omega)] at h2
    simp [h2.2 rfl]
theorem vio_eq {u v : Vio} : u = v ↔ u.p.lo = v.p.lo ∧ u.p.hi = v.p.hi ∧ u.ids = v.ids := by
  obtain ⟨⟨a, b⟩, i⟩ := u; obtain ⟨⟨c, d⟩, j⟩ := v
  simp [and_assoc]
def an14 : Ann where
  res := fun _ => none
  lend := fun | 39 => true | _ => false
  sch := fun | 6 => (tk [0, 1, 2, 3, 4, 5, 6, 7, 8, 9, 10, 11, 12, 13, 14, 15, 16, 17, 18, 19, 20, 21] (.alt 22 (tk [23, 24] .done) .fin)) | _ => .done
  lt := fun | 4 => [.slot 5 false [.int .i64]] | _ => []
  tup := tups

theorem vc14 (P : Program) (H : Heap) (aA : Option Addr) (aN aC : Nat) (bA : Option Addr) (bN bC : Nat) (post : Bool → Heap → Prop) :
  vcFn P tab an14 Tryz.f14 [.slice aA aN aC, .slice bA bN bC] 0 H ⟨false, [(false, [.bool])]⟩ post =
  (  ((!decide ((↑aN : Int) = (↑bN : Int))) = true → post false H) ∧ ((!decide ((↑aN : Int) = (↑bN : Int))) = false → ∃ (inv2 : Int → Heap → Prop), ∃ (m3 : Int → Nat), inv2 (0 : Int) H ∧ ∀ (H4 :
  Heap), Heap.le H H4 → ∀ (n6 : Int), inv2 n6 H4 → (decide (n6 < (↑aN : Int)) = true → someA aA ∧ (0 : Int) ≤ n6 ∧ n6 < (↑aN : Int) ∧ ∃ (n9 : Int), ∃ (n10 : Int), Cells H4 aA (Int.toNat n6 *
  3 + 0) [.int .i64 n9, .int .i64 n10] ∧ someA bA ∧ (0 : Int) ≤ n6 ∧ n6 < (↑bN : Int) ∧ ∃ (n11 : Int), ∃ (n12 : Int), Cells H4 bA (Int.toNat n6 * 3 + 0) [.int .i64 n11, .int .i64 n12] ∧
  ((!(decide (n9 = n11) && decide (n10 = n12))) = true → post false H4) ∧ ((!(decide (n9 = n11) && decide (n10 = n12))) = false → someA aA ∧ (0 : Int) ≤ n6 ∧ n6 < (↑aN : Int) ∧ ∃ (A15 :
  Option Addr), ∃ (n16 : Nat), ∃ (c17 : Nat), Cells H4 aA (Int.toNat n6 * 3 + 2) [.slice A15 n16 c17] ∧ someA bA ∧ (0 : Int) ≤ n6 ∧ n6 < (↑bN : Int) ∧ ∃ (A18 : Option Addr), ∃ (n19 : Nat), ∃
  (c20 : Nat), Cells H4 bA (Int.toNat n6 * 3 + 2) [.slice A18 n19 c20] ∧ ∃ (post21 : Bool → Heap → Prop), ConT P 35 [.slice A15 n16 c17, .slice A18 n19 c20] H4 ⟨false, [(false, [.bool])]⟩
  post21 ∧ ∀ (H22 : Heap), Heap.le H4 H22 → ∀ (b24 : Bool), post21 b24 H22 → ((!b24) = true → post false H22) ∧ ((!b24) = false → rng .i64 (n6 + (1 : Int)) ∧ inv2 (n6 + (1 : Int)) H22 ∧ m3
  (n6 + (1 : Int)) < m3 n6))) ∧ (decide (n6 < (↑aN : Int)) = false → post true H4))) := by kernel_rfl
theorem ref21_SameViolations {H : Heap} {A B : Option Addr} {n c m d : Nat} {a b : List Vio} (hs : Sl H A n c a) (ht : Sl H B m d b) :
    ConT Tryz.prog 14 [.slice A n c, .slice B m d] H shB (fun r _ => r = decide (a = b)) := by
  refine con_of_vc (an := an14) (fn := Tryz.f14) mix tabOK Tryz.func14 (by kernel_rfl) (extra := 0) ?_
  rw [vc14]
  have hl := hs.len; have hm := ht.len; have hb := hs.bn
  refine ⟨fun hne => ?_, fun he => ?_⟩
  · have : ¬ a = b := fun e => by subst e; simp at hne; omega
    simp [this]
  have hnm' : (n : Int) = m := by simpa using he
  have hnm : n = m := by omega
  refine ⟨fun i _ => 0 ≤ i ∧ i ≤ n ∧ (a = b ↔ a.drop i.toNat = b.drop i.toNat), fun i => n - i.toNat, ⟨by omega, by omega, by simp⟩, ?_⟩
  rintro H2 hle i ⟨h0, h1, h2⟩
  refine ⟨fun hlt => ?_, fun hge => ?_⟩
  · have hlt := of_decide_eq_true hlt
    obtain ⟨hi, hA, _, hc, ⟨A1, n1, c1, rfl, q1, q2, q3⟩⟩ := hs.at hle h0 hlt
    obtain ⟨hj, hB, _, hd, ⟨A2, n2, c2, rfl, p1, p2, p3⟩⟩ := ht.at hle h0 (by omega)
    rw [drop_at h0 hi, drop_at h0 hj] at h2
    have hne' : a[i.toNat] ≠ b[i.toNat] → decide (a = b) = false := fun h => decide_eq_false fun e => by
      have := h2.1 e
      simp only [List.cons.injEq] at this
      exact h this.1
    refine ⟨hA, h0, hlt, _, _, hc.at2 (k := 0) rfl rfl, hB, h0, by omega, _, _, hd.at2 (k := 0) rfl rfl, fun hne => ?_, fun he => ⟨hA, h0, hlt, _, _, _, hc.at1 (k := 2) rfl, hB, h0, by omega, _, _, _, hd.at1 (k := 2) rfl, _, ref1_SameInts q3 p3, ?_⟩⟩
    · rw [hne' fun e => ?_]
      rw [e] at hne
      simp at hne
    · rintro H3 l3 _ rfl
      refine ⟨fun hne => ?_, fun he2 => ⟨by simp only [rng]; omega, ⟨by omega, by omega, ?_⟩, by dsimp only; omega⟩⟩
      · rw [hne' fun e => ?_]
        rw [e] at hne
        simp at hne
      · have e1 : a[i.toNat].p.lo = b[i.toNat].p.lo ∧ a[i.toNat].p.hi = b[i.toNat].p.hi := by simpa using he
        have e2 : a[i.toNat].ids = b[i.toNat].ids := by simpa using he2
        rw [h2, vio_eq.2 ⟨e1.1, e1.2, e2⟩]; simp
  · have hge := of_decide_eq_false hge
    rw [drop_end hge hl, List.drop_eq_nil_of_le (by omega)] at h2
    simp [h2.2 rfl]
end Go.Vc
/- Plain law: the program's violations are the reference's. -/
namespace Go.Vc
open Go
end Go.Vc
/- Gaps: plain law. -/
namespace Go.Vc
open Go
def covT (l : List Tup) (cols : List Int) (key : List Val) : List Tup := l.filter fun t => decide (cmpVs (keyVals t.vals cols) key = 0)
def covL (l : List Tup) (cols : List Int) (key : List Val) : List Per := norm ((covT l cols key).map (·.p))
theorem covT_succ {l : List Tup} {cols : List Int} {key : List Val} {i : Nat} (hi : i < l.length) : covT (l.take (i + 1)) cols key = covT (l.take i) cols key ++ (if decide (cmpVs (keyVals l[i].vals cols) key = 0) then [l[i]] else []) := by
  rw [covT, List.take_succ_eq_append_getElem hi, List.filter_append]
  congr 1
  rw [List.filter_cons]; rfl
/- lists of keys in ascending order are alike when their members are -/
theorem ascV_unique : ∀ {vs us : List (List Val)}, ascV vs → ascV us → (∀ v, v ∈ vs ↔ v ∈ us) → vs = us
  | [], [], _, _, _ => rfl
  | [], u :: us, _, _, h => absurd ((h u).2 (by simp)) (by simp)
  | v :: vs, [], _, _, h => absurd ((h v).1 (by simp)) (by simp)
  | v :: vs, u :: us, hv, hu, h => by
    obtain ⟨v1, v2⟩ := List.pairwise_cons.1 hv
    obtain ⟨u1, u2⟩ := List.pairwise_cons.1 hu
    have e : v = u := by
      rcases List.mem_cons.1 ((h v).1 (by simp)) with h1 | h1
      · exact h1
      · rcases List.mem_cons.1 ((h u).2 (by simp)) with h2 | h2
        · exact h2.symm
        · have a := v1 _ h2; have b := u1 _ h1
          have := cmpVs_ord.anti v u
          omega
    subst e
    congr 1
    refine ascV_unique v2 u2 fun x => ?_
    have hx := h x
    simp only [List.mem_cons] at hx
    constructor
    · intro h1
      rcases hx.1 (.inr h1) with e | h2
      · subst e
        have := v1 _ h1; rw [cmpVs_ord.refl] at this; exact absurd this (by decide)
      · exact h2
    · intro h1
      rcases hx.2 (.inr h1) with e | h2
      · subst e
        have := u1 _ h1; rw [cmpVs_ord.refl] at this; exact absurd this (by decide)
      · exact h2
/- sorted lists without doubles ascend -/
theorem ascV_of_sorted {vs : List (List Val)} (h : vs.Pairwise (fun a b => ¬ cmpVs b a < 0)) (hn : vs.Nodup) : ascV vs := by
  refine (h.and hn).imp fun {a b} hab => ?_
  obtain ⟨h1, h2⟩ := hab
  have e1 := cmpVs_ord.anti a b; have e2 := cmpVs_ord.sign a b
  have e3 : cmpVs a b ≠ 0 := fun e => h2 (cmpVs_zero.1 e)
  omega
/- the keys of tuples, each once -/
def KeysOf (vs : List (List Val)) (l : List Tup) (cols : List Int) : Prop := ∀ v, v ∈ vs ↔ ∃ k ∈ byKeyL l cols, k.key = v
theorem byKey_mem {l : List Tup} {cols : List Int} {v : List Val} : (∃ k ∈ byKeyL l cols, k.key = v) ↔ ∃ t ∈ l, pOk t.p = true ∧ keyVals t.vals cols = v := by
  simp only [byKeyL, List.mem_map, List.mem_filter]
  constructor
  · rintro ⟨k, ⟨t, ⟨h1, h2⟩, rfl⟩, rfl⟩; exact ⟨t, h1, h2, rfl⟩
  · rintro ⟨t, h1, h2, rfl⟩; exact ⟨_, ⟨t, ⟨h1, h2⟩, rfl⟩, rfl⟩
theorem nodup_le {T : Type} [DecidableEq T] : ∀ {vs us : List T}, vs.Nodup → (∀ v ∈ vs, v ∈ us) → vs.length ≤ us.length
  | [], _, _, _ => Nat.zero_le _
  | v :: vs, us, hn, h => by
    obtain ⟨h1, h2⟩ := List.nodup_cons.1 hn
    have hv := h v (by simp)
    have := nodup_le (vs := vs) (us := us.erase v) h2 fun x hx => (List.mem_erase_of_ne (fun e => h1 (by rw [← e]; exact hx))).2 (h x (by simp [hx]))
    rw [List.length_erase_of_mem hv] at this
    have hp : 0 < us.length := List.length_pos_of_mem hv
    rw [List.length_cons]; omega
theorem keys_len {vs : List (List Val)} {l : List Tup} {cols : List Int} (hn : vs.Nodup) (h : KeysOf vs l cols) : vs.length ≤ l.length := by
  have h1 : vs.length ≤ ((byKeyL l cols).map (·.key)).length := by
    refine nodup_le hn fun v hv => ?_
    obtain ⟨k, hk, rfl⟩ := (h v).1 hv
    exact List.mem_map_of_mem hk
  rw [List.length_map] at h1
  exact Nat.le_trans h1 (byKeyL_len l cols)
end Go.Vc
/- Violations as labelled days; the keys of tuples in ascending order: plain law. -/
namespace Go.Vc
open Go
/- the keys in ascending order, each once -/
def insV (v : List Val) : List (List Val) → List (List Val)
  | [] => [v]
  | u :: r => if v = u then u :: r else if cmpVs v u = -1 then v :: u :: r else u :: insV v r
theorem insV_mem {v x : List Val} : ∀ {r : List (List Val)}, x ∈ insV v r ↔ x = v ∨ x ∈ r
  | [] => by simp [insV]
  | u :: r => by
    unfold insV
    by_cases h : v = u
    · rw [if_pos h]; subst h; simp
    · rw [if_neg h]
      split
      · simp
      · simp only [List.mem_cons, insV_mem]
        constructor
        · rintro (h | h | h)
          · exact .inr (.inl h)
          · exact .inl h
          · exact .inr (.inr h)
        · rintro (h | h | h)
          · exact .inr (.inl h)
          · exact .inl h
          · exact .inr (.inr h)
theorem insV_asc {v : List Val} : ∀ {r : List (List Val)}, ascV r → ascV (insV v r)
  | [], _ => List.pairwise_singleton _ _
  | u :: r, h => by
    obtain ⟨h1, h2⟩ := List.pairwise_cons.1 h
    unfold insV
    by_cases e : v = u
    · rw [if_pos e]; exact h
    · rw [if_neg e]
      split
      · rename_i hlt
        refine List.pairwise_cons.2 ⟨fun x hx => ?_, h⟩
        rcases List.mem_cons.1 hx with rfl | hx
        · exact hlt
        · exact cmpVs_ord.trans _ _ _ hlt (h1 x hx)
      · rename_i hge
        refine List.pairwise_cons.2 ⟨fun x hx => ?_, insV_asc h2⟩
        rcases insV_mem.1 hx with rfl | hx
        · have a := cmpVs_ord.anti u x; have s := cmpVs_ord.sign u x
          have z : cmpVs x u ≠ 0 := fun h => e (cmpVs_zero.1 h)
          omega
        · exact h1 x hx
def keyList (l : List Tup) (cols : List Int) : List (List Val) := (byKeyL l cols).foldr (fun k acc => insV k.key acc) []
theorem keyList_asc (l : List Tup) (cols : List Int) : ascV (keyList l cols) := by
  unfold keyList
  induction byKeyL l cols with
  | nil => exact List.Pairwise.nil
  | cons k r ih => exact insV_asc ih
theorem keyList_keys (l : List Tup) (cols : List Int) : KeysOf (keyList l cols) l cols := by
  unfold KeysOf keyList
  induction byKeyL l cols with
  | nil => intro v; simp
  | cons k r ih =>
    intro v
    rw [List.foldr_cons, insV_mem, ih v]
    constructor
    · rintro (rfl | ⟨x, hx, rfl⟩)
      · exact ⟨k, by simp, rfl⟩
      · exact ⟨x, by simp [hx], rfl⟩
    · rintro ⟨x, hx, rfl⟩
      rcases List.mem_cons.1 hx with rfl | hx
      · exact .inl rfl
      · exact .inr ⟨x, hx, rfl⟩
theorem keyList_eq {l : List Tup} {cols : List Int} {vs : List (List Val)} (h1 : ascV vs) (h2 : KeysOf vs l cols) : vs = keyList l cols :=
  ascV_unique h1 (keyList_asc l cols) fun v => (h2 v).trans (keyList_keys l cols v).symm
/- violations as labelled days -/
def labV (l : List Vio) (d : Int) (x : List Int) : Prop := ∃ v ∈ l, inV v d ∧ v.ids = x
structure NormV (l : List Vio) : Prop where
  chain : chainV l
  pos : ∀ v ∈ l, v.p.lo < v.p.hi
theorem chain_tail {u : Vio} : ∀ {r : List Vio}, chainV (u :: r) → chainV r
  | [], _ => trivial
  | _ :: _, h => h.2
theorem chain_ge {u : Vio} : ∀ {r : List Vio}, chainV (u :: r) → (∀ v ∈ r, v.p.lo < v.p.hi) → ∀ v ∈ r, u.p.hi ≤ v.p.lo
  | [], _, _, v, hv => by cases hv
  | w :: r, h, hp, v, hv => by
    rcases List.mem_cons.1 hv with rfl | hv
    · exact h.1.1
    · have := chain_ge h.2 (fun v hv => hp v (by simp [hv])) v hv
      have := h.1.1
      have := hp w (by simp)
      omega
theorem NormV.tail {u : Vio} {r : List Vio} (h : NormV (u :: r)) : NormV r := ⟨chain_tail h.chain, fun v hv => h.pos v (by simp [hv])⟩
theorem NormV.ge {u : Vio} {r : List Vio} (h : NormV (u :: r)) : ∀ v ∈ r, u.p.hi ≤ v.p.lo := chain_ge h.chain fun v hv => h.pos v (by simp [hv])
/- the label at a day is that of the first violation, where this holds there -/
theorem NormV.head {u : Vio} {r : List Vio} (h : NormV (u :: r)) {d : Int} {x : List Int} (hl : labV (u :: r) d x) (hd : d < u.p.hi) : inV u d ∧ u.ids = x := by
  obtain ⟨w, hw, h1, h2⟩ := hl
  rcases List.mem_cons.1 hw with rfl | hw
  · exact ⟨h1, h2⟩
  · have := h.ge w hw; have := h1.1; omega
theorem NormV.first {u : Vio} {r : List Vio} (h : NormV (u :: r)) {d : Int} {x : List Int} (hl : labV (u :: r) d x) : u.p.lo ≤ d := by
  obtain ⟨w, hw, h1, h2⟩ := hl
  rcases List.mem_cons.1 hw with rfl | hw
  · exact h1.1
  · have := h.ge w hw; have := h.pos u (by simp); have := h1.1; omega
theorem NormV.hi_le {u v : Vio} {r s : List Vio} (ha : NormV (u :: r)) (hb : NormV (v :: s)) (h : ∀ d x, labV (v :: s) d x → labV (u :: r) d x) (hlo : u.p.lo = v.p.lo) (hid : u.ids = v.ids) : v.p.hi ≤ u.p.hi := by
  refine Classical.byContradiction fun hc => ?_
  have hu := ha.pos u (by simp)
  have h1 : labV (v :: s) u.p.hi v.ids := ⟨v, by simp, ⟨by omega, by omega⟩, rfl⟩
  obtain ⟨w, hw, h2, h3⟩ := h _ _ h1
  rcases List.mem_cons.1 hw with rfl | hw
  · have := h2.2; omega
  · rcases r with _ | ⟨k, r⟩
    · cases hw
    · rcases List.mem_cons.1 hw with rfl | hw'
      · have := ha.chain.1
        exact this.2 ⟨by have := this.1; have := h2.1; omega, by rw [hid, h3]⟩
      · have a1 := ha.ge k (by simp)
        have a2 := ha.tail.ge w hw'
        have a3 := ha.pos k (by simp)
        have := h2.1
        omega
theorem normV_ext : ∀ {a b : List Vio}, NormV a → NormV b → (∀ d x, labV a d x ↔ labV b d x) → a = b
  | [], [], _, _, _ => rfl
  | [], v :: s, _, hb, h => by
    obtain ⟨w, hw, -⟩ := (h v.p.lo v.ids).2 ⟨v, by simp, ⟨Int.le_refl _, hb.pos v (by simp)⟩, rfl⟩
    cases hw
  | u :: r, [], ha, _, h => by
    obtain ⟨w, hw, -⟩ := (h u.p.lo u.ids).1 ⟨u, by simp, ⟨Int.le_refl _, ha.pos u (by simp)⟩, rfl⟩
    cases hw
  | u :: r, v :: s, ha, hb, h => by
    have hu := ha.pos u (by simp); have hv := hb.pos v (by simp)
    have l1 : labV (u :: r) u.p.lo u.ids := ⟨u, by simp, ⟨Int.le_refl _, hu⟩, rfl⟩
    have l2 : labV (v :: s) v.p.lo v.ids := ⟨v, by simp, ⟨Int.le_refl _, hv⟩, rfl⟩
    have hlo : u.p.lo = v.p.lo := by
      have a1 := hb.first ((h _ _).1 l1); have a2 := ha.first ((h _ _).2 l2); omega
    have hid : u.ids = v.ids := ((hb.head ((h _ _).1 l1) (by omega)).2).symm
    have hhi : u.p.hi = v.p.hi := by
      have a1 := ha.hi_le hb (fun d x hl => (h d x).2 hl) hlo hid
      have a2 := hb.hi_le ha (fun d x hl => (h d x).1 hl) hlo.symm hid.symm
      omega
    have huv : u = v := vio_eq.2 ⟨hlo, hhi, hid⟩
    subst huv
    congr 1
    refine normV_ext ha.tail hb.tail fun d x => ⟨fun hl => ?_, fun hl => ?_⟩
    · obtain ⟨w, hw, h1, h2⟩ := hl
      have hge := ha.ge w hw
      obtain ⟨w', hw', h1', h2'⟩ := (h d x).1 ⟨w, by simp [hw], h1, h2⟩
      rcases List.mem_cons.1 hw' with rfl | hw'
      · have := h1'.2; have := h1.1; omega
      · exact ⟨w', hw', h1', h2'⟩
    · obtain ⟨w, hw, h1, h2⟩ := hl
      have hge := hb.ge w hw
      obtain ⟨w', hw', h1', h2'⟩ := (h d x).2 ⟨w, by simp [hw], h1, h2⟩
      rcases List.mem_cons.1 hw' with rfl | hw'
      · have := h1'.2; have := h1.1; omega
      · exact ⟨w', hw', h1', h2'⟩
/- one violation more -/
theorem extV_norm {l : List Vio} {v : Vio} (h : NormV l) (hv : v.p.lo < v.p.hi) (hl : ∀ u, l.getLast? = some u → u.p.hi ≤ v.p.lo) :
    NormV (extV l v) ∧ (∀ u, (extV l v).getLast? = some u → u.p.hi = v.p.hi) ∧ ∀ d x, labV (extV l v) d x ↔ labV l d x ∨ (inV v d ∧ v.ids = x) := by
  obtain ⟨c1, c2⟩ := extV_chain h.chain hl
  have key : (∀ w ∈ extV l v, w.p.lo < w.p.hi) ∧ ∀ d x, labV (extV l v) d x ↔ labV l d x ∨ (inV v d ∧ v.ids = x) := by
    have plain : (∀ w ∈ l ++ [v], w.p.lo < w.p.hi) ∧ ∀ d x, labV (l ++ [v]) d x ↔ labV l d x ∨ (inV v d ∧ v.ids = x) := by
      refine ⟨fun w hw => ?_, fun d x => ?_⟩
      · rcases List.mem_append.1 hw with hw | hw
        · exact h.pos w hw
        · rw [List.mem_singleton] at hw; subst hw; exact hv
      · constructor
        · rintro ⟨w, hw, h1⟩
          rcases List.mem_append.1 hw with hw | hw
          · exact .inl ⟨w, hw, h1⟩
          · rw [List.mem_singleton] at hw; subst hw; exact .inr h1
        · rintro (⟨w, hw, h1⟩ | h1)
          · exact ⟨w, by simp [hw], h1⟩
          · exact ⟨v, by simp, h1⟩
    unfold extV
    split
    · rename_i u hu
      have hlu := hl u hu
      obtain ⟨l', rfl⟩ := List.getLast?_eq_some_iff.1 hu
      rw [List.dropLast_concat]
      have hu0 := h.pos u (by simp)
      split
      · rename_i hc
        refine ⟨fun w hw => ?_, fun d x => ?_⟩
        · rcases List.mem_append.1 hw with hw | hw
          · exact h.pos w (by simp [hw])
          · rw [List.mem_singleton] at hw; subst hw; show u.p.lo < v.p.hi; omega
        · constructor
          · rintro ⟨w, hw, h1, h2⟩
            rcases List.mem_append.1 hw with hw | hw
            · exact .inl ⟨w, by simp [hw], h1, h2⟩
            · rw [List.mem_singleton] at hw; subst hw
              have h1a : u.p.lo ≤ d := h1.1
              have h1b : d < v.p.hi := h1.2
              have h2 : u.ids = x := h2
              by_cases hd : d < u.p.hi
              · exact .inl ⟨u, by simp, ⟨h1a, hd⟩, h2⟩
              · exact .inr ⟨⟨by omega, h1b⟩, by rw [← hc.2]; exact h2⟩
          · rintro (⟨w, hw, h1, h2⟩ | ⟨h1, h2⟩)
            · rcases List.mem_append.1 hw with hw | hw
              · exact ⟨w, by simp [hw], h1, h2⟩
              · rw [List.mem_singleton] at hw; subst hw
                exact ⟨⟨⟨w.p.lo, v.p.hi⟩, w.ids⟩, by simp, ⟨h1.1, by have := h1.2; show d < v.p.hi; omega⟩, h2⟩
            · exact ⟨⟨⟨u.p.lo, v.p.hi⟩, u.ids⟩, by simp, ⟨by have := h1.1; show u.p.lo ≤ d; omega, h1.2⟩, by rw [← h2]; exact hc.2⟩
      · exact plain
    · exact plain
  exact ⟨⟨c1, key.1⟩, c2, key.2⟩
/- steps between points, each with what is found at its start -/
def segF (F : Int → Option (List Int)) : List Int → List Vio
  | f :: t :: ps => (match F f with | some x => [⟨⟨f, t⟩, x⟩] | none => []) ++ segF F (t :: ps)
  | _ => []
def accF (F : Int → Option (List Int)) : List Int → List Vio → List Vio
  | f :: t :: ps, out => accF F (t :: ps) (match F f with | some x => extV out ⟨⟨f, t⟩, x⟩ | none => out)
  | _, out => out
def btw : List Int → Int → Prop
  | f :: t :: ps, d => (f ≤ d ∧ d < t) ∨ btw (t :: ps) d
  | _, _ => False
def stepC (F : Int → Option (List Int)) : List Int → Prop
  | f :: t :: ps => (∀ d, f ≤ d → d < t → F d = F f) ∧ stepC F (t :: ps)
  | _ => True
theorem btw_of {a b d : Int} (h1 : a ≤ d) (h2 : d < b) : ∀ {ps : List Int}, ps.Pairwise (fun x y => x < y) → a ∈ ps → b ∈ ps → btw ps d
  | [], _, ha, _ => by cases ha
  | [f], _, ha, hb => by
    rw [List.mem_singleton] at ha hb; omega
  | f :: t :: ps, hp, ha, hb => by
    obtain ⟨p1, p2⟩ := List.pairwise_cons.1 hp
    by_cases hd : d < t
    · refine .inl ⟨?_, hd⟩
      rcases List.mem_cons.1 ha with rfl | ha
      · exact h1
      · have := p1 a ha; omega
    · right
      have hb' : b ∈ t :: ps := by
        rcases List.mem_cons.1 hb with rfl | hb
        · have := p1 t (by simp); omega
        · exact hb
      rcases List.mem_cons.1 ha with rfl | ha
      · exact btw_of (a := t) (by omega) h2 p2 (by simp) hb'
      · exact btw_of h1 h2 p2 ha hb'
theorem segF_lab {F : Int → Option (List Int)} {d : Int} {x : List Int} : ∀ {ps : List Int}, stepC F ps → (labV (segF F ps) d x ↔ btw ps d ∧ F d = some x)
  | [], _ => by simp [segF, labV, btw]
  | [_], _ => by simp [segF, labV, btw]
  | f :: t :: ps, hc => by
    obtain ⟨c1, c2⟩ := hc
    have ih := segF_lab (d := d) (x := x) c2
    have e : labV (segF F (f :: t :: ps)) d x ↔ (f ≤ d ∧ d < t ∧ F f = some x) ∨ labV (segF F (t :: ps)) d x := by
      rw [segF]
      constructor
      · rintro ⟨v, hv, h1, h2⟩
        rcases List.mem_append.1 hv with hv | hv
        · split at hv
          · rename_i y hy
            rw [List.mem_singleton] at hv; subst hv
            exact .inl ⟨h1.1, h1.2, by rw [hy]; exact congrArg some h2⟩
          · cases hv
        · exact .inr ⟨v, hv, h1, h2⟩
      · rintro (⟨h1, h2, h3⟩ | ⟨v, hv, h1⟩)
        · exact ⟨⟨⟨f, t⟩, x⟩, by rw [h3]; simp, ⟨h1, h2⟩, rfl⟩
        · exact ⟨v, List.mem_append_right _ hv, h1⟩
    rw [e, ih, btw]
    constructor
    · rintro (⟨h1, h2, h3⟩ | ⟨h1, h2⟩)
      · exact ⟨.inl ⟨h1, h2⟩, by rw [c1 d h1 h2]; exact h3⟩
      · exact ⟨.inr h1, h2⟩
    · rintro ⟨h1 | h1, h2⟩
      · exact .inl ⟨h1.1, h1.2, by rw [← c1 d h1.1 h1.2]; exact h2⟩
      · exact .inr ⟨h1, h2⟩
theorem accF_lab {F : Int → Option (List Int)} : ∀ {ps : List Int} {out : List Vio}, ps.Pairwise (fun x y => x < y) → stepC F ps → NormV out → (∀ u f, out.getLast? = some u → ps.head? = some f → u.p.hi ≤ f) →
    NormV (accF F ps out) ∧ ∀ d x, labV (accF F ps out) d x ↔ labV out d x ∨ (btw ps d ∧ F d = some x)
  | [], out, _, _, hn, _ => ⟨hn, fun d x => by simp [accF, btw]⟩
  | [_], out, _, _, hn, _ => ⟨hn, fun d x => by simp [accF, btw]⟩
  | f :: t :: ps, out, hp, hc, hn, hl => by
    obtain ⟨c1, c2⟩ := hc
    obtain ⟨p1, p2⟩ := List.pairwise_cons.1 hp
    have hft := p1 t (by simp)
    rw [accF]
    rcases hF : F f with _ | y
    · simp only
      obtain ⟨a1, a2⟩ := accF_lab (out := out) p2 c2 hn (fun u g hu hg => by
        simp only [List.head?_cons, Option.some.injEq] at hg
        subst hg
        have := hl u f hu rfl; omega)
      refine ⟨a1, fun d x => ?_⟩
      rw [a2, btw]
      constructor
      · rintro (h | ⟨h1, h2⟩)
        · exact .inl h
        · exact .inr ⟨.inr h1, h2⟩
      · rintro (h | ⟨h1 | h1, h2⟩)
        · exact .inl h
        · rw [c1 d h1.1 h1.2, hF] at h2; cases h2
        · exact .inr ⟨h1, h2⟩
    · simp only
      obtain ⟨b1, b2, b3⟩ := extV_norm (v := ⟨⟨f, t⟩, y⟩) hn hft (fun u hu => hl u f hu rfl)
      obtain ⟨a1, a2⟩ := accF_lab (out := extV out ⟨⟨f, t⟩, y⟩) p2 c2 b1 (fun u g hu hg => by
        simp only [List.head?_cons, Option.some.injEq] at hg
        subst hg
        have := b2 u hu
        have this : u.p.hi = t := this
        omega)
      refine ⟨a1, fun d x => ?_⟩
      rw [a2, b3, btw]
      constructor
      · rintro ((h | ⟨h1, h2⟩) | ⟨h1, h2⟩)
        · exact .inl h
        · have h1a : f ≤ d := h1.1
          have h1b : d < t := h1.2
          have h2 : y = x := h2
          exact .inr ⟨.inl ⟨h1a, h1b⟩, by rw [c1 d h1a h1b, hF, h2]⟩
        · exact .inr ⟨.inr h1, h2⟩
      · rintro (h | ⟨h1 | h1, h2⟩)
        · exact .inl (.inl h)
        · rw [c1 d h1.1 h1.2, hF] at h2
          exact .inl (.inr ⟨⟨h1.1, h1.2⟩, Option.some.inj h2⟩)
        · exact .inr ⟨h1, h2⟩
theorem filt_same {S : List Tup} {f t d : Int} {ps : List Int} (hv : ∀ x ∈ S, x.p.lo ∉ ps ∨ x.p.lo ≤ f ∨ t ≤ x.p.lo) (hm : ∀ x ∈ S, x.p.lo ≤ f ∨ t ≤ x.p.lo) (hm2 : ∀ x ∈ S, x.p.hi ≤ f ∨ t ≤ x.p.hi) (h1 : f ≤ d) (h2 : d < t) : S.filter (inT d) = S.filter (inT f) := by
  refine List.filter_congr fun x hx => ?_
  have a := hm x hx; have b := hm2 x hx
  unfold inT
  rw [Bool.eq_iff_iff, pIn_iff, pIn_iff]
  omega
end Go.Vc
/- Splitting tuples at days changes neither the violations of keys nor the gaps: plain law. -/
namespace Go.Vc
open Go
/- periods that follow one another from a to b -/
def chn : Int → Int → List Per → Prop
  | a, b, [] => a = b
  | a, b, p :: r => p.lo = a ∧ p.lo < p.hi ∧ chn p.hi b r
theorem chn_le : ∀ {ps : List Per} {a b : Int}, chn a b ps → a ≤ b
  | [], a, b, h => by have h : a = b := h; omega
  | p :: r, a, b, h => by
    obtain ⟨h1, h2, h3⟩ := h
    have := chn_le h3; omega
theorem chn_snoc : ∀ {ps : List Per} {a b c : Int}, chn a b ps → b < c → chn a c (ps ++ [⟨b, c⟩])
  | [], a, b, c, h, hc => ⟨(show a = b from h).symm, hc, rfl⟩
  | p :: r, a, b, c, ⟨h1, h2, h3⟩, hc => ⟨h1, h2, chn_snoc h3 hc⟩
/- a day lies in one part, where it lies in the whole -/
theorem chn_one {v : List Val} {g : List Int} {d : Int} : ∀ {ps : List Per} {a b : Int}, chn a b ps → 0 ≤ a → b ≤ maxT →
    ((ps.map fun p => (⟨v, p, g⟩ : Tup)).filter (inT d)).map (fun t => (t.vals, t.lin)) = if a ≤ d ∧ d < b then [(v, g)] else []
  | [], a, b, h, h0, hb => by
    have h : a = b := h
    rw [if_neg (by omega)]; rfl
  | p :: r, a, b, ⟨h1, h2, h3⟩, h0, hb => by
    have hle := chn_le h3
    have ih := chn_one (v := v) (g := g) (d := d) h3 (by omega) hb
    rw [List.map_cons, List.filter_cons]
    by_cases hin : p.lo ≤ d ∧ d < p.hi
    · have hb2 : 0 ≤ p.lo ∧ p.lo < p.hi ∧ p.hi ≤ maxT := by omega
      have e : inT d (⟨v, p, g⟩ : Tup) = true := pIn_iff.2 ⟨hb2, hin⟩
      rw [if_pos e, List.map_cons, ih, if_neg (by omega), if_pos (by omega)]
    · have e : ¬ inT d (⟨v, p, g⟩ : Tup) = true := fun h => hin (pIn_iff.1 h).2
      rw [if_neg e, ih]
      by_cases hd : p.hi ≤ d ∧ d < b
      · rw [if_pos hd, if_pos (by omega)]
      · rw [if_neg hd, if_neg (by omega)]
/- the tuples l, split -/
inductive SplitR : List Tup → List Tup → Prop
  | nil : SplitR [] []
  | skip {t : Tup} {l l' : List Tup} : pOk t.p = false → SplitR l l' → SplitR (t :: l) l'
  | cons {t : Tup} {l l' : List Tup} {ps : List Per} : pOk t.p = true → chn t.p.lo t.p.hi ps → SplitR l l' → SplitR (t :: l) ((ps.map fun p => ⟨t.vals, p, t.lin⟩) ++ l')
theorem SplitR.append {a a' b b' : List Tup} (h : SplitR a a') (h2 : SplitR b b') : SplitR (a ++ b) (a' ++ b') := by
  induction h with
  | nil => exact h2
  | skip h _ ih => exact .skip h ih
  | cons h hc _ ih => rw [List.cons_append, List.append_assoc]; exact .cons h hc ih
def rowsAt (l : List Tup) (d : Int) : List (List Val × List Int) := (l.filter (inT d)).map fun t => (t.vals, t.lin)
theorem split_at {l l' : List Tup} (h : SplitR l l') (d : Int) : rowsAt l' d = rowsAt l d := by
  induction h with
  | nil => rfl
  | skip h _ ih =>
    rename_i t l l' _
    have e : ¬ inT d t = true := fun hc => by
      have := pOk_iff.2 (pIn_iff.1 hc).1
      rw [h] at this; cases this
    rw [ih, rowsAt, rowsAt, List.filter_cons, if_neg e]
  | cons h hc _ ih =>
    rename_i t l l' ps _
    have hb := pOk_iff.1 h
    have := chn_one (v := t.vals) (g := t.lin) (d := d) hc hb.1 hb.2.2
    rw [rowsAt, List.filter_append, List.map_append, this]
    have ih : (List.filter (inT d) l').map (fun t => (t.vals, t.lin)) = rowsAt l d := ih
    rw [ih, rowsAt, rowsAt, List.filter_cons]
    by_cases hd : t.p.lo ≤ d ∧ d < t.p.hi
    · have e : inT d t = true := pIn_iff.2 ⟨hb, hd⟩
      rw [if_pos hd, if_pos e]; rfl
    · have e : ¬ inT d t = true := fun hc => hd (pIn_iff.1 hc).2
      rw [if_neg hd, if_neg e]; rfl
theorem split_mem {l l' : List Tup} (h : SplitR l l') : ∀ t ∈ l', ∃ s ∈ l, t.vals = s.vals ∧ t.lin = s.lin := by
  induction h with
  | nil => intro t ht; cases ht
  | skip _ _ ih => intro t ht; obtain ⟨s, hs, h⟩ := ih t ht; exact ⟨s, by simp [hs], h⟩
  | cons h hc _ ih =>
    rename_i t l l' ps _
    intro x hx
    rcases List.mem_append.1 hx with hx | hx
    · obtain ⟨p, hp, rfl⟩ := List.mem_map.1 hx
      exact ⟨t, List.mem_cons_self, rfl, rfl⟩
    · obtain ⟨s, hs, h⟩ := ih x hx
      exact ⟨s, by simp [hs], h⟩
/- what depends on the rows of each day alone -/
def SameDays (l l' : List Tup) : Prop := ∀ d, rowsAt l' d = rowsAt l d
theorem rows_mem {l : List Tup} {d : Int} {r : List Val × List Int} : r ∈ rowsAt l d ↔ ∃ t ∈ l, inT d t = true ∧ (t.vals, t.lin) = r := by
  simp only [rowsAt, List.mem_map, List.mem_filter, and_assoc]
theorem keys_days {l l' : List Tup} (h : SameDays l l') (cols : List Int) : keyList l' cols = keyList l cols := by
  have one : ∀ {a b : List Tup}, SameDays a b → ∀ v, (∃ t ∈ b, pOk t.p = true ∧ keyVals t.vals cols = v) → ∃ t ∈ a, pOk t.p = true ∧ keyVals t.vals cols = v := by
    rintro a b h v ⟨t, h1, h2, h3⟩
    have hb := pOk_iff.1 h2
    have hm : (t.vals, t.lin) ∈ rowsAt b t.p.lo := rows_mem.2 ⟨t, h1, pIn_iff.2 ⟨hb, by omega⟩, rfl⟩
    rw [h] at hm
    obtain ⟨s, s1, s2, s3⟩ := rows_mem.1 hm
    exact ⟨s, s1, pOk_iff.2 (pIn_iff.1 s2).1, by rw [(Prod.mk.inj s3).1]; exact h3⟩
  refine ascV_unique (keyList_asc _ _) (keyList_asc _ _) fun v => ?_
  rw [keyList_keys l' cols v, keyList_keys l cols v, byKey_mem, byKey_mem]
  exact ⟨one h v, one (fun d => (h d).symm) v⟩
theorem withK_at (l : List Tup) (cols : List Int) (v : List Val) (d : Int) : ((withK l cols v).filter (inT d)).map (fun t => (t.vals, t.lin)) = (rowsAt l d).filter fun r => decide (cmpVs (keyVals r.1 cols) v = 0) := by
  rw [rowsAt, List.filter_map]
  congr 1
  rw [withK, List.filter_filter, List.filter_filter]
  refine List.filter_congr fun t _ => ?_
  by_cases h : inT d t = true
  · have := pOk_iff.2 (pIn_iff.1 h).1
    simp [h, this]
  · simp [h]
theorem withK_days {l l' : List Tup} (h : SameDays l l') (cols : List Int) (v : List Val) : SameDays (withK l cols v) (withK l' cols v) := fun d => by
  rw [rowsAt, rowsAt, withK_at, withK_at, h]
theorem days_lins {S S' : List Tup} (h : SameDays S S') (d : Int) : (S'.filter (inT d)).length = (S.filter (inT d)).length ∧ tlins (S'.filter (inT d)) = tlins (S.filter (inT d)) := by
  have h1 := congrArg List.length (h d)
  simp only [rowsAt, List.length_map] at h1
  refine ⟨h1, ?_⟩
  have e : ∀ L : List Tup, tlins L = (L.map fun t => (t.vals, t.lin)).flatMap (·.2) := fun L => by rw [List.flatMap_map]; rfl
  rw [e, e]
  exact congrArg (fun x => List.flatMap (·.2) x) (h d)
theorem withK_pos (l : List Tup) (cols : List Int) (v : List Val) : ∀ x ∈ withK l cols v, pOk x.p = true := fun x hx => by
  have := (List.mem_filter.1 hx).2
  rw [Bool.and_eq_true] at this
  exact this.1
end Go.Vc
/- Normal forms of period sets. -/
namespace Go.Vc
open Go Go.Proofs Go.Shelf
def an59 : Ann where
  res := fun _ => none
  lend := fun | 9 => true | _ => false
  sch := fun _ => .done
  lt := fun _ => []
  tup := tups

theorem vc59 (P : Program) (H : Heap) (aFrom : Int) (aTo : Int) (bFrom : Int) (bTo : Int) (post : Int → Heap → Prop) :
  vcFn P tab an59 Tryz.f59 [.agg #[.int .i64 aFrom, .int .i64 aTo], .agg #[.int .i64 bFrom, .int .i64 bTo]] 0 H ⟨false, [(false, [.int .i64])]⟩ post =
  (  ∃ (post0 : Int → Heap → Prop), ConT P 60 [.int .i64 aFrom, .int .i64 bFrom] H ⟨false, [(false, [.int .i64])]⟩ post0 ∧ ∀ (H1 : Heap), Heap.le H H1 → ∀ (n3 : Int), post0 n3 H1 → post n3 H1) := by kernel_rfl
theorem periodset_Normalize1 {a b c d : Int} {H : Heap} : ConT Tryz.prog 59 [.agg ⟨[.int .i64 a, .int .i64 b]⟩, .agg ⟨[.int .i64 c, .int .i64 d]⟩] H shI (fun r _ => r = cmpI a c) := by
  refine con_of_vc (an := an59) (fn := Tryz.f59) mix tabOK Tryz.func59 (by kernel_rfl) (extra := 0) ?_
  rw [vc59]
  exact ⟨_, cmp_Compare, fun _ _ _ h => h⟩
def sortLay_Per_ren : Go.Shelf.Ren := ⟨fun | 6 => 58 | 15 => 88 | 14 => 87 | 28 => 119 | 29 => 120 | 20 => 111 | 21 => 112 | 22 => 113 | 23 => 114 | 24 => 115 | 25 => 116 | 26 => 117 | 27 => 118 | 46 => 155 | 47 => 156 | 48 => 157 | 49 => 158 | 50 => 159 | 57 => 177 | n => n, fun | 22 => 30 | 24 => 51 | 25 => 98 | 3 => 3 | 39 => 124 | 0 => 0 | 53 => 160 | 55 => 162 | 4 => 4 | 46 => 154 | 45 => 153 | 50 => 91 | 5 => 5 | 9 => 9 | 66 => 187 | 70 => 191 | 76 => 206 | 77 => 207 | n => n, fun n => n⟩
theorem sortLay_Per : SlLaysF0.n6 Tryz.prog sortLay_Per_ren where
  mixed := by kernel_rfl
  f6 := ⟨Tryz.f58.name, by kernel_rfl, Tryz.func58.trans (congrArg some (by kernel_rfl))⟩
  f14 := ⟨Tryz.f87.name, by kernel_rfl, Tryz.func87.trans (congrArg some (by kernel_rfl))⟩
  f15 := Tryz.func88.trans (congrArg some (by kernel_rfl))
  f20 := ⟨Tryz.f111.name, by kernel_rfl, Tryz.func111.trans (congrArg some (by kernel_rfl))⟩
  f21 := ⟨Tryz.f112.name, by kernel_rfl, Tryz.func112.trans (congrArg some (by kernel_rfl))⟩
  f22 := ⟨Tryz.f113.name, by kernel_rfl, Tryz.func113.trans (congrArg some (by kernel_rfl))⟩
  f23 := ⟨Tryz.f114.name, by kernel_rfl, Tryz.func114.trans (congrArg some (by kernel_rfl))⟩
  f24 := ⟨Tryz.f115.name, by kernel_rfl, Tryz.func115.trans (congrArg some (by kernel_rfl))⟩
  f25 := ⟨Tryz.f116.name, by kernel_rfl, Tryz.func116.trans (congrArg some (by kernel_rfl))⟩
  f26 := ⟨Tryz.f117.name, by kernel_rfl, Tryz.func117.trans (congrArg some (by kernel_rfl))⟩
  f27 := ⟨Tryz.f118.name, by kernel_rfl, Tryz.func118.trans (congrArg some (by kernel_rfl))⟩
  f28 := Tryz.func119.trans (congrArg some (by kernel_rfl))
  f29 := Tryz.func120.trans (congrArg some (by kernel_rfl))
  f46 := ⟨Tryz.f155.name, by kernel_rfl, Tryz.func155.trans (congrArg some (by kernel_rfl))⟩
  f47 := Tryz.func156.trans (congrArg some (by kernel_rfl))
  f48 := Tryz.func157.trans (congrArg some (by kernel_rfl))
  f49 := ⟨Tryz.f158.name, by kernel_rfl, Tryz.func158.trans (congrArg some (by kernel_rfl))⟩
  f50 := ⟨Tryz.f159.name, by kernel_rfl, Tryz.func159.trans (congrArg some (by kernel_rfl))⟩
  f57 := ⟨Tryz.f177.name, by kernel_rfl, Tryz.func177.trans (congrArg some (by kernel_rfl))⟩
  t0 := Tryz.underlying0
  a0 := Tryz.isAgg0
  z0 := Tryz.sizeOf0
  v0 := Tryz.zeroValue0
  t3 := Tryz.underlying3
  a3 := Tryz.isAgg3
  z3 := Tryz.sizeOf3
  v3 := Tryz.zeroValue3
  t4 := Tryz.underlying4
  a4 := Tryz.isAgg4
  z4 := Tryz.sizeOf4
  v4 := Tryz.zeroValue4
  t5 := Tryz.underlying5
  a5 := Tryz.isAgg5
  z5 := Tryz.sizeOf5
  v5 := Tryz.zeroValue5
  t9 := Tryz.underlying9
  a9 := Tryz.isAgg9
  z9 := Tryz.sizeOf9
  v9 := Tryz.zeroValue9
  t22 := Tryz.underlying30
  a22 := Tryz.isAgg30
  z22 := Tryz.sizeOf30
  v22 := Tryz.zeroValue30
  t25 := Tryz.underlying98
  a25 := Tryz.isAgg98
  z25 := Tryz.sizeOf98
  v25 := Tryz.zeroValue98
  t39 := Tryz.underlying124
  a39 := Tryz.isAgg124
  z39 := Tryz.sizeOf124
  v39 := Tryz.zeroValue124
  t45 := Tryz.underlying153
  a45 := Tryz.isAgg153
  z45 := Tryz.sizeOf153
  v45 := Tryz.zeroValue153
  t46 := Tryz.underlying154
  a46 := Tryz.isAgg154
  z46 := Tryz.sizeOf154
  v46 := Tryz.zeroValue154
  t50 := Tryz.underlying91
  a50 := Tryz.isAgg91
  z50 := Tryz.sizeOf91
  v50 := Tryz.zeroValue91
  t53 := Tryz.underlying160
  a53 := Tryz.isAgg160
  z53 := Tryz.sizeOf160
  v53 := Tryz.zeroValue160
  t55 := Tryz.underlying162
  a55 := Tryz.isAgg162
  z55 := Tryz.sizeOf162
  v55 := Tryz.zeroValue162
  t66 := Tryz.underlying187
  a66 := Tryz.isAgg187
  z66 := Tryz.sizeOf187
  v66 := Tryz.zeroValue187
  t70 := Tryz.underlying191
  a70 := Tryz.isAgg191
  z70 := Tryz.sizeOf191
  v70 := Tryz.zeroValue191
  t76 := Tryz.underlying206
  a76 := Tryz.isAgg206
  z76 := Tryz.sizeOf206
  v76 := Tryz.zeroValue206
  t77 := Tryz.underlying207
  a77 := Tryz.isAgg207
  z77 := Tryz.sizeOf207
  v77 := Tryz.zeroValue207
theorem sortL_Per : SrtL Tryz.prog sortLay_Per_ren 2 := ⟨sortLay_Per, Tryz.isAgg51, Tryz.sizeOf51, by kernel_rfl⟩
theorem cmpI_lt {x y : Int} : cmpI x y < 0 ↔ x < y := by unfold cmpI; split <;> (try split) <;> omega
theorem swo_cmpI {T : Type} (f : T → Int) : Sort.SWO (ltOf fun x y : T => cmpI (f x) (f y)) where
  irrefl x := by simp [ltOf, cmpI_lt]
  trans x y z h1 h2 := by simp only [ltOf, decide_eq_true_eq, cmpI_lt] at *; omega
  ntrans x y z h1 h2 := by simp only [ltOf, decide_eq_false_iff_not, cmpI_lt] at *; omega
theorem SortFunc_Per {H : Heap} {n : Nat} {xs : List Value} {l : List Per} (hr : Row H xs l) (hl : l.length = n) (hn : n ≤ 140737488355328) :
    ConM Tryz.prog 58 [.slice none 0 0, .func (.func 59) #[] #[]] 0 51 n xs true H ⟨true, []⟩ (fun ys (H' : Heap) => ∃ m : List Per, Row H' ys m ∧ m.Perm l ∧ m.Pairwise (fun a b => a.lo ≤ b.lo)) := by
  have h := sort_con sortL_Per hr hl hn (f := 59) (cap := []) (cf := fun x y : Per => cmpI x.lo y.lo) ⟨_, Tryz.func59, rfl, by kernel_rfl⟩ (swo_cmpI fun p : Per => p.lo)
    (fun H' vs us s t _ h1 h2 => by
      obtain ⟨rfl, -, -⟩ := h1
      obtain ⟨rfl, -, -⟩ := h2
      exact periodset_Normalize1)
  have e : (fun ys (H' : Heap) => ∃ m : List Per, Row H' ys m ∧ m.Perm l ∧ m.Pairwise (fun a b => ¬ cmpI b.lo a.lo < 0)) = (fun ys (H' : Heap) => ∃ m : List Per, Row H' ys m ∧ m.Perm l ∧ m.Pairwise (fun a b => a.lo ≤ b.lo)) := by
    funext ys H'
    simp only [cmpI_lt, Int.not_lt]
  rw [e] at h
  exact h
def mrgInv (m out : List Per) (i : Int) : Prop := match out.getLast? with
  | none => mrgAll m = mrgAll (m.drop i.toNat)
  | some q => mrgAll m = out.dropLast ++ mrg q (m.drop i.toNat)
def an33 : Ann where
  res := fun _ => none
  lend := fun | 17 => true | _ => false
  mt := fun | 58 => some true | _ => none
  sch := fun | 13 => (tk [0, 1, 2, 3, 4, 5, 6, 7] (.alt 8 (tk [9] (.alt 10 (tk [11, 12] .done) .fin)) .fin)) | 14 => (tk [0, 1, 2, 3, 4, 5, 9, 10] (.alt 6 (tk [7] (.alt 8 (tk [11] (.alt 12 (tk [13] (.alt 14 .done .fin)) .fin)) .fin)) .fin)) | _ => .done
  lt := fun | 3 => [.slot 3 false [.row 66 51], .slot 12 false [.int .i64]] | 10 => [.slot 4 false [.row 67 51], .slot 27 false [.int .i64]] | _ => []
  tup := tups

theorem vc33 (P : Program) (H : Heap) (sA : Option Addr) (sN sC : Nat) (post : Option Addr → Nat → Nat → Heap → Prop) :
  vcFn P tab an33 Tryz.f33 [.slice sA sN sC] 2 H ⟨false, [(false, [.sl])]⟩ post =
  (  ∃ (inv0 : Nat → List Value → Int → Heap → Prop), ∃ (m1 : Nat → List Value → Int → Nat), inv0 0 [] (0 : Int) H ∧ ∀ (H2 : Heap), Heap.le H H2 → ∀ (n4 : Nat) (xs5 : List Value) (n6 : Int),
  inv0 n4 xs5 n6 H2 → (decide (n6 < (↑sN : Int)) = true → someA sA ∧ (0 : Int) ≤ n6 ∧ n6 < (↑sN : Int) ∧ ∃ (n9 : Int), ∃ (n10 : Int), Cells H2 sA (Int.toNat n6 * 2) [.int .i64 n9, .int .i64
  n10] ∧ ∃ (post11 : Bool → Heap → Prop), ConT P 50 [.agg ⟨[.int .i64 n9, .int .i64 n10]⟩] H2 ⟨false, [(false, [.bool])]⟩ post11 ∧ ∀ (H12 : Heap), Heap.le H2 H12 → ∀ (b14 : Bool), post11 b14
  H12 → (b14 = true → (n4 + 1) * 16 ≤ 140737488355328 ∧ rng .i64 (n6 + (1 : Int)) ∧ inv0 (n4 + 1) (xs5 ++ [.int .i64 n9, .int .i64 n10]) (n6 + (1 : Int)) H12 ∧ m1 (n4 + 1) (xs5 ++ [.int .i64
  n9, .int .i64 n10]) (n6 + (1 : Int)) < m1 n4 xs5 n6) ∧ (b14 = false → rng .i64 (n6 + (1 : Int)) ∧ inv0 n4 xs5 (n6 + (1 : Int)) H12 ∧ m1 n4 xs5 (n6 + (1 : Int)) < m1 n4 xs5 n6)) ∧ (decide
  (n6 < (↑sN : Int)) = false → ∃ (post19 : List Value → Heap → Prop), ConM P 58 [.slice none 0 0, .func (.func 59) ⟨[]⟩ ⟨[]⟩] 0 51 n4 xs5 true H2 ⟨true, []⟩ post19 ∧ ∀ (H20 : Heap), Heap.le
  H2 H20 → ∀ (ys22 : List Value), post19 ys22 H20 → ∃ (inv24 : Nat → List Value → Int → Heap → Prop), ∃ (m25 : Nat → List Value → Int → Nat), inv24 0 [] (0 : Int) H20 ∧ ∀ (H26 : Heap),
  Heap.le H20 H26 → ∀ (n28 : Nat) (xs29 : List Value) (n30 : Int), inv24 n28 xs29 n30 H26 → (decide (n30 < (↑n4 : Int)) = true → (0 : Int) ≤ n30 ∧ n30 < (↑n4 : Int) ∧ ∃ (n33 : Int), ∃ (n34 :
  Int), win ys22 (Int.toNat n30 * 2) 2 = [.int .i64 n33, .int .i64 n34] ∧ (decide ((0 : Int) < (↑n28 : Int)) = true → rng .i64 ((↑n28 : Int) - (1 : Int)) ∧ (0 : Int) ≤ (↑n28 : Int) - (1 :
  Int) ∧ (↑n28 : Int) - (1 : Int) < (↑n28 : Int) ∧ ∃ (n36 : Int), win xs29 (Int.toNat ((↑n28 : Int) - (1 : Int)) * 2 + 1) 1 = [.int .i64 n36] ∧ (decide (n33 ≤ n36) = true → rng .i64 ((↑n28 :
  Int) - (1 : Int)) ∧ rng .i64 ((↑n28 : Int) - (1 : Int)) ∧ (0 : Int) ≤ (↑n28 : Int) - (1 : Int) ∧ (↑n28 : Int) - (1 : Int) < (↑n28 : Int) ∧ ∃ (n38 : Int), win xs29 (Int.toNat ((↑n28 : Int) -
  (1 : Int)) * 2 + 1) 1 = [.int .i64 n38] ∧ (0 : Int) ≤ (↑n28 : Int) - (1 : Int) ∧ (↑n28 : Int) - (1 : Int) < (↑n28 : Int) ∧ Int.toNat ((↑n28 : Int) - (1 : Int)) * 2 + 1 + 1 ≤ List.length
  xs29 ∧ rng .i64 (n30 + (1 : Int)) ∧ inv24 n28 (splice xs29 (Int.toNat ((↑n28 : Int) - (1 : Int)) * 2 + 1) [.int .i64 (max n38 n34)]) (n30 + (1 : Int)) H26 ∧ m25 n28 (splice xs29 (Int.toNat
  ((↑n28 : Int) - (1 : Int)) * 2 + 1) [.int .i64 (max n38 n34)]) (n30 + (1 : Int)) < m25 n28 xs29 n30) ∧ (decide (n33 ≤ n36) = false → (n28 + 1) * 16 ≤ 140737488355328 ∧ rng .i64 (n30 + (1 :
  Int)) ∧ inv24 (n28 + 1) (xs29 ++ [.int .i64 n33, .int .i64 n34]) (n30 + (1 : Int)) H26 ∧ m25 (n28 + 1) (xs29 ++ [.int .i64 n33, .int .i64 n34]) (n30 + (1 : Int)) < m25 n28 xs29 n30)) ∧
  (decide ((0 : Int) < (↑n28 : Int)) = false → (n28 + 1) * 16 ≤ 140737488355328 ∧ rng .i64 (n30 + (1 : Int)) ∧ inv24 (n28 + 1) (xs29 ++ [.int .i64 n33, .int .i64 n34]) (n30 + (1 : Int)) H26 ∧
  m25 (n28 + 1) (xs29 ++ [.int .i64 n33, .int .i64 n34]) (n30 + (1 : Int)) < m25 n28 xs29 n30)) ∧ (decide (n30 < (↑n4 : Int)) = false → ∀ (A42 : Option Addr) (c43 : Nat) (H44 : Heap), Heap.le
  H26 H44 → Cells H44 A42 0 xs29 → n28 ≤ c43 → post A42 n28 c43 H44))) := by kernel_rfl
theorem periodset_Normalize {H : Heap} {A : Option Addr} {n c : Nat} {l : List Per} (hs : Sl H A n c l) : ConT Tryz.prog 33 [.slice A n c] H shS (fun A' n' c' H' => Sl H' A' n' c' (norm l)) := by
  refine con_of_vc (an := an33) (fn := Tryz.f33) mix tabOK Tryz.func33 (by kernel_rfl) (extra := 2) ?_
  rw [vc33]
  have b1 := hs.bn; have b2 := hs.len; have b3 := hs.bnd
  replace b3 : n * 16 ≤ 140737488355328 := b3
  refine ⟨fun m xs i H' => 0 ≤ i ∧ i ≤ n ∧ ∃ out : List Per, Row H' xs out ∧ out.length = m ∧ m ≤ i.toNat ∧ l.filter pOk = out ++ (l.drop i.toNat).filter pOk, fun _ _ i => n - i.toNat, ⟨by omega, by omega, [], rfl, rfl, by simp, by simp⟩, ?_⟩
  rintro H2 l2 m xs i ⟨h0, h1, out, hr, hm, hmi, he⟩
  refine ⟨fun hlt => ?_, fun hge => ?_⟩
  · have hlt := of_decide_eq_true hlt
    obtain ⟨hi', hA, _, hc, ⟨rfl, r1, r2⟩⟩ := hs.at l2 h0 hlt
    rw [drop_at h0 hi', List.filter_cons] at he
    refine ⟨hA, h0, hlt, _, _, hc, _, period_Valid, ?_⟩
    rintro H3 l3 _ rfl
    refine ⟨fun ht => ⟨by omega, by simp only [rng]; omega, ⟨by omega, by omega, out ++ [l[i.toNat]], (hr.mono l3).append (Row.one ⟨rfl, r1, r2⟩), by simp; omega, by omega, ?_⟩, by dsimp only; omega⟩,
      fun hf => ⟨by simp only [rng]; omega, ⟨by omega, by omega, out, hr.mono l3, hm, by omega, ?_⟩, by dsimp only; omega⟩⟩
    · rw [he, if_pos ht]; simp
    · rw [he, if_neg (by rw [hf]; simp)]
  · rw [drop_end (of_decide_eq_false hge) b2, List.filter_nil, List.append_nil] at he
    refine ⟨_, SortFunc_Per hr hm (by omega), ?_⟩
    rintro H3 l3 ys ⟨s, hsr, hperm, hsorted⟩
    have hsl : s.length = m := by rw [hperm.length_eq, hm]
    rw [← he] at hperm
    have hfin := mrgAll_norm hperm hsorted
    have hok : ∀ p ∈ s, rng .i64 p.lo ∧ rng .i64 p.hi := fun p hp => by
      have := pOk_iff.1 (List.mem_filter.1 (hperm.mem_iff.1 hp)).2
      have hmx : maxT = 1099511627776 := rfl
      simp only [rng]; omega
    refine ⟨fun k zs j H' => 0 ≤ j ∧ j ≤ m ∧ ∃ o : List Per, Row H' zs o ∧ o.length = k ∧ k ≤ j.toNat ∧ mrgInv s o j, fun _ _ j => m - j.toNat, ⟨by omega, by omega, [], rfl, rfl, by simp, rfl⟩, ?_⟩
    rintro H4 l4 k zs j ⟨j0, j1, o, ho, hk, hkj, hinv⟩
    refine ⟨fun hlt => ?_, fun hge => ?_⟩
    · have hlt := of_decide_eq_true hlt
      have hj : j.toNat < s.length := by omega
      have hw := (hsr.mono l4).getw hj
      obtain ⟨hw, w1, w2⟩ := hw
      have hlast : o.getLast? = o[k - 1]? := by rw [List.getLast?_eq_getElem?, hk]
      refine ⟨j0, hlt, _, _, hw, fun hk0 => ?_, fun hk0 => ?_⟩
      · have hk0 := of_decide_eq_true hk0
        have hk1 : k - 1 < o.length := by omega
        have hkt : ((k : Int) - 1).toNat = k - 1 := by omega
        obtain ⟨vs, ⟨rfl, v1, v2⟩, g1, g2⟩ := ho.getf hk1
        rw [mrgInv, hlast, List.getElem?_eq_getElem hk1] at hinv
        simp only at hinv
        rw [drop_at j0 hj, mrg] at hinv
        rw [hkt]
        refine ⟨by simp only [rng]; omega, by omega, by omega, _, g1 1 1 (by decide), fun hle => ?_, fun hgt => ?_⟩
        · have hle := of_decide_eq_true hle
          rw [if_pos hle] at hinv
          have hrow := g2 1 [.int .i64 (max o[k - 1].hi s[j.toNat].hi)] ⟨o[k - 1].lo, max o[k - 1].hi s[j.toNat].hi⟩ (by show 1 + 1 ≤ 2; decide) ⟨rfl, v1, by simp only [rng] at v2 w2 ⊢; omega⟩
          have hzl := ho.length
          refine ⟨by simp only [rng]; omega, by simp only [rng]; omega, by omega, by omega, _, g1 1 1 (by decide), by omega, by omega, ?_, by simp only [rng]; omega, ⟨by omega, by omega, _, hrow, by simpa using hk, by omega, ?_⟩, by dsimp only; omega⟩
          · rw [hzl, hk]; show (k - 1) * 2 + 1 + 1 ≤ k * 2; omega
          · rw [mrgInv, List.getLast?_eq_getElem?, List.length_set, hk, List.getElem?_set_self hk1]
            simp only
            rw [hinv]
            congr 1
            rw [List.dropLast_eq_take, List.dropLast_eq_take, List.length_set, hk, List.take_set_of_le (by omega)]
        · have hgt := of_decide_eq_false hgt
          rw [if_neg hgt] at hinv
          refine ⟨by omega, by simp only [rng]; omega, ⟨by omega, by omega, o ++ [s[j.toNat]], ho.append (Row.one ⟨rfl, w1, w2⟩), by simp; omega, by omega, ?_⟩, by dsimp only; omega⟩
          rw [mrgInv, List.getLast?_concat]
          simp only
          rw [hinv, List.dropLast_concat]
          have hne : o ≠ [] := by rintro rfl; simp at hk; omega
          have : o = o.dropLast ++ [o[k - 1]] := by
            conv => lhs; rw [← List.dropLast_concat_getLast hne]
            congr 2
            rw [List.getLast_eq_getElem]; congr 1; omega
          conv => rhs; rw [this]
          simp
      · have hk0 := of_decide_eq_false hk0
        have h00 : k = 0 := by omega
        have ho0 : o = [] := List.eq_nil_of_length_eq_zero (by omega)
        rw [ho0, mrgInv] at hinv
        simp only [List.getLast?_nil] at hinv
        rw [drop_at j0 hj, mrgAll] at hinv
        refine ⟨by omega, by simp only [rng]; omega, ⟨by omega, by omega, o ++ [s[j.toNat]], ho.append (Row.one ⟨rfl, w1, w2⟩), by simp; omega, by omega, ?_⟩, by dsimp only; omega⟩
        rw [mrgInv, List.getLast?_concat]
        simp only
        rw [hinv, ho0]; rfl
    · have hd : s.drop j.toNat = [] := drop_end (of_decide_eq_false hge) hsl
      intro A5 c5 H5 l5 hc5 hn5
      have hres : norm l = o := by
        rw [← hfin]
        rw [mrgInv, hd] at hinv
        cases hol : o.getLast? with
        | none =>
          rw [hol] at hinv
          rw [List.getLast?_eq_none_iff] at hol
          rw [hol]; exact hinv
        | some q =>
          rw [hol] at hinv
          simp only [mrg] at hinv
          rw [hinv]
          obtain ⟨ys, rfl⟩ := List.getLast?_eq_some_iff.1 hol
          simp
      rw [hres]
      exact ho.sl l5 hc5 hk hn5 (by show k * 16 ≤ _; omega) (by omega)
end Go.Vc
