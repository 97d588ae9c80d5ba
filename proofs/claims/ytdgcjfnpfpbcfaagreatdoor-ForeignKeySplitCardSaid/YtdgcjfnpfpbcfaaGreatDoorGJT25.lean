/- A group's days, its segments. -/
import Derived.Test.YtdgcjfnpfpbcfaaGreatDoorGJT23
set_option linter.unusedSectionVars false
set_option linter.unusedSimpArgs false
set_option linter.unusedVariables false
namespace Go.Vc
open Go Go.Proofs Go.Shelf
theorem tlins_succ {l : List Tup} {i : Nat} (hi : i < l.length) : tlins (l.take (i + 1)) = tlins (l.take i) ++ l[i].lin := by
  rw [List.take_succ_eq_append_getElem hi, tlins, List.flatMap_append]; simp [tlins]
def an101 : Ann where
  res := fun | 18 => some ⟨false, [(false, [.row 19 3])]⟩ | _ => none
  lend := fun _ => false
  sch := fun _ => .done
  lt := fun | 3 => [.slot 3 false [.row 20 3], .slot 8 false [.int .i64]] | _ => []
  tup := tups

theorem vc101 (P : Program) (H : Heap) (lA : Option Addr) (lN lC : Nat) (ri0 : Nat) (post : Nat → List Value → Heap → Prop) :
  vcFn P tab an101 Tryz.f101 [.slice lA lN lC] 2 H ⟨false, [(false, [.row ri0 3])]⟩ post =
  (  ∃ (inv0 : Nat → List Value → Int → Heap → Prop), ∃ (m1 : Nat → List Value → Int → Nat), inv0 0 [] (0 : Int) H ∧ ∀ (H2 : Heap), Heap.le H H2 → ∀ (n4 : Nat) (xs5 : List Value) (n6 : Int),
  inv0 n4 xs5 n6 H2 → (decide (n6 < (↑lN : Int)) = true → someA lA ∧ (0 : Int) ≤ n6 ∧ n6 < (↑lN : Int) ∧ ∃ (A9 : Option Addr), ∃ (n10 : Nat), ∃ (c11 : Nat), ∃ (n12 : Int), ∃ (n13 : Int), ∃
  (A14 : Option Addr), ∃ (n15 : Nat), ∃ (c16 : Nat), Cells H2 lA (Int.toNat n6 * 4) [.slice A9 n10 c11, .int .i64 n12, .int .i64 n13, .slice A14 n15 c16] ∧ ∃ (ys17 : List Value), Cells H2 A14
  0 ys17 ∧ List.length ys17 = n15 * 1 ∧ (n4 + n15) * 8 ≤ 140737488355328 ∧ rng .i64 (n6 + (1 : Int)) ∧ inv0 (n4 + n15) (xs5 ++ ys17) (n6 + (1 : Int)) H2 ∧ m1 (n4 + n15) (xs5 ++ ys17) (n6 + (1
  : Int)) < m1 n4 xs5 n6) ∧ (decide (n6 < (↑lN : Int)) = false → ∀ (A19 : Option Addr) (c20 : Nat) (H21 : Heap), Heap.le H2 H21 → Cells H21 A19 0 xs5 → n4 ≤ c20 → ∃ (post25 : Nat → List Value
  → Heap → Prop), ConT P 136 [.slice A19 n4 c20, .slice none 0 0] H21 ⟨false, [(false, [.row 19 3])]⟩ post25 ∧ ∀ (H26 : Heap), Heap.le H21 H26 → ∀ (n28 : Nat) (xs29 : List Value), post25 n28
  xs29 H26 → post n28 xs29 H26)) := by kernel_rfl
theorem fk_lineages {H : Heap} {A : Option Addr} {n c r : Nat} {l : List Tup} (hs : Sl H A n c l) (hb : (tlins l).length * 8 ≤ 140737488355328) :
    ConT Tryz.prog 101 [.slice A n c] H ⟨false, [(false, [.row r 3])]⟩ (fun k xs H' => k = (canon (tlins l)).length ∧ Row H' xs (canon (tlins l))) := by
  refine con_of_vc (an := an101) (fn := Tryz.f101) mix tabOK Tryz.func101 (by kernel_rfl) (extra := 2) ?_
  rw [vc101]
  have hl := hs.len; have hbn := hs.bn
  refine ⟨fun k xs i H' => 0 ≤ i ∧ i ≤ n ∧ k = (tlins (l.take i.toNat)).length ∧ Row H' xs (tlins (l.take i.toNat)), fun _ _ i => n - i.toNat, ⟨by omega, by omega, rfl, rfl⟩, ?_⟩
  rintro H2 hle k xs i ⟨h0, h1, hk, hr⟩
  have e1 : (i + 1).toNat = i.toNat + 1 := by omega
  refine ⟨fun hlt => ?_, fun hge => ?_⟩
  · have hlt := of_decide_eq_true hlt
    obtain ⟨hi, hA, _, hc, ⟨A9, n9, c9, A14, n15, c16, rfl, q1, q2, q3, q4⟩⟩ := hs.at hle h0 hlt
    have hsu := tlins_succ hi
    have hlen := congrArg List.length hsu
    rw [List.length_append, q4.len] at hlen
    have ht := tlins_sub (List.take_sublist (i.toNat + 1) l)
    obtain ⟨ys, y1, y2⟩ := q4.row
    refine ⟨hA, h0, hlt, _, _, _, _, _, _, _, _, hc, ys, y1, by rw [y2.length, q4.len]; rfl, by omega, by simp only [rng]; omega, ⟨by omega, by omega, by rw [e1, hlen, hk], ?_⟩, by dsimp only; omega⟩
    rw [e1, hsu]
    exact hr.append y2
  · have hge := of_decide_eq_false hge
    rw [List.take_of_length_le (by omega)] at hk hr
    intro A4 c4 H4 l4 hc4 hn4
    refine ⟨_, bag_MergeLineage (hr.sl l4 hc4 hk.symm hn4 (by show k * 8 ≤ _; omega) (by omega)) (Sl.nil (T := Int)) (by omega), ?_⟩
    rintro H5 l5 k5 xs5 h5
    have e : mergeLin (tlins l) [] = canon (tlins l) := by unfold mergeLin canon; rw [List.append_nil]
    rw [e] at h5
    exact h5
def an37 : Ann where
  res := fun _ => none
  lend := fun _ => false
  sch := fun _ => .done
  lt := fun | 3 => [.slot 3 false [.row 21 51], .slot 9 false [.int .i64]] | _ => []
  tup := tups

theorem vc37 (P : Program) (H : Heap) (gkeyA : Option Addr) (gkeyN gkeyC : Nat) (gtuplesA : Option Addr) (gtuplesN gtuplesC : Nat) (post : Option Addr → Nat → Nat → Heap → Prop) :
  vcFn P tab an37 Tryz.f37 [.agg #[.slice gkeyA gkeyN gkeyC, .slice gtuplesA gtuplesN gtuplesC]] 1 H ⟨false, [(false, [.sl])]⟩ post =
  (  ∃ (inv0 : Nat → List Value → Int → Heap → Prop), ∃ (m1 : Nat → List Value → Int → Nat), inv0 0 [] (0 : Int) H ∧ ∀ (H2 : Heap), Heap.le H H2 → ∀ (n4 : Nat) (xs5 : List Value) (n6 : Int),
  inv0 n4 xs5 n6 H2 → (decide (n6 < (↑gtuplesN : Int)) = true → someA gtuplesA ∧ (0 : Int) ≤ n6 ∧ n6 < (↑gtuplesN : Int) ∧ ∃ (A9 : Option Addr), ∃ (n10 : Nat), ∃ (c11 : Nat), ∃ (n12 : Int), ∃
  (n13 : Int), ∃ (A14 : Option Addr), ∃ (n15 : Nat), ∃ (c16 : Nat), Cells H2 gtuplesA (Int.toNat n6 * 4) [.slice A9 n10 c11, .int .i64 n12, .int .i64 n13, .slice A14 n15 c16] ∧ (n4 + 1) * 16
  ≤ 140737488355328 ∧ rng .i64 (n6 + (1 : Int)) ∧ inv0 (n4 + 1) (xs5 ++ [.int .i64 n12, .int .i64 n13]) (n6 + (1 : Int)) H2 ∧ m1 (n4 + 1) (xs5 ++ [.int .i64 n12, .int .i64 n13]) (n6 + (1 :
  Int)) < m1 n4 xs5 n6) ∧ (decide (n6 < (↑gtuplesN : Int)) = false → ∀ (A18 : Option Addr) (c19 : Nat) (H20 : Heap), Heap.le H2 H20 → Cells H20 A18 0 xs5 → n4 ≤ c19 → ∃ (post24 : Option Addr
  → Nat → Nat → Heap → Prop), ConT P 33 [.slice A18 n4 c19] H20 ⟨false, [(false, [.sl])]⟩ post24 ∧ ∀ (H25 : Heap), Heap.le H20 H25 → ∀ (A27 : Option Addr) (n28 c29 : Nat), post24 A27 n28 c29
  H25 → post A27 n28 c29 H25)) := by kernel_rfl
theorem fk_days {H : Heap} {A B : Option Addr} {n c m d : Nat} {l : List Tup} (ht : Sl H B m d l) :
    ConT Tryz.prog 37 [.agg ⟨[.slice A n c, .slice B m d]⟩] H shS (fun A' n' c' H' => Sl H' A' n' c' (norm (l.map (·.p)))) := by
  refine con_of_vc (an := an37) (fn := Tryz.f37) mix tabOK Tryz.func37 (by kernel_rfl) (extra := 1) ?_
  rw [vc37]
  have hl := ht.len
  have hbd : m * 64 ≤ 140737488355328 := ht.bnd
  refine ⟨fun k xs i H' => 0 ≤ i ∧ i ≤ m ∧ k = i.toNat ∧ Row H' xs ((l.take i.toNat).map (·.p)), fun _ _ i => m - i.toNat, ⟨by omega, by omega, rfl, rfl⟩, ?_⟩
  rintro H2 hle k xs i ⟨h0, h1, rfl, hr⟩
  have e1 : (i + 1).toNat = i.toNat + 1 := by omega
  refine ⟨fun hlt => ?_, fun hge => ?_⟩
  · have hlt := of_decide_eq_true hlt
    obtain ⟨hi, hA, _, hc, ⟨A9, n9, c9, A14, n15, c16, rfl, q1, q2, q3, q4⟩⟩ := ht.at hle h0 hlt
    refine ⟨hA, h0, hlt, _, _, _, _, _, _, _, _, hc, by omega, by simp only [rng]; omega, ⟨by omega, by omega, e1.symm, ?_⟩, by dsimp only; omega⟩
    rw [e1, List.take_succ_eq_append_getElem hi, List.map_append]
    exact hr.append (Row.one ⟨rfl, q2, q3⟩)
  · have hge := of_decide_eq_false hge
    rw [List.take_of_length_le (by omega)] at hr
    intro A4 c4 H4 l4 hc4 hn4
    refine ⟨_, periodset_Normalize (hr.sl l4 hc4 (by rw [List.length_map]; omega) hn4 (by show i.toNat * 16 ≤ _; omega) (by omega)), ?_⟩
    rintro H5 l5 A5 n5 c5 h5
    exact h5
def an95_row : Ann where
  res := fun _ => none
  lend := fun _ => false
  sch := fun _ => .done
  lt := fun _ => []
  tup := tups

theorem vc95_row (P : Program) (H : Heap) (sA : Option Addr) (sN sC : Nat) (ri0 : Nat) (post : Nat → List Value → Heap → Prop) :
  vcFn P tab an95_row Tryz.f95 [.slice sA sN sC] 0 H ⟨false, [(false, [.row ri0 57])]⟩ post =
  (  (Option.isNone sA = true → post 0 [] H) ∧ (Option.isNone sA = false → ∃ (ys2 : List Value), Cells H sA 0 ys2 ∧ List.length ys2 = sN * 4 ∧ (0 + sN) * 64 ≤ 140737488355328 ∧ post (0 + sN) ([]
  ++ ys2) H)) := by kernel_rfl
theorem Clone_TupRow {H : Heap} {A : Option Addr} {n c r : Nat} {l : List Tup} (hs : Sl H A n c l) :
    ConT Tryz.prog 95 [.slice A n c] H ⟨false, [(false, [.row r 57])]⟩ (fun k xs H' => k = l.length ∧ Row H' xs l) := by
  refine con_of_vc (an := an95_row) (fn := Tryz.f95) mix tabOK Tryz.func95 (by kernel_rfl) (extra := 0) ?_
  rw [vc95_row]
  have hl := hs.len
  refine ⟨fun hA => ?_, fun hA => ?_⟩
  · have : n = 0 := by
      rcases Nat.eq_zero_or_pos n with h | h
      · exact h
      · obtain ⟨b, o, e⟩ := hs.someA h; simp [e] at hA
    have : l = [] := List.eq_nil_of_length_eq_zero (by omega)
    subst this
    exact ⟨rfl, rfl⟩
  · obtain ⟨ys, h1, h2⟩ := hs.row
    exact ⟨ys, h1, by rw [h2.length, hs.len]; rfl, by have := hs.bnd; rw [Nat.zero_add]; exact this, by omega, by simpa using h2⟩
def an97 : Ann where
  res := fun _ => none
  lend := fun | 11 => true | _ => false
  sch := fun _ => .done
  lt := fun _ => []
  tup := tups

theorem vc97 (P : Program) (H : Heap) (aValsA : Option Addr) (aValsN aValsC : Nat) (aValidFrom : Int) (aValidTo : Int) (aLineageA : Option Addr) (aLineageN aLineageC : Nat) (bValsA : Option Addr) (bValsN bValsC : Nat) (bValidFrom : Int) (bValidTo : Int) (bLineageA : Option Addr) (bLineageN bLineageC : Nat) (post : Int → Heap → Prop) :
  vcFn P tab an97 Tryz.f97 [.agg #[.slice aValsA aValsN aValsC, .int .i64 aValidFrom, .int .i64 aValidTo, .slice aLineageA aLineageN aLineageC], .agg #[.slice bValsA bValsN bValsC, .int .i64 bValidFrom, .int .i64 bValidTo, .slice bLineageA bLineageN bLineageC]] 0 H ⟨false, [(false, [.int .i64])]⟩ post =
  (  ∃ (post0 : Int → Heap → Prop), ConT P 60 [.int .i64 aValidFrom, .int .i64 bValidFrom] H ⟨false, [(false, [.int .i64])]⟩ post0 ∧ ∀ (H1 : Heap), Heap.le H H1 → ∀ (n3 : Int), post0 n3 H1 →
  post n3 H1) := by kernel_rfl
theorem fk_segments1 {H : Heap} : CmpT Tryz.prog Tup H 97 cmpLo := by
  rintro H' vs us s t _ ⟨A, n, c, B, m, d, rfl, -⟩ ⟨A', n', c', B', m', d', rfl, -⟩
  refine con_of_vc (an := an97) (fn := Tryz.f97) mix tabOK Tryz.func97 (by kernel_rfl) (extra := 0) ?_
  rw [vc97]
  refine ⟨_, cmp_Compare, ?_⟩
  rintro H1 l1 _ rfl
  rfl
def an100 : Ann where
  res := fun _ => none
  lend := fun _ => false
  sch := fun _ => .done
  lt := fun _ => []
  tup := tups

theorem vc100 (P : Program) (H : Heap) (tValsA : Option Addr) (tValsN tValsC : Nat) (tValidFrom : Int) (tValidTo : Int) (tLineageA : Option Addr) (tLineageN tLineageC : Nat) (free0B : Nat) (post : Bool → Heap → Prop) :
  vcFn P tab an100 Tryz.f100 [.agg #[.slice tValsA tValsN tValsC, .int .i64 tValidFrom, .int .i64 tValidTo, .slice tLineageA tLineageN tLineageC], .pointer (some ⟨free0B, 0, none⟩)] 0 H ⟨false, [(false, [.bool])]⟩ post =
  (  ∃ (n0 : Int), Cells H (some ⟨free0B, 0, none⟩) 0 [.int .i64 n0] ∧ post (decide (tValidTo ≤ n0)) H) := by kernel_rfl
theorem fk_segments2 {H : Heap} {g : Nat} {f : Int} (hc : Cells H (some ⟨g, 0, none⟩) 0 [.int .i64 f]) :
    PredFn Tryz.prog Tup H 100 (.pointer (some ⟨g, 0, none⟩)) (fun x => decide (x.p.hi ≤ f)) := by
  rintro H' vs t hle ⟨A, n, c, B, m, d, rfl, -⟩
  refine con_of_vc (an := an100) (fn := Tryz.f100) mix tabOK Tryz.func100 (by kernel_rfl) (extra := 0) ?_
  rw [vc100]
  exact ⟨f, hc.mono hle, rfl⟩
abbrev SegInv (g : List Tup) (P : List Int) (R : List Vio) (n k1 : Nat) (xs1 : List Value) (k2 : Nat) (xs2 : List Value) (nx i : Int) (H' : Heap) : Prop :=
  0 ≤ i ∧ 0 ≤ nx ∧ nx ≤ n ∧ ∃ (out : List Vio) (act : List Tup), Row H' xs1 out ∧ out.length = k1 ∧ Row H' xs2 act ∧ act.length = k2 ∧ out.length ≤ i.toNat ∧ i ≤ P.length ∧ act.Sublist (g.take nx.toNat) ∧
    R = out ++ segGo (P.drop i.toNat) act (g.drop nx.toNat)
def an69 : Ann where
  res := fun | 14 => some ⟨false, [(false, [.row 91 57])]⟩ | 36 => some ⟨false, [(false, [.row 92 3])]⟩ | 50 => some ⟨false, [(false, [.row 93 57])]⟩ | 86 => some ⟨false, [(false, [.row 94 3])]⟩ | _ => none
  lend := fun | 50 => true | 86 => true | _ => false
  mt := fun | 79 => some true | 96 => some true | 98 => some false | 99 => some false | _ => none
  sch := fun | 19 => (tk [0, 1] (.alt 2 (tk [3, 4, 5, 6, 11] (.alt 7 (tk [8, 9] (.alt 10 (tk [12, 13] .done) .fin)) .fin)) .fin)) | 23 => (tk [0, 1, 2, 3, 4, 8] (.alt 5 (.alt 6 (tk [7] (.alt 9 (tk [10] (.alt 11 (.alt 12 (tk [13] .done) .fin) .fin)) .fin)) (.alt 9 (.alt 6 (tk [7, 10] (.alt 11 (.alt 12 (tk [13] .done) .fin) .fin)) .fin) .fin)) (.alt 9 (.alt 5 (.alt 6 (tk [7, 10] (.alt 11 (.alt 12 (tk [13] .done) .fin) .fin)) .fin) .fin) .fin))) | _ => .done
  lt := fun | 5 => [.slot 4 false [.row 95 3], .slot 19 false [.int .i64]] | 15 => [.slot 7 false [.row 96 53], .slot 8 false [.row 97 57], .slot 9 false [.int .i64], .slot 10 false [.int .i64]] | 19 => [.slot 8 false [.row 98 57], .slot 9 false [.int .i64]] | _ => []
  tup := tups

theorem vc69 (P : Program) (H : Heap) (gkeyA : Option Addr) (gkeyN gkeyC : Nat) (gtuplesA : Option Addr) (gtuplesN gtuplesC : Nat) (post : Option Addr → Nat → Nat → Heap → Prop) :
  vcFn P tab an69 Tryz.f69 [.agg #[.slice gkeyA gkeyN gkeyC, .slice gtuplesA gtuplesN gtuplesC]] 8 H ⟨false, [(false, [.sl])]⟩ post =
  (  ∃ (post0 : Nat → List Value → Heap → Prop), ConT P 95 [.slice gtuplesA gtuplesN gtuplesC] H ⟨false, [(false, [.row 91 57])]⟩ post0 ∧ ∀ (H1 : Heap), Heap.le H H1 → ∀ (n3 : Nat) (xs4 : List
  Value), post0 n3 xs4 H1 → ∃ (post6 : List Value → Heap → Prop), ConM P 96 [.slice none 0 0, .func (.func 97) ⟨[]⟩ ⟨[]⟩] 0 57 n3 xs4 true H1 ⟨true, []⟩ post6 ∧ ∀ (H7 : Heap), Heap.le H1 H7 →
  ∀ (ys9 : List Value), post6 ys9 H7 → ∃ (inv11 : Nat → List Value → Int → Heap → Prop), ∃ (m12 : Nat → List Value → Int → Nat), inv11 0 [] (0 : Int) H7 ∧ ∀ (H13 : Heap), Heap.le H7 H13 → ∀
  (n15 : Nat) (xs16 : List Value) (n17 : Int), inv11 n15 xs16 n17 H13 → (decide (n17 < (↑n3 : Int)) = true → (0 : Int) ≤ n17 ∧ n17 < (↑n3 : Int) ∧ ∃ (A20 : Option Addr), ∃ (n21 : Nat), ∃ (c22
  : Nat), ∃ (n23 : Int), ∃ (n24 : Int), ∃ (A25 : Option Addr), ∃ (n26 : Nat), ∃ (c27 : Nat), win ys9 (Int.toNat n17 * 4) 4 = [.slice A20 n21 c22, .int .i64 n23, .int .i64 n24, .slice A25 n26
  c27] ∧ (n15 + 2) * 8 ≤ 140737488355328 ∧ rng .i64 (n17 + (1 : Int)) ∧ inv11 (n15 + 2) (xs16 ++ [.int .i64 n23, .int .i64 n24]) (n17 + (1 : Int)) H13 ∧ m12 (n15 + 2) (xs16 ++ [.int .i64 n23,
  .int .i64 n24]) (n17 + (1 : Int)) < m12 n15 xs16 n17) ∧ (decide (n17 < (↑n3 : Int)) = false → ∃ (post29 : List Value → Heap → Prop), ConM P 79 [.slice none 0 0] 0 3 n15 xs16 true H13 ⟨true,
  []⟩ post29 ∧ ∀ (H30 : Heap), Heap.le H13 H30 → ∀ (ys32 : List Value), post29 ys32 H30 → ∃ (post34 : List Value → Nat → List Value → Heap → Prop), ConM P 98 [.slice none 0 0] 0 3 n15 ys32
  false H30 ⟨false, [(false, [.row 92 3])]⟩ post34 ∧ ∀ (H35 : Heap), Heap.le H30 H35 → ∀ (ys37 : List Value) (n38 : Nat) (xs39 : List Value), post34 ys37 n38 xs39 H35 → ∃ (inv41 : Nat → List
  Value → Nat → List Value → Int → Int → Heap → Prop), ∃ (m42 : Nat → List Value → Nat → List Value → Int → Int → Nat), inv41 0 [] 0 [] (0 : Int) (0 : Int) H35 ∧ ∀ (H43 : Heap), Heap.le H35
  H43 → ∀ (n45 : Nat) (xs46 : List Value) (n47 : Nat) (xs48 : List Value) (n49 n50 : Int), inv41 n45 xs46 n47 xs48 n49 n50 H43 → rng .i64 (n50 + (1 : Int)) ∧ (decide (n50 + (1 : Int) < (↑n38
  : Int)) = true → (0 : Int) ≤ n50 ∧ n50 < (↑n38 : Int) ∧ ∃ (n53 : Int), win xs39 (Int.toNat n50 * 1) 1 = [.int .i64 n53] ∧ ∃ (post54 : List Value → Nat → List Value → Heap → Prop), (∀ (g55 :
  Nat) (H56 : Heap), Heap.le H43 H56 → Cells H56 (some ⟨g55, 0, none⟩) 0 [.int .i64 n53] → ConM P 99 [.slice none 0 0, .func (.func 100) ⟨[]⟩ ⟨[.pointer (some ⟨g55, 0, none⟩)]⟩] 0 57 n47 xs48
  false H56 ⟨false, [(false, [.row 93 57])]⟩ post54) ∧ ∀ (H59 : Heap) (ys60 : List Value) (n61 : Nat) (xs62 : List Value), post54 ys60 n61 xs62 H59 → ∃ (inv64 : Nat → List Value → Int → Heap
  → Prop), ∃ (m65 : Nat → List Value → Int → Nat), inv64 n61 xs62 n49 H43 ∧ ∀ (H66 : Heap), Heap.le H43 H66 → ∀ (n68 : Nat) (xs69 : List Value) (n70 : Int), inv64 n68 xs69 n70 H66 → (decide
  (n70 < (↑n3 : Int)) = true → (0 : Int) ≤ n70 ∧ n70 < (↑n3 : Int) ∧ ∃ (n73 : Int), win ys9 (Int.toNat n70 * 4 + 1 + 0) 1 = [.int .i64 n73] ∧ (decide (n73 = n53) = true → (0 : Int) ≤ n70 ∧
  n70 < (↑n3 : Int) ∧ ∃ (A75 : Option Addr), ∃ (n76 : Nat), ∃ (c77 : Nat), ∃ (n78 : Int), ∃ (n79 : Int), ∃ (A80 : Option Addr), ∃ (n81 : Nat), ∃ (c82 : Nat), win ys9 (Int.toNat n70 * 4) 4 =
  [.slice A75 n76 c77, .int .i64 n78, .int .i64 n79, .slice A80 n81 c82] ∧ (n68 + 1) * 64 ≤ 140737488355328 ∧ rng .i64 (n70 + (1 : Int)) ∧ inv64 (n68 + 1) (xs69 ++ [.slice A75 n76 c77, .int
  .i64 n78, .int .i64 n79, .slice A80 n81 c82]) (n70 + (1 : Int)) H66 ∧ m65 (n68 + 1) (xs69 ++ [.slice A75 n76 c77, .int .i64 n78, .int .i64 n79, .slice A80 n81 c82]) (n70 + (1 : Int)) < m65
  n68 xs69 n70) ∧ (decide (n73 = n53) = false → (decide ((0 : Int) < (↑n68 : Int)) = true → rng .i64 (n50 + (1 : Int)) ∧ ((0 : Int) ≤ n50 + (1 : Int) ∧ n50 + (1 : Int) < (↑n38 : Int) ∧ (∃
  (n85 : Int), win xs39 (Int.toNat (n50 + (1 : Int)) * 1) 1 = [.int .i64 n85] ∧ ∃ (post86 : Nat → List Value → Heap → Prop), (∀ (A87 : Option Addr) (c88 : Nat) (H89 : Heap), Heap.le H66 H89 →
  Cells H89 A87 0 xs69 → n68 ≤ c88 → ConT P 101 [.slice A87 n68 c88] H89 ⟨false, [(false, [.row 94 3])]⟩ post86) ∧ ∀ (H93 : Heap) (n94 : Nat) (xs95 : List Value), post86 n94 xs95 H93 → ∀ (A97
  : Option Addr) (c98 : Nat) (H99 : Heap), Heap.le H66 H99 → Cells H99 A97 0 xs95 → n94 ≤ c98 → (n45 + 1) * 40 ≤ 140737488355328 ∧ rng .i64 (n50 + (1 : Int)) ∧ inv41 (n45 + 1) (xs46 ++ [.int
  .i64 n53, .int .i64 n85, .slice A97 n94 c98]) n68 xs69 n70 (n50 + (1 : Int)) H99 ∧ m42 (n45 + 1) (xs46 ++ [.int .i64 n53, .int .i64 n85, .slice A97 n94 c98]) n68 xs69 n70 (n50 + (1 : Int))
  < m42 n45 xs46 n47 xs48 n49 n50) ∧ ∃ (post103 : Nat → List Value → Heap → Prop), (∀ (A104 : Option Addr) (c105 : Nat) (H106 : Heap), Heap.le H66 H106 → Cells H106 A104 0 xs69 → n68 ≤ c105 →
  ConT P 101 [.slice A104 n68 c105] H106 ⟨false, [(false, [.row 94 3])]⟩ post103) ∧ ∀ (H110 : Heap) (n111 : Nat) (xs112 : List Value), post103 n111 xs112 H110 → ∃ (n114 : Int), win xs39
  (Int.toNat (n50 + (1 : Int)) * 1) 1 = [.int .i64 n114] ∧ ∀ (A115 : Option Addr) (c116 : Nat) (H117 : Heap), Heap.le H66 H117 → Cells H117 A115 0 xs112 → n111 ≤ c116 → (n45 + 1) * 40 ≤
  140737488355328 ∧ rng .i64 (n50 + (1 : Int)) ∧ inv41 (n45 + 1) (xs46 ++ [.int .i64 n53, .int .i64 n114, .slice A115 n111 c116]) n68 xs69 n70 (n50 + (1 : Int)) H117 ∧ m42 (n45 + 1) (xs46 ++
  [.int .i64 n53, .int .i64 n114, .slice A115 n111 c116]) n68 xs69 n70 (n50 + (1 : Int)) < m42 n45 xs46 n47 xs48 n49 n50) ∧ ∃ (post121 : Nat → List Value → Heap → Prop), (∀ (A122 : Option
  Addr) (c123 : Nat) (H124 : Heap), Heap.le H66 H124 → Cells H124 A122 0 xs69 → n68 ≤ c123 → ConT P 101 [.slice A122 n68 c123] H124 ⟨false, [(false, [.row 94 3])]⟩ post121) ∧ ∀ (H128 : Heap)
  (n129 : Nat) (xs130 : List Value), post121 n129 xs130 H128 → (0 : Int) ≤ n50 + (1 : Int) ∧ n50 + (1 : Int) < (↑n38 : Int) ∧ ∃ (n132 : Int), win xs39 (Int.toNat (n50 + (1 : Int)) * 1) 1 =
  [.int .i64 n132] ∧ ∀ (A133 : Option Addr) (c134 : Nat) (H135 : Heap), Heap.le H66 H135 → Cells H135 A133 0 xs130 → n129 ≤ c134 → (n45 + 1) * 40 ≤ 140737488355328 ∧ rng .i64 (n50 + (1 :
  Int)) ∧ inv41 (n45 + 1) (xs46 ++ [.int .i64 n53, .int .i64 n132, .slice A133 n129 c134]) n68 xs69 n70 (n50 + (1 : Int)) H135 ∧ m42 (n45 + 1) (xs46 ++ [.int .i64 n53, .int .i64 n132, .slice
  A133 n129 c134]) n68 xs69 n70 (n50 + (1 : Int)) < m42 n45 xs46 n47 xs48 n49 n50) ∧ (decide ((0 : Int) < (↑n68 : Int)) = false → rng .i64 (n50 + (1 : Int)) ∧ inv41 n45 xs46 n68 xs69 n70 (n50
  + (1 : Int)) H66 ∧ m42 n45 xs46 n68 xs69 n70 (n50 + (1 : Int)) < m42 n45 xs46 n47 xs48 n49 n50))) ∧ (decide (n70 < (↑n3 : Int)) = false → (decide ((0 : Int) < (↑n68 : Int)) = true → rng
  .i64 (n50 + (1 : Int)) ∧ ((0 : Int) ≤ n50 + (1 : Int) ∧ n50 + (1 : Int) < (↑n38 : Int) ∧ (∃ (n142 : Int), win xs39 (Int.toNat (n50 + (1 : Int)) * 1) 1 = [.int .i64 n142] ∧ ∃ (post143 : Nat
  → List Value → Heap → Prop), (∀ (A144 : Option Addr) (c145 : Nat) (H146 : Heap), Heap.le H66 H146 → Cells H146 A144 0 xs69 → n68 ≤ c145 → ConT P 101 [.slice A144 n68 c145] H146 ⟨false,
  [(false, [.row 94 3])]⟩ post143) ∧ ∀ (H150 : Heap) (n151 : Nat) (xs152 : List Value), post143 n151 xs152 H150 → ∀ (A154 : Option Addr) (c155 : Nat) (H156 : Heap), Heap.le H66 H156 → Cells
  H156 A154 0 xs152 → n151 ≤ c155 → (n45 + 1) * 40 ≤ 140737488355328 ∧ rng .i64 (n50 + (1 : Int)) ∧ inv41 (n45 + 1) (xs46 ++ [.int .i64 n53, .int .i64 n142, .slice A154 n151 c155]) n68 xs69
  n70 (n50 + (1 : Int)) H156 ∧ m42 (n45 + 1) (xs46 ++ [.int .i64 n53, .int .i64 n142, .slice A154 n151 c155]) n68 xs69 n70 (n50 + (1 : Int)) < m42 n45 xs46 n47 xs48 n49 n50) ∧ ∃ (post160 :
  Nat → List Value → Heap → Prop), (∀ (A161 : Option Addr) (c162 : Nat) (H163 : Heap), Heap.le H66 H163 → Cells H163 A161 0 xs69 → n68 ≤ c162 → ConT P 101 [.slice A161 n68 c162] H163 ⟨false,
  [(false, [.row 94 3])]⟩ post160) ∧ ∀ (H167 : Heap) (n168 : Nat) (xs169 : List Value), post160 n168 xs169 H167 → ∃ (n171 : Int), win xs39 (Int.toNat (n50 + (1 : Int)) * 1) 1 = [.int .i64
  n171] ∧ ∀ (A172 : Option Addr) (c173 : Nat) (H174 : Heap), Heap.le H66 H174 → Cells H174 A172 0 xs169 → n168 ≤ c173 → (n45 + 1) * 40 ≤ 140737488355328 ∧ rng .i64 (n50 + (1 : Int)) ∧ inv41
  (n45 + 1) (xs46 ++ [.int .i64 n53, .int .i64 n171, .slice A172 n168 c173]) n68 xs69 n70 (n50 + (1 : Int)) H174 ∧ m42 (n45 + 1) (xs46 ++ [.int .i64 n53, .int .i64 n171, .slice A172 n168
  c173]) n68 xs69 n70 (n50 + (1 : Int)) < m42 n45 xs46 n47 xs48 n49 n50) ∧ ∃ (post178 : Nat → List Value → Heap → Prop), (∀ (A179 : Option Addr) (c180 : Nat) (H181 : Heap), Heap.le H66 H181 →
  Cells H181 A179 0 xs69 → n68 ≤ c180 → ConT P 101 [.slice A179 n68 c180] H181 ⟨false, [(false, [.row 94 3])]⟩ post178) ∧ ∀ (H185 : Heap) (n186 : Nat) (xs187 : List Value), post178 n186 xs187
  H185 → (0 : Int) ≤ n50 + (1 : Int) ∧ n50 + (1 : Int) < (↑n38 : Int) ∧ ∃ (n189 : Int), win xs39 (Int.toNat (n50 + (1 : Int)) * 1) 1 = [.int .i64 n189] ∧ ∀ (A190 : Option Addr) (c191 : Nat)
  (H192 : Heap), Heap.le H66 H192 → Cells H192 A190 0 xs187 → n186 ≤ c191 → (n45 + 1) * 40 ≤ 140737488355328 ∧ rng .i64 (n50 + (1 : Int)) ∧ inv41 (n45 + 1) (xs46 ++ [.int .i64 n53, .int .i64
  n189, .slice A190 n186 c191]) n68 xs69 n70 (n50 + (1 : Int)) H192 ∧ m42 (n45 + 1) (xs46 ++ [.int .i64 n53, .int .i64 n189, .slice A190 n186 c191]) n68 xs69 n70 (n50 + (1 : Int)) < m42 n45
  xs46 n47 xs48 n49 n50) ∧ (decide ((0 : Int) < (↑n68 : Int)) = false → rng .i64 (n50 + (1 : Int)) ∧ inv41 n45 xs46 n68 xs69 n70 (n50 + (1 : Int)) H66 ∧ m42 n45 xs46 n68 xs69 n70 (n50 + (1 :
  Int)) < m42 n45 xs46 n47 xs48 n49 n50))) ∧ (decide (n50 + (1 : Int) < (↑n38 : Int)) = false → ∀ (A198 : Option Addr) (c199 : Nat) (H200 : Heap), Heap.le H43 H200 → Cells H200 A198 0 xs46 →
  n45 ≤ c199 → post A198 n45 c199 H200))) := by kernel_rfl
set_option maxHeartbeats 2000000 in
theorem fk_segments {H : Heap} {A B : Option Addr} {n c m d : Nat} {l : List Tup} (ht : Sl H B m d l) (hm : m < 300) (hv : ∀ x ∈ l, pOk x.p = true) (hb : (tlins l).length * 8 ≤ 140737488355328) :
    ConT Tryz.prog 69 [.agg ⟨[.slice A n c, .slice B m d]⟩] H shS (fun A' n' c' H' => Sl H' A' n' c' (segF (fkF l []) (canon (tends l)))) := by
  refine con_of_vc (an := an69) (fn := Tryz.f69) mix tabOK Tryz.func69 (by kernel_rfl) (extra := 8) ?_
  rw [vc69]
  have hl := ht.len
  refine ⟨_, Clone_TupRow ht, ?_⟩
  rintro H1 l1 _ xs4 ⟨rfl, hr4⟩
  refine ⟨_, SortStable_Tup hr4 rfl (by omega) ⟨_, Tryz.func97, rfl, by kernel_rfl⟩ cmpLo_swo fk_segments1, ?_⟩
  rintro H7 l7 ys9 ⟨g, hg, hgp, hgs⟩
  have hgl := hgp.length_eq
  have hasc : ascT g := hgs.imp fun {a b} h => by
    unfold cmpLo at h
    rw [cmpI_lt] at h; omega
  have hlg : (tlins g).length * 8 ≤ 140737488355328 := by
    have := (hgp.flatMap_right fun t : Tup => t.lin).length_eq
    have e : (tlins g).length = (tlins l).length := this
    rw [e]; exact hb
  rw [← segs_ref hgp hv hasc]
  generalize hR : segGo (canon (ptsT g)) [] g = R
  refine ⟨fun k xs i H' => 0 ≤ i ∧ i ≤ l.length ∧ k = (ptsT (g.take i.toNat)).length ∧ Row H' xs (ptsT (g.take i.toNat)), fun _ _ i => l.length - i.toNat, ⟨by omega, by omega, rfl, rfl⟩, ?_⟩
  rintro H13 l13 k xs i ⟨h0, h1, hk, hr⟩
  have hlen := ptsT_len (g.take i.toNat)
  rw [List.length_take] at hlen
  have e1 : (i + 1).toNat = i.toNat + 1 := by omega
  refine ⟨fun hlt => ?_, fun hge => ?_⟩
  · have hlt := of_decide_eq_true hlt
    have hi : i.toNat < g.length := by omega
    obtain ⟨A9, n9, c9, A14, n15, c16, e, q1, q2, q3, q4⟩ := (hg.mono l13).getw hi
    have hsu := ptsT_succ hi
    refine ⟨h0, hlt, _, _, _, _, _, _, _, _, e, by omega, by simp only [rng]; omega, ⟨by omega, by omega, by rw [e1, hsu, List.length_append, ← hk]; rfl, ?_⟩, by dsimp only; omega⟩
    rw [e1, hsu]
    exact hr.append ⟨[_], [_], rfl, ⟨rfl, q2⟩, [_], [], rfl, ⟨rfl, q3⟩, rfl⟩
  have hge := of_decide_eq_false hge
  rw [List.take_of_length_le (by omega)] at hk hr
  have hpl := ptsT_len g
  refine ⟨_, Sort_Int hr hk.symm (by omega), ?_⟩
  intro H30 l30 ys32 h30
  have h30 : Row H30 ys32 (sortI (ptsT g)) := h30
  refine ⟨_, Compact_Int h30 (by rw [sortI_len, hk]) (by omega), ?_⟩
  rintro H35 l35 ys37 _ xs39 ⟨rfl, hP⟩
  have hP : Row H35 xs39 (canon (ptsT g)) := hP
  have hK : (Lib.compact (sortI (ptsT g))).length = (canon (ptsT g)).length := rfl
  have hcl := canon_len (ptsT g)
  rw [hK]
  generalize hPe : canon (ptsT g) = P at hP hcl hR
  have hg35 : Row H35 ys9 g := hg.mono (hle_trans l13 (hle_trans l30 l35))
  refine ⟨fun k1 xs1 k2 xs2 nx i H' => SegInv g P R l.length k1 xs1 k2 xs2 nx i H', fun _ _ _ _ _ i => P.length - i.toNat, ⟨by omega, by omega, by omega, [], [], rfl, rfl, rfl, rfl, by simp, by omega, by simp, by simpa using hR.symm⟩, ?_⟩
  rintro H43 l43 k1 xs1 k2 xs2 nx i ⟨i0, nx0, nx1, out, act, ho, hol, ha, hal, hoi, hin, hsub, he⟩
  have hP43 := hP.mono l43
  have hg43 := hg35.mono l43
  refine ⟨by simp only [rng]; omega, fun hlt => ?_, fun hge => ?_⟩
  · have hlt := of_decide_eq_true hlt
    have hi : i.toNat < P.length := by omega
    have hi1 : (i + 1).toNat < P.length := by omega
    have e1 : (i + 1).toNat = i.toNat + 1 := by omega
    have hi1' : i.toNat + 1 < P.length := by omega
    obtain ⟨w1, hrf⟩ := hP43.getw hi
    obtain ⟨w2, hrt⟩ := hP43.getw hi1
    have hpts : P.drop i.toNat = P[i.toNat] :: P[i.toNat + 1] :: P.drop (i.toNat + 1 + 1) := by
      rw [List.drop_eq_getElem_cons hi, List.drop_eq_getElem_cons hi1']
    have hpts1 : P.drop (i + 1).toNat = P[i.toNat + 1] :: P.drop (i.toNat + 1 + 1) := by rw [e1]; exact List.drop_eq_getElem_cons hi1'
    have hte : P[(i + 1).toNat] = P[i.toNat + 1] := by congr 1
    rw [hte] at w2 hrt
    generalize hf : P[i.toNat] = f at *
    generalize ht : P[i.toNat + 1] = t at *
    rw [hpts, segGo] at he
    refine ⟨i0, by omega, f, w1, _, fun g55 H56 l56 hc56 => DeleteFunc_Tup (H0 := H43) l56 ha hal (by have := hsub.length_le; rw [List.length_take] at this; omega) (fk_segments2 hc56), ?_⟩
    rintro H59 ys60 _ xs62 ⟨rfl, hd⟩
    refine ⟨fun k xs nx' H' => 0 ≤ nx' ∧ nx' ≤ l.length ∧ ∃ cur : List Tup, Row H' xs cur ∧ cur.length = k ∧ cur.Sublist (g.take nx'.toNat) ∧ stepAT f act (g.drop nx.toNat) = cur ++ (g.drop nx'.toNat).takeWhile (fun x => decide (x.p.lo = f)) ∧
        stepRT f (g.drop nx.toNat) = (g.drop nx'.toNat).dropWhile (fun x => decide (x.p.lo = f)),
      fun _ _ nx' => l.length - nx'.toNat, ⟨nx0, nx1, _, hd, rfl, List.filter_sublist.trans hsub, rfl, rfl⟩, ?_⟩
    rintro H66 l66 k68 xs69 nx' ⟨m0, m1, cur, hcu, hcl', hcs, hA', hR'⟩
    have hcb := hcs.length_le
    rw [List.length_take] at hcb
    have hlb : (tlins cur).length ≤ (tlins g).length := tlins_sub (hcs.trans (List.take_sublist _ _))
    have hcc := canon_len (tlins cur)
    -- one segment more
    have fin : R = out ++ (sgOf f t cur ++ segGo (t :: P.drop (i.toNat + 1 + 1)) cur (g.drop nx'.toNat)) → 0 < k68 → ∀ {Hx : Heap} {zs : List Value}, Row Hx zs (canon (tlins cur)) →
        ∀ (A97 : Option Addr) (c98 : Nat) (H99 : Heap), Heap.le H66 H99 → Cells H99 A97 0 zs → (canon (tlins cur)).length ≤ c98 →
          (k1 + 1) * 40 ≤ 140737488355328 ∧ rng .i64 (i + 1) ∧ SegInv g P R l.length (k1 + 1) (xs1 ++ [.int .i64 f, .int .i64 t, .slice A97 (canon (tlins cur)).length c98]) k68 xs69 nx' (i + 1) H99 ∧ P.length - (i + 1).toNat < P.length - i.toNat := by
      intro hee hk0 Hx zs hm A97 c98 H99 l99 hc99 hn99
      obtain ⟨m1', m2'⟩ := row_int hm
      have hmS : Sl H99 A97 (canon (tlins cur)).length c98 (canon (tlins cur)) := Row.sl (H := H99) (m1' ▸ int_row m2') (hle_refl H99) hc99 rfl hn99 (by show _ * 8 ≤ _; omega) (by omega)
      refine ⟨by omega, by simp only [rng]; omega, ⟨by omega, m0, m1, out ++ [⟨⟨f, t⟩, canon (tlins cur)⟩], cur, ((ho.mono l66).mono l99).append (Row.one ⟨_, _, _, rfl, hrf, hrt, hmS⟩), by simp [hol], hcu.mono l99, hcl', by simp; omega, by omega, hcs, ?_⟩, by omega⟩
      rw [hee, hpts1, sgOf, if_pos (by omega)]
      simp
    have noseg : R = out ++ (sgOf f t cur ++ segGo (t :: P.drop (i.toNat + 1 + 1)) cur (g.drop nx'.toNat)) → ¬ 0 < k68 → rng .i64 (i + 1) ∧ SegInv g P R l.length k1 xs1 k68 xs69 nx' (i + 1) H66 ∧ P.length - (i + 1).toNat < P.length - i.toNat := by
      intro hee hk0
      refine ⟨by simp only [rng]; omega, ⟨by omega, m0, m1, out, cur, ho.mono l66, hol, hcu, hcl', by omega, by omega, hcs, ?_⟩, by omega⟩
      rw [hee, hpts1, sgOf, if_neg (by omega), List.nil_append]
    have call : ∀ (A87 : Option Addr) (c88 : Nat) (H89 : Heap), Heap.le H66 H89 → Cells H89 A87 0 xs69 → k68 ≤ c88 → ConT Tryz.prog 101 [.slice A87 k68 c88] H89 ⟨false, [(false, [.row 94 3])]⟩ (fun k xs H' => k = (canon (tlins cur)).length ∧ Row H' xs (canon (tlins cur))) :=
      fun A87 c88 H89 l89 hc89 hn89 => fk_lineages (hcu.sl l89 hc89 hcl' hn89 (by show k68 * 64 ≤ _; omega) (by omega)) (by omega)
    refine ⟨fun hnl => ?_, fun hnl => ?_⟩
    · have hnl := of_decide_eq_true hnl
      have hj : nx'.toNat < g.length := by omega
      obtain ⟨vs, hrel, hwg, -⟩ := (hg43.mono l66).getf hj
      have hgw := (hg43.mono l66).getw hj
      obtain ⟨A9, n9, c9, A14, n15, c16, rfl, q⟩ := id hrel
      have hdr : g.drop nx'.toNat = g[nx'.toNat] :: g.drop (nx'.toNat + 1) := List.drop_eq_getElem_cons hj
      rw [hdr] at hA' hR'
      have e2 : (nx' + 1).toNat = nx'.toNat + 1 := by omega
      refine ⟨m0, hnl, g[nx'.toNat].p.lo, hwg 1 1 (by decide), fun heq => ?_, fun hne => ?_⟩
      · have heq := of_decide_eq_true heq
        rw [List.takeWhile_cons, if_pos (by simpa using heq)] at hA'
        rw [List.dropWhile_cons, if_pos (by simpa using heq)] at hR'
        refine ⟨m0, hnl, _, _, _, _, _, _, _, _, hwg 0 4 (by decide), by omega, by simp only [rng]; omega, ⟨by omega, by omega, cur ++ [g[nx'.toNat]], hcu.append ⟨_, [], by simp, hrel, rfl⟩, by simp [hcl'], ?_, ?_, ?_⟩, by dsimp only; omega⟩
        · rw [e2, List.take_succ_eq_append_getElem hj]; exact hcs.append (List.Sublist.refl _)
        · rw [e2, hA']; simp
        · rw [e2, hR']
      · have hne := of_decide_eq_false hne
        rw [List.takeWhile_cons, if_neg (by simpa using hne), List.append_nil] at hA'
        rw [List.dropWhile_cons, if_neg (by simpa using hne), ← hdr] at hR'
        rw [hA', hR'] at he
        refine ⟨fun h2 => ?_, fun h2 => noseg he (by have := of_decide_eq_false h2; omega)⟩
        have h2 := of_decide_eq_true h2
        refine ⟨by simp only [rng]; omega, ⟨by omega, hlt, ⟨t, w2, _, call, ?_⟩, _, call, ?_⟩, _, call, ?_⟩
        · rintro Hx _ zs ⟨rfl, hz⟩
          exact fin he (by omega) hz
        · rintro Hx _ zs ⟨rfl, hz⟩
          exact ⟨t, w2, fin he (by omega) hz⟩
        · rintro Hx _ zs ⟨rfl, hz⟩
          exact ⟨by omega, hlt, t, w2, fin he (by omega) hz⟩
    · have hnl := of_decide_eq_false hnl
      have hdr : g.drop nx'.toNat = [] := List.drop_eq_nil_of_le (by omega)
      rw [hdr] at hA' hR'
      simp only [List.takeWhile_nil, List.append_nil, List.dropWhile_nil] at hA' hR'
      rw [← hdr] at hR'
      rw [hA', hR'] at he
      refine ⟨fun h2 => ?_, fun h2 => noseg he (by have := of_decide_eq_false h2; omega)⟩
      have h2 := of_decide_eq_true h2
      refine ⟨by simp only [rng]; omega, ⟨by omega, hlt, ⟨t, w2, _, call, ?_⟩, _, call, ?_⟩, _, call, ?_⟩
      · rintro Hx _ zs ⟨rfl, hz⟩
        exact fin he (by omega) hz
      · rintro Hx _ zs ⟨rfl, hz⟩
        exact ⟨t, w2, fin he (by omega) hz⟩
      · rintro Hx _ zs ⟨rfl, hz⟩
        exact ⟨by omega, hlt, t, w2, fin he (by omega) hz⟩
  · have hge := of_decide_eq_false hge
    intro A9 c9 H11 l11 hc11 hn11
    have hend : R = out := by
      rw [he]
      have : (P.drop i.toNat).length ≤ 1 := by rw [List.length_drop]; omega
      match P.drop i.toNat, this with
      | [], _ => simp [segGo]
      | [x], _ => simp [segGo]
    rw [hend]
    exact ho.sl l11 hc11 hol hn11 (by show k1 * 40 ≤ _; omega) (by omega)
end Go.Vc
/- The groups. -/
namespace Go.Vc
open Go Go.Proofs Go.Shelf
def GrpX (H : Heap) (O : OMap) (N : Nat) (ZS : List Value) (e : Int) (us : List Value) (R : List Value → Heap → OMap → Prop) : Prop :=
  ∃ (A46 : Option Addr), ∃ (n47 : Nat), ∃ (c48 : Nat), win ZS (Int.toNat e * 2 + 1) 1 = [.slice A46 n47 c48] ∧ ∃ (xs49 : List Value), isOpen O A46 57 n47 c48 ∧ Cells H A46 0 xs49 ∧ List.length xs49 = n47 * 4 ∧ (n47 + 1) * 64 ≤ 140737488355328 ∧
    ∀ (A50 : Option Addr) (c51 : Nat) (H52 : Heap) (O53 : OMap), Heap.le H H52 → Cells H52 A50 0 (xs49 ++ us) → n47 + 1 ≤ c51 → isOpen O53 A50 57 (n47 + 1) c51 → keepO O O53 A46 A50 →
      (0 : Int) ≤ e ∧ e < (↑N : Int) ∧ Int.toNat e * 2 + 1 + 1 ≤ List.length ZS ∧ R (splice ZS (Int.toNat e * 2 + 1) [.slice A50 (n47 + 1) c51]) H52 O53
def GrpF (H : Heap) (O : OMap) (N : Nat) (ZS : List Value) (e : Int) (us : List Value) (R : List Value → Heap → OMap → Prop) : Prop :=
  ((0 : Int) ≤ e ∧ e < (↑N : Int) ∧ GrpX H O N ZS e us R ∧ GrpX H O N ZS e us R) ∧ (0 : Int) ≤ e ∧ e < (↑N : Int) ∧ GrpX H O N ZS e us R
theorem grpF_ok {H : Heap} {O : OMap} {N : Nat} {ZS : List Value} {e : Int} {us : List Value} {R : List Value → Heap → OMap → Prop} {rs : List GrpR} {x : Tup}
    (h : GrpsOK O H ZS rs) (hN : rs.length = N) (h0 : 0 ≤ e) (he : e < N) (hi : e.toNat < rs.length) (hx : Rep.rel H us x) (hm : (rs[e.toNat].m + 1) * 64 ≤ 140737488355328)
    (hR : ∀ xs' H' O' A c, Heap.le H H' → GrpsOK O' H' xs' (rs.set e.toNat ⟨rs[e.toNat].key, A, rs[e.toNat].m + 1, c, rs[e.toNat].rows ++ [x]⟩) → (∀ b0 t es, O b0 = some (.mp t es) → O' b0 = O b0) → R xs' H' O') : GrpF H O N ZS e us R := by
  have key : GrpX H O N ZS e us R := by
    obtain ⟨vs, ⟨A1, n1, c1, rfl, q1⟩, hg, -⟩ := h.row.getf hi
    obtain ⟨a1, ⟨ys, a2, a3⟩, a4, a5⟩ := h.opn _ hi
    refine ⟨_, _, _, hg 1 1 (by decide), ys, a1, a2, by rw [a3.length, a4]; rfl, hm, ?_⟩
    intro A50 c51 H52 O53 hle hc hcap hop hkeep
    refine ⟨h0, he, ?_, hR _ H52 O53 A50 c51 hle (h.push hi a3 hle hc (Rep.mono hle hx) hop hkeep hcap) ?_⟩
    · rw [h.row.length]
      show _ ≤ rs.length * 2
      omega
    · intro b0 t es hb
      refine (hkeep b0 (by rw [hb]; simp) ?_).2
      rcases a1 with ⟨h1, -⟩ | ⟨b, hb1, hb2⟩
      · rw [h1]; simp
      · rw [hb1]
        intro e'
        have : b = b0 := by simpa using e'
        subst this
        rw [hb] at hb2; cases hb2
  exact ⟨⟨h0, he, key, key⟩, h0, he, key⟩
def an63 : Ann where
  res := fun _ => none
  lend := fun | 9 => true | _ => false
  sch := fun _ => .done
  lt := fun _ => []
  tup := tups

theorem vc63 (P : Program) (H : Heap) (akeyA : Option Addr) (akeyN akeyC : Nat) (atuplesA : Option Addr) (atuplesN atuplesC : Nat) (bkeyA : Option Addr) (bkeyN bkeyC : Nat) (btuplesA : Option Addr) (btuplesN btuplesC : Nat) (post : Int → Heap → Prop) :
  vcFn P tab an63 Tryz.f63 [.agg #[.slice akeyA akeyN akeyC, .slice atuplesA atuplesN atuplesC], .agg #[.slice bkeyA bkeyN bkeyC, .slice btuplesA btuplesN btuplesC]] 0 H ⟨false, [(false, [.int .i64])]⟩ post =
  (  ∃ (post0 : Int → Heap → Prop), ConT P 32 [.slice akeyA akeyN akeyC, .slice bkeyA bkeyN bkeyC] H ⟨false, [(false, [.int .i64])]⟩ post0 ∧ ∀ (H1 : Heap), Heap.le H H1 → ∀ (n3 : Int), post0 n3
  H1 → post n3 H1) := by kernel_rfl
theorem fk_groups1 {H : Heap} {vs us : List Value} {s t : GrpR} (h1 : Rep.rel H vs s) (h2 : Rep.rel H us t) : ConT Tryz.prog 63 [.agg ⟨vs⟩, .agg ⟨us⟩] H shI (fun r _ => r = cmpVs s.key t.key) := by
  obtain ⟨A, n, c, rfl, q1⟩ := h1
  obtain ⟨A', n', c', rfl, q2⟩ := h2
  refine con_of_vc (an := an63) (fn := Tryz.f63) mix tabOK Tryz.func63 (by kernel_rfl) (extra := 0) ?_
  rw [vc63]
  exact ⟨_, value_CompareRows q1 q2, fun _ _ _ h => h⟩
def sortLay_Grp_ren : Go.Shelf.Ren := ⟨fun | 6 => 62 | 15 => 88 | 14 => 91 | 28 => 119 | 29 => 120 | 20 => 121 | 21 => 122 | 22 => 123 | 23 => 124 | 24 => 125 | 25 => 126 | 26 => 127 | 27 => 128 | 46 => 160 | 47 => 156 | 48 => 157 | 49 => 161 | 50 => 162 | 57 => 178 | n => n, fun | 22 => 69 | 24 => 72 | 25 => 101 | 3 => 3 | 39 => 124 | 0 => 0 | 53 => 160 | 55 => 162 | 4 => 4 | 46 => 154 | 45 => 153 | 50 => 91 | 5 => 5 | 9 => 9 | 66 => 187 | 70 => 191 | 76 => 206 | 77 => 207 | n => n, fun n => n⟩
theorem sortLay_Grp : SlLaysF0.n6 Tryz.prog sortLay_Grp_ren where
  mixed := by kernel_rfl
  f6 := ⟨Tryz.f62.name, by kernel_rfl, Tryz.func62.trans (congrArg some (by kernel_rfl))⟩
  f14 := ⟨Tryz.f91.name, by kernel_rfl, Tryz.func91.trans (congrArg some (by kernel_rfl))⟩
  f15 := Tryz.func88.trans (congrArg some (by kernel_rfl))
  f20 := ⟨Tryz.f121.name, by kernel_rfl, Tryz.func121.trans (congrArg some (by kernel_rfl))⟩
  f21 := ⟨Tryz.f122.name, by kernel_rfl, Tryz.func122.trans (congrArg some (by kernel_rfl))⟩
  f22 := ⟨Tryz.f123.name, by kernel_rfl, Tryz.func123.trans (congrArg some (by kernel_rfl))⟩
  f23 := ⟨Tryz.f124.name, by kernel_rfl, Tryz.func124.trans (congrArg some (by kernel_rfl))⟩
  f24 := ⟨Tryz.f125.name, by kernel_rfl, Tryz.func125.trans (congrArg some (by kernel_rfl))⟩
  f25 := ⟨Tryz.f126.name, by kernel_rfl, Tryz.func126.trans (congrArg some (by kernel_rfl))⟩
  f26 := ⟨Tryz.f127.name, by kernel_rfl, Tryz.func127.trans (congrArg some (by kernel_rfl))⟩
  f27 := ⟨Tryz.f128.name, by kernel_rfl, Tryz.func128.trans (congrArg some (by kernel_rfl))⟩
  f28 := Tryz.func119.trans (congrArg some (by kernel_rfl))
  f29 := Tryz.func120.trans (congrArg some (by kernel_rfl))
  f46 := ⟨Tryz.f160.name, by kernel_rfl, Tryz.func160.trans (congrArg some (by kernel_rfl))⟩
  f47 := Tryz.func156.trans (congrArg some (by kernel_rfl))
  f48 := Tryz.func157.trans (congrArg some (by kernel_rfl))
  f49 := ⟨Tryz.f161.name, by kernel_rfl, Tryz.func161.trans (congrArg some (by kernel_rfl))⟩
  f50 := ⟨Tryz.f162.name, by kernel_rfl, Tryz.func162.trans (congrArg some (by kernel_rfl))⟩
  f57 := ⟨Tryz.f178.name, by kernel_rfl, Tryz.func178.trans (congrArg some (by kernel_rfl))⟩
  t0 := Tryz.underlying0
  a0 := Tryz.isAgg0
  z0 := Tryz.sizeOf0
  v0 := Tryz.zeroValue0
  t3 := Tryz.underlying3
  a3 := Tryz.isAgg3
  z3 := Tryz.sizeOf3
  v3 := Tryz.zeroValue3
  t4 := Tryz.underlying4
  a4 := Tryz.isAgg4
  z4 := Tryz.sizeOf4
  v4 := Tryz.zeroValue4
  t5 := Tryz.underlying5
  a5 := Tryz.isAgg5
  z5 := Tryz.sizeOf5
  v5 := Tryz.zeroValue5
  t9 := Tryz.underlying9
  a9 := Tryz.isAgg9
  z9 := Tryz.sizeOf9
  v9 := Tryz.zeroValue9
  t22 := Tryz.underlying69
  a22 := Tryz.isAgg69
  z22 := Tryz.sizeOf69
  v22 := Tryz.zeroValue69
  t25 := Tryz.underlying101
  a25 := Tryz.isAgg101
  z25 := Tryz.sizeOf101
  v25 := Tryz.zeroValue101
  t39 := Tryz.underlying124
  a39 := Tryz.isAgg124
  z39 := Tryz.sizeOf124
  v39 := Tryz.zeroValue124
  t45 := Tryz.underlying153
  a45 := Tryz.isAgg153
  z45 := Tryz.sizeOf153
  v45 := Tryz.zeroValue153
  t46 := Tryz.underlying154
  a46 := Tryz.isAgg154
  z46 := Tryz.sizeOf154
  v46 := Tryz.zeroValue154
  t50 := Tryz.underlying91
  a50 := Tryz.isAgg91
  z50 := Tryz.sizeOf91
  v50 := Tryz.zeroValue91
  t53 := Tryz.underlying160
  a53 := Tryz.isAgg160
  z53 := Tryz.sizeOf160
  v53 := Tryz.zeroValue160
  t55 := Tryz.underlying162
  a55 := Tryz.isAgg162
  z55 := Tryz.sizeOf162
  v55 := Tryz.zeroValue162
  t66 := Tryz.underlying187
  a66 := Tryz.isAgg187
  z66 := Tryz.sizeOf187
  v66 := Tryz.zeroValue187
  t70 := Tryz.underlying191
  a70 := Tryz.isAgg191
  z70 := Tryz.sizeOf191
  v70 := Tryz.zeroValue191
  t76 := Tryz.underlying206
  a76 := Tryz.isAgg206
  z76 := Tryz.sizeOf206
  v76 := Tryz.zeroValue206
  t77 := Tryz.underlying207
  a77 := Tryz.isAgg207
  z77 := Tryz.sizeOf207
  v77 := Tryz.zeroValue207
theorem sortL_Grp : SrtL Tryz.prog sortLay_Grp_ren 2 := ⟨sortLay_Grp, Tryz.isAgg72, Tryz.sizeOf72, by kernel_rfl⟩
set_option maxRecDepth 100000 in
theorem SortFunc_Grp {H : Heap} {n : Nat} {xs : List Value} {l : List GrpR} (hr : Row H xs l) (hl : l.length = n) (hn : n ≤ 140737488355328) :
    ConM Tryz.prog 62 [.slice none 0 0, .func (.func 63) #[] #[]] 0 72 n xs true H ⟨true, []⟩ (fun ys (H' : Heap) => ∃ m : List GrpR, Row H' ys m ∧ m.Perm l ∧ m.Pairwise (fun a b => ¬ cmpVs b.key a.key < 0)) := by
  have h := sort_con sortL_Grp hr hl hn (f := 63) (cap := []) (cf := fun x y : GrpR => cmpVs x.key y.key) ⟨_, Tryz.func63, rfl, by kernel_rfl⟩ (swo_of cmpVs_ord fun r : GrpR => r.key)
    (fun H' vs us s t _ h1 h2 => fk_groups1 h1 h2)
  exact h
theorem withK_take_len {l : List Tup} {cols : List Int} {v : List Val} {i : Nat} : (withK (l.take i) cols v).length ≤ i :=
  Nat.le_trans (List.length_filter_le _ _) (by rw [List.length_take]; omega)
def an36 : Ann where
  res := fun _ => none
  lend := fun | 22 => true | 29 => true | _ => false
  mt := fun | 62 => some true | _ => none
  sch := fun | 14 => (tk [0, 1, 2, 3, 7] (.alt 4 (tk [5] (.alt 6 (.alt 8 (.alt 9 (.alt 10 (tk [11] (.alt 12 .done .fin)) .fin) .fin) .fin) (.alt 8 (.alt 6 (.alt 9 (.alt 10 (tk [11] (.alt 12 .done .fin)) .fin) .fin) .fin) .fin))) (.alt 8 (.alt 4 (tk [5] (.alt 6 (.alt 9 (.alt 10 (tk [11] (.alt 12 .done .fin)) .fin) .fin) .fin)) .fin) .fin))) | _ => .done
  opn := true
  oap := fun | 57 => true | _ => false
  lt := fun | 4 => [.slot 6 false [.row 64 72], .slot 16 false [.int .i64]] | _ => []
  tup := tups

theorem vc36 (P : Program) (H : Heap) (lA : Option Addr) (lN lC : Nat) (colsA : Option Addr) (colsN colsC : Nat) (post : Option Addr → Nat → Nat → Heap → Prop) :
  vcFn P tab an36 Tryz.f36 [.slice lA lN lC, .slice colsA colsN colsC] 1 H ⟨false, [(false, [.sl])]⟩ post =
  (  ∀ (b0 : Nat) (O1 : Nat → Option XO), newM noO O1 b0 99 → ∃ (inv3 : Nat → List Value → Int → Heap → OMap → Prop), ∃ (m4 : Nat → List Value → Int → Nat), inv3 0 [] (0 : Int) H O1 ∧ ∀ (H5 :
  Heap), Heap.le H H5 → ∀ (O7 : Nat → Option XO) (n8 : Nat) (xs9 : List Value) (n10 : Int), inv3 n8 xs9 n10 H5 O7 → (decide (n10 < (↑lN : Int)) = true → someA lA ∧ (0 : Int) ≤ n10 ∧ n10 <
  (↑lN : Int) ∧ ∃ (A13 : Option Addr), ∃ (n14 : Nat), ∃ (c15 : Nat), ∃ (n16 : Int), ∃ (n17 : Int), ∃ (A18 : Option Addr), ∃ (n19 : Nat), ∃ (c20 : Nat), Cells H5 lA (Int.toNat n10 * 4) [.slice
  A13 n14 c15, .int .i64 n16, .int .i64 n17, .slice A18 n19 c20] ∧ ∃ (post21 : Bool → Heap → Prop), ConT P 50 [.agg ⟨[.int .i64 n16, .int .i64 n17]⟩] H5 ⟨false, [(false, [.bool])]⟩ post21 ∧ ∀
  (H22 : Heap), Heap.le H5 H22 → ∀ (b24 : Bool), post21 b24 H22 → ((!b24) = true → rng .i64 (n10 + (1 : Int)) ∧ inv3 n8 xs9 (n10 + (1 : Int)) H22 O7 ∧ m4 n8 xs9 (n10 + (1 : Int)) < m4 n8 xs9
  n10) ∧ ((!b24) = false → ∃ (post28 : Option Addr → Nat → Nat → Heap → Prop), ConT P 19 [.slice A13 n14 c15, .slice colsA colsN colsC] H22 ⟨false, [(false, [.sl])]⟩ post28 ∧ ∀ (H29 : Heap),
  Heap.le H22 H29 → ∀ (A31 : Option Addr) (n32 c33 : Nat), post28 A31 n32 c33 H29 → ∃ (post35 : ByteArray → Heap → Prop), ConT P 38 [.slice A31 n32 c33] H29 ⟨false, [(false, [.str])]⟩ post35
  ∧ ∀ (H36 : Heap), Heap.le H29 H36 → ∀ (s38 : ByteArray), post35 s38 H36 → ∃ (es40 : List (Value × Value)), isMap O7 (some b0) 99 es40 ∧ ∃ (n41 : Int), lkIs es40 (.string s38) false [.int
  .i64 (0 : Int)] [.int .i64 n41] ∧ ((!mhas es40 (.string s38)) = true → ∃ (es43 : List (Value × Value)), hasM O7 (some b0) 99 es43 ∧ ∀ (O44 : Nat → Option XO), putM O7 O44 (some b0) 99 (mput
  es43 (.string s38) (.int .i64 (↑n8 : Int))) → (n8 + 1) * 48 ≤ 140737488355328 ∧ ((0 : Int) ≤ (↑n8 : Int) ∧ (↑n8 : Int) < (↑(n8 + 1) : Int) ∧ (∃ (A46 : Option Addr), ∃ (n47 : Nat), ∃ (c48 :
  Nat), win (xs9 ++ [.slice A31 n32 c33, .slice none 0 0]) (Int.toNat (↑n8 : Int) * 2 + 1) 1 = [.slice A46 n47 c48] ∧ ∃ (xs49 : List Value), isOpen O44 A46 57 n47 c48 ∧ Cells H36 A46 0 xs49 ∧
  List.length xs49 = n47 * 4 ∧ (n47 + 1) * 64 ≤ 140737488355328 ∧ ∀ (A50 : Option Addr) (c51 : Nat) (H52 : Heap) (O53 : Nat → Option XO), Heap.le H36 H52 → Cells H52 A50 0 (xs49 ++ [.slice
  A13 n14 c15, .int .i64 n16, .int .i64 n17, .slice A18 n19 c20]) → n47 + 1 ≤ c51 → isOpen O53 A50 57 (n47 + 1) c51 → keepO O44 O53 A46 A50 → (0 : Int) ≤ (↑n8 : Int) ∧ (↑n8 : Int) < (↑(n8 +
  1) : Int) ∧ Int.toNat (↑n8 : Int) * 2 + 1 + 1 ≤ List.length (xs9 ++ [.slice A31 n32 c33, .slice none 0 0]) ∧ rng .i64 (n10 + (1 : Int)) ∧ inv3 (n8 + 1) (splice (xs9 ++ [.slice A31 n32 c33,
  .slice none 0 0]) (Int.toNat (↑n8 : Int) * 2 + 1) [.slice A50 (n47 + 1) c51]) (n10 + (1 : Int)) H52 O53 ∧ m4 (n8 + 1) (splice (xs9 ++ [.slice A31 n32 c33, .slice none 0 0]) (Int.toNat (↑n8
  : Int) * 2 + 1) [.slice A50 (n47 + 1) c51]) (n10 + (1 : Int)) < m4 n8 xs9 n10) ∧ ∃ (A59 : Option Addr), ∃ (n60 : Nat), ∃ (c61 : Nat), win (xs9 ++ [.slice A31 n32 c33, .slice none 0 0])
  (Int.toNat (↑n8 : Int) * 2 + 1) 1 = [.slice A59 n60 c61] ∧ ∃ (xs62 : List Value), isOpen O44 A59 57 n60 c61 ∧ Cells H36 A59 0 xs62 ∧ List.length xs62 = n60 * 4 ∧ (n60 + 1) * 64 ≤
  140737488355328 ∧ ∀ (A63 : Option Addr) (c64 : Nat) (H65 : Heap) (O66 : Nat → Option XO), Heap.le H36 H65 → Cells H65 A63 0 (xs62 ++ [.slice A13 n14 c15, .int .i64 n16, .int .i64 n17,
  .slice A18 n19 c20]) → n60 + 1 ≤ c64 → isOpen O66 A63 57 (n60 + 1) c64 → keepO O44 O66 A59 A63 → (0 : Int) ≤ (↑n8 : Int) ∧ (↑n8 : Int) < (↑(n8 + 1) : Int) ∧ Int.toNat (↑n8 : Int) * 2 + 1 +
  1 ≤ List.length (xs9 ++ [.slice A31 n32 c33, .slice none 0 0]) ∧ rng .i64 (n10 + (1 : Int)) ∧ inv3 (n8 + 1) (splice (xs9 ++ [.slice A31 n32 c33, .slice none 0 0]) (Int.toNat (↑n8 : Int) * 2
  + 1) [.slice A63 (n60 + 1) c64]) (n10 + (1 : Int)) H65 O66 ∧ m4 (n8 + 1) (splice (xs9 ++ [.slice A31 n32 c33, .slice none 0 0]) (Int.toNat (↑n8 : Int) * 2 + 1) [.slice A63 (n60 + 1) c64])
  (n10 + (1 : Int)) < m4 n8 xs9 n10) ∧ (0 : Int) ≤ (↑n8 : Int) ∧ (↑n8 : Int) < (↑(n8 + 1) : Int) ∧ ∃ (A72 : Option Addr), ∃ (n73 : Nat), ∃ (c74 : Nat), win (xs9 ++ [.slice A31 n32 c33, .slice
  none 0 0]) (Int.toNat (↑n8 : Int) * 2 + 1) 1 = [.slice A72 n73 c74] ∧ ∃ (xs75 : List Value), isOpen O44 A72 57 n73 c74 ∧ Cells H36 A72 0 xs75 ∧ List.length xs75 = n73 * 4 ∧ (n73 + 1) * 64 ≤
  140737488355328 ∧ ∀ (A76 : Option Addr) (c77 : Nat) (H78 : Heap) (O79 : Nat → Option XO), Heap.le H36 H78 → Cells H78 A76 0 (xs75 ++ [.slice A13 n14 c15, .int .i64 n16, .int .i64 n17,
  .slice A18 n19 c20]) → n73 + 1 ≤ c77 → isOpen O79 A76 57 (n73 + 1) c77 → keepO O44 O79 A72 A76 → (0 : Int) ≤ (↑n8 : Int) ∧ (↑n8 : Int) < (↑(n8 + 1) : Int) ∧ Int.toNat (↑n8 : Int) * 2 + 1 +
  1 ≤ List.length (xs9 ++ [.slice A31 n32 c33, .slice none 0 0]) ∧ rng .i64 (n10 + (1 : Int)) ∧ inv3 (n8 + 1) (splice (xs9 ++ [.slice A31 n32 c33, .slice none 0 0]) (Int.toNat (↑n8 : Int) * 2
  + 1) [.slice A76 (n73 + 1) c77]) (n10 + (1 : Int)) H78 O79 ∧ m4 (n8 + 1) (splice (xs9 ++ [.slice A31 n32 c33, .slice none 0 0]) (Int.toNat (↑n8 : Int) * 2 + 1) [.slice A76 (n73 + 1) c77])
  (n10 + (1 : Int)) < m4 n8 xs9 n10) ∧ ((!mhas es40 (.string s38)) = false → ((0 : Int) ≤ n41 ∧ n41 < (↑n8 : Int) ∧ (∃ (A86 : Option Addr), ∃ (n87 : Nat), ∃ (c88 : Nat), win xs9 (Int.toNat
  n41 * 2 + 1) 1 = [.slice A86 n87 c88] ∧ ∃ (xs89 : List Value), isOpen O7 A86 57 n87 c88 ∧ Cells H36 A86 0 xs89 ∧ List.length xs89 = n87 * 4 ∧ (n87 + 1) * 64 ≤ 140737488355328 ∧ ∀ (A90 :
  Option Addr) (c91 : Nat) (H92 : Heap) (O93 : Nat → Option XO), Heap.le H36 H92 → Cells H92 A90 0 (xs89 ++ [.slice A13 n14 c15, .int .i64 n16, .int .i64 n17, .slice A18 n19 c20]) → n87 + 1 ≤
  c91 → isOpen O93 A90 57 (n87 + 1) c91 → keepO O7 O93 A86 A90 → (0 : Int) ≤ n41 ∧ n41 < (↑n8 : Int) ∧ Int.toNat n41 * 2 + 1 + 1 ≤ List.length xs9 ∧ rng .i64 (n10 + (1 : Int)) ∧ inv3 n8
  (splice xs9 (Int.toNat n41 * 2 + 1) [.slice A90 (n87 + 1) c91]) (n10 + (1 : Int)) H92 O93 ∧ m4 n8 (splice xs9 (Int.toNat n41 * 2 + 1) [.slice A90 (n87 + 1) c91]) (n10 + (1 : Int)) < m4 n8
  xs9 n10) ∧ ∃ (A99 : Option Addr), ∃ (n100 : Nat), ∃ (c101 : Nat), win xs9 (Int.toNat n41 * 2 + 1) 1 = [.slice A99 n100 c101] ∧ ∃ (xs102 : List Value), isOpen O7 A99 57 n100 c101 ∧ Cells H36
  A99 0 xs102 ∧ List.length xs102 = n100 * 4 ∧ (n100 + 1) * 64 ≤ 140737488355328 ∧ ∀ (A103 : Option Addr) (c104 : Nat) (H105 : Heap) (O106 : Nat → Option XO), Heap.le H36 H105 → Cells H105
  A103 0 (xs102 ++ [.slice A13 n14 c15, .int .i64 n16, .int .i64 n17, .slice A18 n19 c20]) → n100 + 1 ≤ c104 → isOpen O106 A103 57 (n100 + 1) c104 → keepO O7 O106 A99 A103 → (0 : Int) ≤ n41 ∧
  n41 < (↑n8 : Int) ∧ Int.toNat n41 * 2 + 1 + 1 ≤ List.length xs9 ∧ rng .i64 (n10 + (1 : Int)) ∧ inv3 n8 (splice xs9 (Int.toNat n41 * 2 + 1) [.slice A103 (n100 + 1) c104]) (n10 + (1 : Int))
  H105 O106 ∧ m4 n8 (splice xs9 (Int.toNat n41 * 2 + 1) [.slice A103 (n100 + 1) c104]) (n10 + (1 : Int)) < m4 n8 xs9 n10) ∧ (0 : Int) ≤ n41 ∧ n41 < (↑n8 : Int) ∧ ∃ (A112 : Option Addr), ∃
  (n113 : Nat), ∃ (c114 : Nat), win xs9 (Int.toNat n41 * 2 + 1) 1 = [.slice A112 n113 c114] ∧ ∃ (xs115 : List Value), isOpen O7 A112 57 n113 c114 ∧ Cells H36 A112 0 xs115 ∧ List.length xs115
  = n113 * 4 ∧ (n113 + 1) * 64 ≤ 140737488355328 ∧ ∀ (A116 : Option Addr) (c117 : Nat) (H118 : Heap) (O119 : Nat → Option XO), Heap.le H36 H118 → Cells H118 A116 0 (xs115 ++ [.slice A13 n14
  c15, .int .i64 n16, .int .i64 n17, .slice A18 n19 c20]) → n113 + 1 ≤ c117 → isOpen O119 A116 57 (n113 + 1) c117 → keepO O7 O119 A112 A116 → (0 : Int) ≤ n41 ∧ n41 < (↑n8 : Int) ∧ Int.toNat
  n41 * 2 + 1 + 1 ≤ List.length xs9 ∧ rng .i64 (n10 + (1 : Int)) ∧ inv3 n8 (splice xs9 (Int.toNat n41 * 2 + 1) [.slice A116 (n113 + 1) c117]) (n10 + (1 : Int)) H118 O119 ∧ m4 n8 (splice xs9
  (Int.toNat n41 * 2 + 1) [.slice A116 (n113 + 1) c117]) (n10 + (1 : Int)) < m4 n8 xs9 n10))) ∧ (decide (n10 < (↑lN : Int)) = false → ∃ (post126 : List Value → Heap → Prop), ConM P 62 [.slice
  none 0 0, .func (.func 63) ⟨[]⟩ ⟨[]⟩] 0 72 n8 xs9 true H5 ⟨true, []⟩ post126 ∧ ∀ (H127 : Heap), Heap.le H5 H127 → ∀ (ys129 : List Value), post126 ys129 H127 → ∀ (A131 : Option Addr) (c132 :
  Nat) (H133 : Heap), Heap.le H127 H133 → Cells H133 A131 0 ys129 → n8 ≤ c132 → post A131 n8 c132 H133)) := by kernel_rfl
set_option maxHeartbeats 2000000 in
theorem fk_groups {H : Heap} {A B : Option Addr} {n c m d : Nat} {l : List Tup} {cols : List Int} (hT : TabH H) (hs : Sl H A n c l) (ht : Sl H B m d cols) (hb : m * 32 ≤ 140737488355328) (hf : keyFit l cols) :
    ConT Tryz.prog 36 [.slice A n c, .slice B m d] H shS (fun A' n' c' H' => Sl H' A' n' c' (keyGroups l cols)) := by
  refine con_of_vc (an := an36) (fn := Tryz.f36) mix tabOK Tryz.func36 (by kernel_rfl) (extra := 1) ?_
  rw [vc36]
  have hl := hs.len
  have hbd : n * 64 ≤ 140737488355328 := hs.bnd
  rintro b0 O1 ⟨-, ho1, -⟩
  refine ⟨fun k xs i H' O' => 0 ≤ i ∧ i ≤ n ∧ ∃ rs : List GrpR, rs.length = k ∧ k ≤ i.toNat ∧ GrpsOK O' H' xs rs ∧ GrpsAre rs (l.take i.toNat) cols ∧ O' b0 = some (.mp 99 (idxM 0 (rs.map (·.key)))), fun _ _ i => n - i.toNat,
    ⟨by omega, by omega, [], rfl, by omega, ⟨rfl, fun j h => by simp at h, fun j k h => by simp at h⟩, GrpsAre.nil, ho1⟩, ?_⟩
  rintro H5 hle O7 k xs i ⟨h0, h1, rs, hk, hki, hok, hgr, ho⟩
  have e1 : (i + 1).toNat = i.toNat + 1 := by omega
  refine ⟨fun hlt => ?_, fun hge => ?_⟩
  · have hlt := of_decide_eq_true hlt
    obtain ⟨hi, hA, us, hc, hrel⟩ := hs.at hle h0 hlt
    obtain ⟨A9, n9, c9, A14, n15, c16, rfl, q1, q2, q3, q4⟩ := id hrel
    refine ⟨hA, h0, hlt, _, _, _, _, _, _, _, _, hc, _, period_Valid, ?_⟩
    rintro H3 l3 _ rfl
    refine ⟨fun hp => ?_, fun hp => ?_⟩
    · have hp : pOk l[i.toNat].p = false := by simpa using hp
      exact ⟨by simp only [rng]; omega, ⟨by omega, by omega, rs, hk, by omega, hok.mono l3, by rw [e1]; exact hgr.skip hi hp, ho⟩, by dsimp only; omega⟩
    have hp : pOk l[i.toNat].p = true := by simpa using hp
    refine ⟨_, keys_Values (q1.mono l3) (ht.mono (hle_trans hle l3)) hb, ?_⟩
    intro H4 l4 A4 n4 c4 h4
    have l24 := hle_trans l3 l4
    refine ⟨_, value_Key (hT.mono (hle_trans hle l24)) h4 (hf _ (List.getElem_mem hi)), ?_⟩
    rintro H36 l5 _ rfl
    have l25 := hle_trans l24 l5
    have hrows : ∀ r ∈ rs, r.rows.length ≤ i.toNat := fun r hr => by rw [hgr.rows r hr]; exact withK_take_len
    have hbi : ∀ {q : Nat}, q ≤ i.toNat → (q + 1) * 64 ≤ 140737488355328 := fun h => by
      have : i.toNat + 1 ≤ n := by omega
      omega
    by_cases hv : keyVals l[i.toNat].vals cols ∈ rs.map (·.key)
    · obtain ⟨j, hj, hjv⟩ := List.getElem_of_mem hv
      have hj' : j < rs.length := by simpa using hj
      have hjk : rs[j].key = keyVals l[i.toNat].vals cols := by simpa using hjv
      have hf := idxM_find (o := 0) hgr.nod (by rw [List.getElem?_eq_getElem hj, hjv])
      refine ⟨_, .inr ⟨b0, rfl, ho⟩, ((0 + j : Nat) : Int), by unfold lkIs; rw [hf]; rfl, fun hn => ?_, fun _ => ?_⟩
      · rw [idxM_has, decide_eq_true hv] at hn; cases hn
      have hje : (((0 + j : Nat) : Int)).toNat = j := by omega
      have hjm : rs[(((0 + j : Nat) : Int)).toNat].m = rs[j].m := by congr 2
      refine grpF_ok (R := fun xs' H' O' => rng .i64 (i + 1) ∧ (0 ≤ i + 1 ∧ i + 1 ≤ n ∧ ∃ rs : List GrpR, rs.length = k ∧ k ≤ (i + 1).toNat ∧ GrpsOK O' H' xs' rs ∧ GrpsAre rs (l.take (i + 1).toNat) cols ∧ O' b0 = some (.mp 99 (idxM 0 (rs.map (·.key))))) ∧ n - (i + 1).toNat < n - i.toNat)
        (x := l[i.toNat]) (hok.mono l25) hk (by omega) (by omega) (by omega) (Rep.mono l25 hrel) (by rw [hjm]; exact hbi (by rw [← (hok.opn j hj').len]; exact hrows _ (List.getElem_mem hj'))) ?_
      intro xs' H52 O53 A50 c51 l52 hok' hmap
      refine ⟨by simp only [rng]; omega, ⟨by omega, by omega, _, by simpa using hk, by omega, hok', ?_, ?_⟩, by omega⟩
      · simp only [hje]
        rw [e1]
        exact GrpsAre.put hi hgr.nod (hgr.keys.old hi hv) hgr.rows hj' hp hjk
      · rw [hmap b0 _ _ ho, ho]
        congr 3
        simp only [hje]
        apply List.ext_getElem
        · simp
        · intro q hq1 hq2
          simp only [List.getElem_map, List.getElem_set]
          split
          · rename_i hje; subst hje; rfl
          · rfl
    · refine ⟨_, .inr ⟨b0, rfl, ho⟩, 0, by unfold lkIs; rw [idxM_none hv], fun _ => ?_, fun hn => ?_⟩
      · refine ⟨_, ⟨b0, rfl, ho⟩, ?_⟩
        rintro O44 ⟨b49, e49, h49, hk49⟩
        obtain rfl : b0 = b49 := by simpa using e49
        have hput := idxM_put (o := 0) hv
        rw [List.length_map, hk, Nat.zero_add] at hput
        rw [hput] at h49
        have hok2 := ((hok.mono l25).other ⟨_, _, ho⟩ hk49).new (h4.mono l5)
        have hlast : (rs ++ [(⟨keyVals l[i.toNat].vals cols, none, 0, 0, []⟩ : GrpR)])[(k : Int).toNat]'(by simp; omega) = ⟨keyVals l[i.toNat].vals cols, none, 0, 0, []⟩ := by
          have : (k : Int).toNat = rs.length := by omega
          simp only [this, List.getElem_concat_length]
        refine ⟨by omega, ?_⟩
        refine grpF_ok (R := fun xs' H' O' => rng .i64 (i + 1) ∧ (0 ≤ i + 1 ∧ i + 1 ≤ n ∧ ∃ rs : List GrpR, rs.length = k + 1 ∧ k + 1 ≤ (i + 1).toNat ∧ GrpsOK O' H' xs' rs ∧ GrpsAre rs (l.take (i + 1).toNat) cols ∧ O' b0 = some (.mp 99 (idxM 0 (rs.map (·.key))))) ∧ n - (i + 1).toNat < n - i.toNat)
          (x := l[i.toNat]) hok2 (by simp [hk]) (by omega) (by omega) (by simp; omega) (Rep.mono l25 hrel) (by rw [hlast]; show (0 + 1) * 64 ≤ 140737488355328; decide) ?_
        intro xs' H52 O53 A50 c51 l52 hok' hmap
        have hmk : (rs ++ [(⟨keyVals l[i.toNat].vals cols, none, 0, 0, []⟩ : GrpR)]).map (·.key) = rs.map (·.key) ++ [keyVals l[i.toNat].vals cols] := by simp
        refine ⟨by simp only [rng]; omega, ⟨by omega, by omega, _, by simp [hk], by omega, hok', ?_, ?_⟩, by omega⟩
        · rw [e1]
          refine GrpsAre.put hi ?_ ?_ ?_ (by simp; omega) hp (by rw [hlast])
          · rw [hmk, List.nodup_append]
            exact ⟨hgr.nod, by simp, fun a ha b hb' e => hv (by rw [List.mem_singleton] at hb'; rw [← hb', ← e]; exact ha)⟩
          · rw [hmk]; exact hgr.keys.new hi hp
          · intro r hr
            rcases List.mem_append.1 hr with hr | hr
            · exact hgr.rows r hr
            · rw [List.mem_singleton] at hr; subst hr
              exact (withK_none hgr.keys hv).symm
        · rw [hmap b0 _ _ h49, h49]
          congr 3
          rw [← hmk]
          apply List.ext_getElem
          · simp
          · intro q hq1 hq2
            simp only [List.getElem_map, List.getElem_set]
            split
            · rename_i hje; subst hje; rfl
            · rfl
      · rw [idxM_has, decide_eq_false hv] at hn; cases hn
  · have hge := of_decide_eq_false hge
    rw [List.take_of_length_le (by omega)] at hgr
    refine ⟨_, SortFunc_Grp hok.row hk (by omega), ?_⟩
    rintro H3 l3 ys ⟨rs', hv, hp, ho2⟩ A4 c4 H6 l6 hc6 hn6
    have hge := grps_keys hgr hp ho2
    have l36 := hle_trans l3 l6
    rw [← hge]
    refine (grp_row (hv.mono l6) fun r hr => ?_).sl (hle_refl H6) hc6 (by rw [List.length_map, hp.length_eq, hk]) hn6 (by show k * 48 ≤ _; omega) (by omega)
    obtain ⟨j, hj, rfl⟩ := List.getElem_of_mem (hp.mem_iff.1 hr)
    obtain ⟨a1, ⟨zs, a2, a3⟩, a4, a5⟩ := hok.opn j hj
    have hrl : rs[j].rows.length ≤ n := by
      rw [hgr.rows _ (List.getElem_mem hj), ← hl]; exact List.length_filter_le _ _
    exact a3.sl l36 (a2.mono l36) a4 a5 (by show rs[j].m * 64 ≤ _; omega) (by omega)
end Go.Vc
/- Orphans of one key; Violations, Holds. -/
namespace Go.Vc
open Go Go.Proofs Go.Shelf
theorem orphGo_nil : ∀ (segs : List Vio) (out : List Vio), orphGo segs [] out = out
  | [], _ => rfl
  | s :: r, out => by
    have e : isect [s.p] [] = [] := by
      have h : norm [] = [] := rfl
      have h2 : ∀ a : List Per, isectGo a [] = [] := fun a => by simp [isectGo, hits]
      unfold isect; rw [h, h2]
    rw [orphGo, pieces, e, List.foldl_nil, orphGo_nil r]
theorem extV_app {l : List Vio} {v : Vio} (h : ∀ u, l.getLast? = some u → ¬ (u.p.hi = v.p.lo ∧ u.ids = v.ids)) : extV l v = l ++ [v] := by
  unfold extV
  split
  · rename_i u hu
    rw [if_neg (h u hu)]
  · rfl
theorem fk_one {S A : List Tup} (hS : ∀ x ∈ S, pOk x.p = true) (hA : ∀ x ∈ A, pOk x.p = true) : orphGo (segF (fkF S []) (canon (tends S))) (diff (norm (S.map (·.p))) (norm (A.map (·.p)))) [] = refV S A :=
  orph_ref hS hA fun d => by rw [diff_in, norm_in, norm_in]
def an39 : Ann where
  res := fun _ => none
  lend := fun | 61 => true | _ => false
  sch := fun | 12 => (tk [0, 1, 2, 3, 4, 5, 10, 11] (.alt 6 (tk [7, 8] (.alt 9 (tk [12, 13, 14, 15, 16, 17, 21, 22] (.alt 18 (tk [19] (.alt 20 (.alt 23 (tk [24] .done) .fin) .fin)) .fin)) .fin)) .fin)) | 14 => (tk [0, 1, 2, 3] (.alt 4 (tk [5] (.alt 6 (.alt 7 (tk [8] .done) .fin) .fin)) .fin)) | _ => .done
  lt := fun | 6 => [.slot 6 false [.row 82 53], .slot 22 false [.int .i64]] | 9 => [.slot 6 false [.row 83 53], .slot 32 false [.int .i64]] | _ => []
  tup := tups

theorem vc39 (P : Program) (H : Heap) (gkeyA : Option Addr) (gkeyN gkeyC : Nat) (gtuplesA : Option Addr) (gtuplesN gtuplesC : Nat) (p1A : Option Addr) (p1N p1C : Nat) (post : Option Addr → Nat → Nat → Heap → Prop) :
  vcFn P tab an39 Tryz.f39 [.agg #[.slice gkeyA gkeyN gkeyC, .slice gtuplesA gtuplesN gtuplesC], .slice p1A p1N p1C] 2 H ⟨false, [(false, [.sl])]⟩ post =
  (  ∃ (post0 : Option Addr → Nat → Nat → Heap → Prop), ConT P 37 [.agg ⟨[.slice gkeyA gkeyN gkeyC, .slice gtuplesA gtuplesN gtuplesC]⟩] H ⟨false, [(false, [.sl])]⟩ post0 ∧ ∀ (H1 : Heap),
  Heap.le H H1 → ∀ (A3 : Option Addr) (n4 c5 : Nat), post0 A3 n4 c5 H1 → ∃ (post7 : Option Addr → Nat → Nat → Heap → Prop), ConT P 68 [.slice A3 n4 c5, .slice p1A p1N p1C] H1 ⟨false, [(false,
  [.sl])]⟩ post7 ∧ ∀ (H8 : Heap), Heap.le H1 H8 → ∀ (A10 : Option Addr) (n11 c12 : Nat), post7 A10 n11 c12 H8 → (decide ((↑n11 : Int) = (0 : Int)) = true → post none 0 0 H8) ∧ (decide ((↑n11
  : Int) = (0 : Int)) = false → ∃ (post16 : Option Addr → Nat → Nat → Heap → Prop), ConT P 69 [.agg ⟨[.slice gkeyA gkeyN gkeyC, .slice gtuplesA gtuplesN gtuplesC]⟩] H8 ⟨false, [(false,
  [.sl])]⟩ post16 ∧ ∀ (H17 : Heap), Heap.le H8 H17 → ∀ (A19 : Option Addr) (n20 c21 : Nat), post16 A19 n20 c21 H17 → ∃ (inv23 : Nat → List Value → Int → Heap → Prop), ∃ (m24 : Nat → List
  Value → Int → Nat), inv23 0 [] (0 : Int) H17 ∧ ∀ (H25 : Heap), Heap.le H17 H25 → ∀ (n27 : Nat) (xs28 : List Value) (n29 : Int), inv23 n27 xs28 n29 H25 → (decide (n29 < (↑n20 : Int)) = true
  → someA A19 ∧ (0 : Int) ≤ n29 ∧ n29 < (↑n20 : Int) ∧ ∃ (n32 : Int), ∃ (n33 : Int), ∃ (A34 : Option Addr), ∃ (n35 : Nat), ∃ (c36 : Nat), Cells H25 A19 (Int.toNat n29 * 3) [.int .i64 n32,
  .int .i64 n33, .slice A34 n35 c36] ∧ ∀ (A37 : Option Addr) (c38 : Nat) (H39 : Heap), Heap.le H25 H39 → Cells H39 A37 0 [.int .i64 n32, .int .i64 n33] → 1 ≤ c38 → ∃ (post43 : Option Addr →
  Nat → Nat → Heap → Prop), ConT P 70 [.slice A37 1 c38, .slice A10 n11 c12] H39 ⟨false, [(false, [.sl])]⟩ post43 ∧ ∀ (H44 : Heap), Heap.le H39 H44 → ∀ (A46 : Option Addr) (n47 c48 : Nat),
  post43 A46 n47 c48 H44 → ∃ (inv50 : Nat → List Value → Int → Heap → Prop), ∃ (m51 : Nat → List Value → Int → Nat), inv50 n27 xs28 (0 : Int) H44 ∧ ∀ (H52 : Heap), Heap.le H44 H52 → ∀ (n54 :
  Nat) (xs55 : List Value) (n56 : Int), inv50 n54 xs55 n56 H52 → (decide (n56 < (↑n47 : Int)) = true → someA A46 ∧ (0 : Int) ≤ n56 ∧ n56 < (↑n47 : Int) ∧ ∃ (n59 : Int), ∃ (n60 : Int), Cells
  H52 A46 (Int.toNat n56 * 2) [.int .i64 n59, .int .i64 n60] ∧ (decide ((0 : Int) < (↑n54 : Int)) = true → rng .i64 ((↑n54 : Int) - (1 : Int)) ∧ (0 : Int) ≤ (↑n54 : Int) - (1 : Int) ∧ (↑n54 :
  Int) - (1 : Int) < (↑n54 : Int) ∧ ∃ (n62 : Int), win xs55 (Int.toNat ((↑n54 : Int) - (1 : Int)) * 3 + 0 + 1) 1 = [.int .i64 n62] ∧ (decide (n62 = n59) = true → rng .i64 ((↑n54 : Int) - (1 :
  Int)) ∧ (0 : Int) ≤ (↑n54 : Int) - (1 : Int) ∧ (↑n54 : Int) - (1 : Int) < (↑n54 : Int) ∧ ∃ (A64 : Option Addr), ∃ (n65 : Nat), ∃ (c66 : Nat), win xs55 (Int.toNat ((↑n54 : Int) - (1 : Int))
  * 3 + 2) 1 = [.slice A64 n65 c66] ∧ ∃ (post67 : Bool → Heap → Prop), ConT P 71 [.slice A64 n65 c66, .slice A34 n35 c36] H52 ⟨false, [(false, [.bool])]⟩ post67 ∧ ∀ (H68 : Heap), Heap.le H52
  H68 → ∀ (b70 : Bool), post67 b70 H68 → (b70 = true → rng .i64 ((↑n54 : Int) - (1 : Int)) ∧ (0 : Int) ≤ (↑n54 : Int) - (1 : Int) ∧ (↑n54 : Int) - (1 : Int) < (↑n54 : Int) ∧ Int.toNat ((↑n54
  : Int) - (1 : Int)) * 3 + 0 + 1 + 1 ≤ List.length xs55 ∧ rng .i64 (n56 + (1 : Int)) ∧ inv50 n54 (splice xs55 (Int.toNat ((↑n54 : Int) - (1 : Int)) * 3 + 0 + 1) [.int .i64 n60]) (n56 + (1 :
  Int)) H68 ∧ m51 n54 (splice xs55 (Int.toNat ((↑n54 : Int) - (1 : Int)) * 3 + 0 + 1) [.int .i64 n60]) (n56 + (1 : Int)) < m51 n54 xs55 n56) ∧ (b70 = false → ∃ (post74 : Option Addr → Nat →
  Nat → Heap → Prop), ConT P 72 [.slice A34 n35 c36] H68 ⟨false, [(false, [.sl])]⟩ post74 ∧ ∀ (H75 : Heap), Heap.le H68 H75 → ∀ (A77 : Option Addr) (n78 c79 : Nat), post74 A77 n78 c79 H75 →
  (n54 + 1) * 40 ≤ 140737488355328 ∧ rng .i64 (n56 + (1 : Int)) ∧ inv50 (n54 + 1) (xs55 ++ [.int .i64 n59, .int .i64 n60, .slice A77 n78 c79]) (n56 + (1 : Int)) H75 ∧ m51 (n54 + 1) (xs55 ++
  [.int .i64 n59, .int .i64 n60, .slice A77 n78 c79]) (n56 + (1 : Int)) < m51 n54 xs55 n56)) ∧ (decide (n62 = n59) = false → ∃ (post82 : Option Addr → Nat → Nat → Heap → Prop), ConT P 72
  [.slice A34 n35 c36] H52 ⟨false, [(false, [.sl])]⟩ post82 ∧ ∀ (H83 : Heap), Heap.le H52 H83 → ∀ (A85 : Option Addr) (n86 c87 : Nat), post82 A85 n86 c87 H83 → (n54 + 1) * 40 ≤
  140737488355328 ∧ rng .i64 (n56 + (1 : Int)) ∧ inv50 (n54 + 1) (xs55 ++ [.int .i64 n59, .int .i64 n60, .slice A85 n86 c87]) (n56 + (1 : Int)) H83 ∧ m51 (n54 + 1) (xs55 ++ [.int .i64 n59,
  .int .i64 n60, .slice A85 n86 c87]) (n56 + (1 : Int)) < m51 n54 xs55 n56)) ∧ (decide ((0 : Int) < (↑n54 : Int)) = false → ∃ (post90 : Option Addr → Nat → Nat → Heap → Prop), ConT P 72
  [.slice A34 n35 c36] H52 ⟨false, [(false, [.sl])]⟩ post90 ∧ ∀ (H91 : Heap), Heap.le H52 H91 → ∀ (A93 : Option Addr) (n94 c95 : Nat), post90 A93 n94 c95 H91 → (n54 + 1) * 40 ≤
  140737488355328 ∧ rng .i64 (n56 + (1 : Int)) ∧ inv50 (n54 + 1) (xs55 ++ [.int .i64 n59, .int .i64 n60, .slice A93 n94 c95]) (n56 + (1 : Int)) H91 ∧ m51 (n54 + 1) (xs55 ++ [.int .i64 n59,
  .int .i64 n60, .slice A93 n94 c95]) (n56 + (1 : Int)) < m51 n54 xs55 n56)) ∧ (decide (n56 < (↑n47 : Int)) = false → rng .i64 (n29 + (1 : Int)) ∧ inv23 n54 xs55 (n29 + (1 : Int)) H52 ∧ m24
  n54 xs55 (n29 + (1 : Int)) < m24 n27 xs28 n29)) ∧ (decide (n29 < (↑n20 : Int)) = false → ∀ (A99 : Option Addr) (c100 : Nat) (H101 : Heap), Heap.le H25 H101 → Cells H101 A99 0 xs28 → n27 ≤
  c100 → post A99 n27 c100 H101))) := by kernel_rfl
set_option maxRecDepth 100000 in
set_option maxHeartbeats 2000000 in
theorem fk_orphaned {H : Heap} {A B D : Option Addr} {n c m d k e : Nat} {l : List Tup} {ps : List Per} (ht : Sl H B m d l) (hp : Sl H D k e ps) (hm : m < 300) (hk : k < 600) (hv : ∀ x ∈ l, pOk x.p = true) (hb : (tlins l).length * 8 ≤ 140737488355328) :
    ConT Tryz.prog 39 [.agg ⟨[.slice A n c, .slice B m d]⟩, .slice D k e] H shS (fun A' n' c' H' => Sl H' A' n' c' (orphGo (segF (fkF l []) (canon (tends l))) (diff (norm (l.map (·.p))) ps) [])) := by
  refine con_of_vc (an := an39) (fn := Tryz.f39) mix tabOK Tryz.func39 (by kernel_rfl) (extra := 2) ?_
  rw [vc39]
  have hl := ht.len; have hpl := hp.len
  refine ⟨_, fk_days ht, ?_⟩
  intro H1 l1 A3 n4 c5 h3
  refine ⟨_, periodset_Subtract h3 (hp.mono l1), ?_⟩
  intro H8 l8 A10 n11 c12 h10
  have hml := h10.len
  have hmb : (diff (norm (l.map (·.p))) ps).length ≤ 200000 := by
    have b1 := cutAll_len (norm ps) (norm (norm (l.map (·.p))))
    have b2 := norm_length ps
    have b3 := norm_length (norm (l.map (·.p)))
    have b4 := norm_length (l.map (·.p))
    rw [List.length_map] at b4
    have b5 : (norm (norm (l.map (·.p)))).length * ((norm ps).length + 1) ≤ 300 * 600 := Nat.mul_le_mul (by omega) (by omega)
    unfold diff
    omega
  generalize hM : diff (norm (l.map (·.p))) ps = ms at h10 hml hmb
  refine ⟨fun h0 => ?_, fun h0 => ?_⟩
  · have h0 := of_decide_eq_true h0
    have : ms = [] := List.eq_nil_of_length_eq_zero (by omega)
    rw [this, orphGo_nil]
    exact Sl.nil
  refine ⟨_, fk_segments (ht.mono (hle_trans l1 l8)) hm hv hb, ?_⟩
  intro H17 l17 A19 n20 c21 hs
  have hsl := hs.len
  have hsb : (segF (fkF l []) (canon (tends l))).length ≤ 600 := by
    have b1 := segF_len (fkF l []) (canon (tends l))
    have b2 := canon_len (tends l)
    have b3 := tends_len l
    omega
  generalize hS : segF (fkF l []) (canon (tends l)) = segs at hs hsl hsb
  generalize hR : orphGo segs ms [] = R
  refine ⟨fun u xs i H' => 0 ≤ i ∧ i ≤ n20 ∧ ∃ out : List Vio, Row H' xs out ∧ out.length = u ∧ u ≤ i.toNat * 200000 ∧ R = orphGo (segs.drop i.toNat) ms out, fun _ _ i => n20 - i.toNat, ⟨by omega, by omega, [], rfl, rfl, by omega, hR.symm⟩, ?_⟩
  rintro H25 l25 u xs i ⟨i0, i1, out, hr, hu, hub, he⟩
  refine ⟨fun hlt => ?_, fun hge => ?_⟩
  · have hlt := of_decide_eq_true hlt
    obtain ⟨hi, hA, _, hc, ⟨A34, n35, c36, rfl, q1, q2, q3⟩⟩ := hs.at l25 i0 hlt
    have e1 : (i + 1).toNat = i.toNat + 1 := by omega
    rw [List.drop_eq_getElem_cons hi, orphGo] at he
    rw [show i.toNat + 1 = (i + 1).toNat by omega] at he
    generalize segs[i.toNat] = s at hc q1 q2 q3 he
    refine ⟨hA, i0, hlt, _, _, _, _, _, hc, ?_⟩
    intro A37 c38 H39 l39 hc39 hn39
    have hone : Sl H39 A37 1 c38 [s.p] := Row.sl (H := H39) (row1 s.p q1 q2) (hle_refl _) hc39 rfl hn39 (by decide) (by decide)
    refine ⟨_, periodset_Intersect hone (h10.mono (hle_trans l17 (hle_trans l25 l39))), ?_⟩
    intro H44 l44 A46 n47 c48 hx
    have hxl := hx.len
    have hxb := isect_one_len s.p ms
    have hp0 : pieces s ms out = (isect [s.p] ms).foldl (fun o p => extV o ⟨p, s.ids⟩) out := rfl
    generalize isect [s.p] ms = xs5 at hx hxl hxb hp0
    refine ⟨fun u5 ys j H' => 0 ≤ j ∧ j ≤ n47 ∧ ∃ out5 : List Vio, Row H' ys out5 ∧ out5.length = u5 ∧ u5 ≤ i.toNat * 200000 + j.toNat ∧ pieces s ms out = (xs5.drop j.toNat).foldl (fun o p => extV o ⟨p, s.ids⟩) out5, fun _ _ j => n47 - j.toNat,
      ⟨by omega, by omega, out, hr.mono (hle_trans l39 l44), hu, Nat.le_trans hub (Nat.le_add_right _ _), by simpa using hp0⟩, ?_⟩
    rintro H52 l52 u5 ys j ⟨j0, j1, out5, hr5, hu5, hub5, hp5⟩
    refine ⟨fun jlt => ?_, fun jge => ?_⟩
    · have jlt := of_decide_eq_true jlt
      obtain ⟨ji, jA, _, jc, ⟨rfl, r1, r2⟩⟩ := hx.at l52 j0 jlt
      have e2 : (j + 1).toNat = j.toNat + 1 := by omega
      rw [List.drop_eq_getElem_cons ji, List.foldl_cons, show j.toNat + 1 = (j + 1).toNat by omega] at hp5
      generalize xs5[j.toNat] = p at jc r1 r2 hp5
      have hlen := hr5.length
      have q52 : Sl H52 A34 n35 c36 s.ids := q3.mono (hle_trans l39 (hle_trans l44 l52))
      have hub0 : i.toNat * 200000 ≤ 600 * 200000 := by omega
      have hext := extV_len out5 ⟨p, s.ids⟩
      have app : (∀ w, out5.getLast? = some w → ¬ (w.p.hi = p.lo ∧ w.ids = s.ids)) → ∀ {Hy : Heap} {A77 : Option Addr} {n78 c79 : Nat}, Heap.le H52 Hy → Sl Hy A77 n78 c79 s.ids →
          (u5 + 1) * 40 ≤ 140737488355328 ∧ rng .i64 (j + 1) ∧ (0 ≤ j + 1 ∧ j + 1 ≤ n47 ∧ ∃ out5' : List Vio, Row Hy (ys ++ [.int .i64 p.lo, .int .i64 p.hi, .slice A77 n78 c79]) out5' ∧ out5'.length = u5 + 1 ∧ u5 + 1 ≤ i.toNat * 200000 + (j + 1).toNat ∧ pieces s ms out = (xs5.drop (j + 1).toNat).foldl (fun o p => extV o ⟨p, s.ids⟩) out5') ∧ n47 - (j + 1).toNat < n47 - j.toNat := by
        intro hno Hy A77 n78 c79 ly hids
        have hx := extV_app (l := out5) (v := ⟨p, s.ids⟩) hno
        refine ⟨by omega, by simp only [rng]; omega, ⟨by omega, by omega, out5 ++ [⟨p, s.ids⟩], (hr5.mono ly).append (Row.one ⟨_, _, _, rfl, r1, r2, hids⟩), by simp [hu5], by omega, ?_⟩, by omega⟩
        rw [hp5, hx]
      refine ⟨jA, j0, jlt, _, _, jc, fun hn => ?_, fun hn => ?_⟩
      · have hn := of_decide_eq_true hn
        have hq : ((u5 : Int) - 1).toNat < out5.length := by omega
        obtain ⟨vs, ⟨A1, n1, c1, rfl, w1, w2, w3⟩, hg, hsp⟩ := hr5.getf hq
        have hlast : out5.getLast? = some out5[((u5 : Int) - 1).toNat] := by
          rw [List.getLast?_eq_getElem?, List.getElem?_eq_getElem (by omega)]
          congr 2; omega
        have hw1 := hg 1 1 (by decide)
        have hw2 := hg 2 1 (by decide)
        refine ⟨by simp only [rng]; omega, by omega, by omega, _, hw1, fun hh => ⟨by simp only [rng]; omega, by omega, by omega, _, _, _, hw2, _, Equal_Int w3 q52, ?_⟩, fun hh => ?_⟩
        · have hh := of_decide_eq_true hh
          rintro H68 l68 _ rfl
          refine ⟨fun hq2 => ?_, fun hq2 => ?_⟩
          · have hq2 := of_decide_eq_true hq2
            have hext : extV out5 ⟨p, s.ids⟩ = out5.set ((u5 : Int) - 1).toNat ⟨⟨out5[((u5 : Int) - 1).toNat].p.lo, p.hi⟩, out5[((u5 : Int) - 1).toNat].ids⟩ := by
              unfold extV
              rw [hlast]
              simp only
              rw [if_pos ⟨hh, hq2⟩, ← set_last (by omega), show out5.length - 1 = ((u5 : Int) - 1).toNat by omega]
            refine ⟨by simp only [rng]; omega, by omega, by omega, ?_, by simp only [rng]; omega, ⟨by omega, by omega, out5.set ((u5 : Int) - 1).toNat ⟨⟨out5[((u5 : Int) - 1).toNat].p.lo, p.hi⟩, out5[((u5 : Int) - 1).toNat].ids⟩, ?_, ?_, by omega, ?_⟩, by dsimp only; omega⟩
            · rw [hlen]
              show _ ≤ out5.length * 3
              omega
            · exact (hsp 1 [.int .i64 p.hi] ⟨⟨out5[((u5 : Int) - 1).toNat].p.lo, p.hi⟩, out5[((u5 : Int) - 1).toNat].ids⟩ (by show 1 + 1 ≤ 3; omega) ⟨A1, n1, c1, rfl, w1, r2, w3⟩).mono l68
            · simp [hu5]
            · rw [hp5, hext]
          · have hq2 := of_decide_eq_false hq2
            refine ⟨_, Clone_Int (q52.mono l68), fun H75 l75 A77 n78 c79 h77 => app (fun w hw hc => ?_) (hle_trans l68 l75) h77⟩
            rw [hlast] at hw
            obtain rfl := Option.some.inj hw
            exact hq2 hc.2
        · have hh := of_decide_eq_false hh
          refine ⟨_, Clone_Int q52, fun H75 l75 A77 n78 c79 h77 => app (fun w hw hc => ?_) l75 h77⟩
          rw [hlast] at hw
          obtain rfl := Option.some.inj hw
          exact hh hc.1
      · have hn := of_decide_eq_false hn
        have : out5 = [] := List.eq_nil_of_length_eq_zero (by omega)
        refine ⟨_, Clone_Int q52, fun H75 l75 A77 n78 c79 h77 => app (fun w hw hc => ?_) l75 h77⟩
        rw [this] at hw; cases hw
    · have jge := of_decide_eq_false jge
      have jb : j.toNat ≤ 200000 := by omega
      have kb : u5 ≤ (i + 1).toNat * 200000 := by rw [e1, Nat.add_mul, Nat.one_mul]; exact Nat.le_trans hub5 (Nat.add_le_add_left jb _)
      rw [List.drop_eq_nil_of_le (by omega), List.foldl_nil] at hp5
      refine ⟨by simp only [rng]; omega, ⟨by omega, by omega, out5, hr5, hu5, kb, by rw [← hp5]; exact he⟩, by dsimp only; omega⟩
  · have hge := of_decide_eq_false hge
    rw [List.drop_eq_nil_of_le (by omega), orphGo] at he
    rw [he]
    intro A99 c100 H101 l101 hc101 hn101
    have hub0 : i.toNat * 200000 ≤ 600 * 200000 := by omega
    exact hr.sl l101 hc101 hu hn101 (by show u * 40 ≤ _; omega) (by omega)
/- the map of days by keys' texts -/
theorem keyEq_of_str {s : ByteArray} {v : Value} (h : keyEq (.string s) v = true) : v = .string s := by
  cases v <;> simp_all [keyEq]
theorem keyEq_refl_str {s : ByteArray} : keyEq (.string s) (.string s) = true := decide_eq_true rfl
theorem mfind_put_same {s : ByteArray} {x : Value} : ∀ es : List (Value × Value), mfind (mput es (.string s) x) (.string s) = some x
  | [] => by simp [mfind, mput, keyEq_refl_str]
  | p :: r => by
    have ih := mfind_put_same (s := s) (x := x) r
    unfold mfind at ih ⊢
    rw [mput]
    split
    · rw [List.find?_cons, keyEq_refl_str]; rfl
    · rename_i h
      rw [List.find?_cons, show keyEq (.string s) p.1 = false by simpa using h]
      exact ih
theorem mfind_put_ne {s t : ByteArray} {x : Value} (hne : t ≠ s) : ∀ es : List (Value × Value), mfind (mput es (.string s) x) (.string t) = mfind es (.string t)
  | [] => by
    have : keyEq (.string t) (.string s) = false := decide_eq_false hne
    simp [mfind, mput, this]
  | p :: r => by
    have ih := mfind_put_ne (x := x) hne r
    unfold mfind at ih ⊢
    rw [mput]
    split
    · rename_i h
      have hp := keyEq_of_str h
      rw [List.find?_cons, List.find?_cons, hp]
      have : keyEq (.string t) (.string s) = false := decide_eq_false hne
      simp only [this]
    · rw [List.find?_cons, List.find?_cons]
      split
      · rfl
      · exact ih
structure DaysOK (H : Heap) (es : List (Value × Value)) (ks : List (List Val)) (F : List Val → List Per) : Prop where
  has : ∀ v ∈ ks, ∃ A n c, mfind es (.string (keyStr v)) = some (.slice A n c) ∧ Sl H A n c (F v)
  non : ∀ v, v ∉ ks → mfind es (.string (keyStr v)) = none
theorem DaysOK.mono {H H' : Heap} {es : List (Value × Value)} {ks : List (List Val)} {F : List Val → List Per} (h : DaysOK H es ks F) (hle : Heap.le H H') : DaysOK H' es ks F :=
  ⟨fun v hv => let ⟨A, n, c, h1, h2⟩ := h.has v hv; ⟨A, n, c, h1, h2.mono hle⟩, h.non⟩
theorem DaysOK.put {H : Heap} {es : List (Value × Value)} {ks : List (List Val)} {F : List Val → List Per} (h : DaysOK H es ks F) {v : List Val} {A : Option Addr} {n c : Nat} (hs : Sl H A n c (F v)) : DaysOK H (mput es (.string (keyStr v)) (.slice A n c)) (ks ++ [v]) F := by
  refine ⟨fun u hu => ?_, fun u hu => ?_⟩
  · by_cases e : u = v
    · subst e
      exact ⟨A, n, c, mfind_put_same es, hs⟩
    · have hu : u ∈ ks := by
        rcases List.mem_append.1 hu with h | h
        · exact h
        · rw [List.mem_singleton] at h; exact absurd h e
      obtain ⟨A', n', c', h1, h2⟩ := h.has u hu
      exact ⟨A', n', c', by rw [mfind_put_ne fun e' => e (keyStr_inj e')]; exact h1, h2⟩
  · simp only [List.mem_append, List.mem_singleton, not_or] at hu
    rw [mfind_put_ne fun e' => hu.2 (keyStr_inj e')]
    exact h.non u hu.1
theorem DaysOK.look {H : Heap} {es : List (Value × Value)} {ks : List (List Val)} {F : List Val → List Per} (h : DaysOK H es ks F) (v : List Val) (hn : v ∉ ks → F v = []) : ∃ A n c, lkIs es (.string (keyStr v)) false [.slice none 0 0] [.slice A n c] ∧ Sl H A n c (F v) := by
  by_cases hv : v ∈ ks
  · obtain ⟨A, n, c, h1, h2⟩ := h.has v hv
    exact ⟨A, n, c, by unfold lkIs; rw [h1]; rfl, h2⟩
  · exact ⟨none, 0, 0, by unfold lkIs; rw [h.non v hv], by rw [hn hv]; exact Sl.nil⟩
theorem keyList_fit {l : List Tup} {cols : List Int} (hf : keyFit l cols) : ∀ v ∈ keyList l cols, (keyBytes v).length ≤ 140737488355328 := by
  intro v hv
  obtain ⟨t, h1, h2, rfl⟩ := byKey_mem.1 ((keyList_keys l cols v).1 hv)
  exact hf t h1
theorem keyList_len (l : List Tup) (cols : List Int) : (keyList l cols).length ≤ l.length := by
  refine keys_len ?_ (keyList_keys l cols)
  refine (keyList_asc l cols).imp fun {a b} h e => ?_
  rw [e, cmpVs_ord.refl] at h
  exact absurd h (by decide)
theorem withK_len' (l : List Tup) (cols : List Int) (v : List Val) : (withK l cols v).length ≤ l.length := List.length_filter_le _ _
def an15 : Ann where
  res := fun _ => none
  lend := fun | 27 => true | 44 => true | _ => false
  sch := fun | 5 => (tk [0, 1, 2, 4] (.alt 3 (.alt 5 (.alt 6 .done .fin) .fin) .fin)) | 11 => (tk [0, 1, 2, 3, 4] (.alt 5 (.alt 6 (.alt 7 (.alt 8 (tk [9] .done) .fin) .fin) .fin) .fin)) | _ => .done
  opn := true
  lt := fun | 3 => [.slot 20 false [.int .i64]] | 9 => [.slot 12 false [.row 50 53], .slot 35 false [.int .i64]] | _ => []
  tup := tups

theorem vc15 (P : Program) (H : Heap) (childA : Option Addr) (childN childC : Nat) (parentA : Option Addr) (parentN parentC : Nat) (colsA : Option Addr) (colsN colsC : Nat) (refColsA : Option Addr) (refColsN refColsC : Nat) (post : Option Addr → Nat → Nat → Heap → Prop) :
  vcFn P tab an15 Tryz.f15 [.slice childA childN childC, .slice parentA parentN parentC, .slice colsA colsN colsC, .slice refColsA refColsN refColsC] 1 H ⟨false, [(false, [.sl])]⟩ post =
  (  ∀ (b0 : Nat) (O1 : Nat → Option XO), newM noO O1 b0 68 → ∃ (post3 : Option Addr → Nat → Nat → Heap → Prop), ConT P 36 [.slice parentA parentN parentC, .slice refColsA refColsN refColsC] H
  ⟨false, [(false, [.sl])]⟩ post3 ∧ ∀ (H4 : Heap), Heap.le H H4 → ∀ (A6 : Option Addr) (n7 c8 : Nat), post3 A6 n7 c8 H4 → ∃ (inv10 : Int → Heap → OMap → Prop), ∃ (m11 : Int → Nat), inv10 (0 :
  Int) H4 O1 ∧ ∀ (H12 : Heap), Heap.le H4 H12 → ∀ (O14 : Nat → Option XO) (n15 : Int), inv10 n15 H12 O14 → (decide (n15 < (↑n7 : Int)) = true → someA A6 ∧ (0 : Int) ≤ n15 ∧ n15 < (↑n7 : Int)
  ∧ ∃ (A18 : Option Addr), ∃ (n19 : Nat), ∃ (c20 : Nat), ∃ (A21 : Option Addr), ∃ (n22 : Nat), ∃ (c23 : Nat), Cells H12 A6 (Int.toNat n15 * 2) [.slice A18 n19 c20, .slice A21 n22 c23] ∧ ∃
  (post24 : ByteArray → Heap → Prop), ConT P 38 [.slice A18 n19 c20] H12 ⟨false, [(false, [.str])]⟩ post24 ∧ ∀ (H25 : Heap), Heap.le H12 H25 → ∀ (s27 : ByteArray), post24 s27 H25 → ∃ (post29
  : Option Addr → Nat → Nat → Heap → Prop), ConT P 37 [.agg ⟨[.slice A18 n19 c20, .slice A21 n22 c23]⟩] H25 ⟨false, [(false, [.sl])]⟩ post29 ∧ ∀ (H30 : Heap), Heap.le H25 H30 → ∀ (A32 :
  Option Addr) (n33 c34 : Nat), post29 A32 n33 c34 H30 → ∃ (es36 : List (Value × Value)), hasM O14 (some b0) 68 es36 ∧ ∀ (O37 : Nat → Option XO), putM O14 O37 (some b0) 68 (mput es36 (.string
  s27) (.slice A32 n33 c34)) → rng .i64 (n15 + (1 : Int)) ∧ inv10 (n15 + (1 : Int)) H30 O37 ∧ m11 (n15 + (1 : Int)) < m11 n15) ∧ (decide (n15 < (↑n7 : Int)) = false → ∃ (post40 : Option Addr
  → Nat → Nat → Heap → Prop), ConT P 36 [.slice childA childN childC, .slice colsA colsN colsC] H12 ⟨false, [(false, [.sl])]⟩ post40 ∧ ∀ (H41 : Heap), Heap.le H12 H41 → ∀ (A43 : Option Addr)
  (n44 c45 : Nat), post40 A43 n44 c45 H41 → ∃ (inv47 : Nat → List Value → Int → Heap → OMap → Prop), ∃ (m48 : Nat → List Value → Int → Nat), inv47 0 [] (0 : Int) H41 O14 ∧ ∀ (H49 : Heap),
  Heap.le H41 H49 → ∀ (O51 : Nat → Option XO) (n52 : Nat) (xs53 : List Value) (n54 : Int), inv47 n52 xs53 n54 H49 O51 → (decide (n54 < (↑n44 : Int)) = true → someA A43 ∧ (0 : Int) ≤ n54 ∧ n54
  < (↑n44 : Int) ∧ ∃ (A57 : Option Addr), ∃ (n58 : Nat), ∃ (c59 : Nat), ∃ (A60 : Option Addr), ∃ (n61 : Nat), ∃ (c62 : Nat), Cells H49 A43 (Int.toNat n54 * 2) [.slice A57 n58 c59, .slice A60
  n61 c62] ∧ ∃ (post63 : ByteArray → Heap → Prop), ConT P 38 [.slice A57 n58 c59] H49 ⟨false, [(false, [.str])]⟩ post63 ∧ ∀ (H64 : Heap), Heap.le H49 H64 → ∀ (s66 : ByteArray), post63 s66 H64
  → ∃ (es68 : List (Value × Value)), isMap O51 (some b0) 68 es68 ∧ ∃ (A69 : Option Addr), ∃ (n70 : Nat), ∃ (c71 : Nat), lkIs es68 (.string s66) false [.slice none 0 0] [.slice A69 n70 c71] ∧
  ∃ (post72 : Option Addr → Nat → Nat → Heap → Prop), ConT P 39 [.agg ⟨[.slice A57 n58 c59, .slice A60 n61 c62]⟩, .slice A69 n70 c71] H64 ⟨false, [(false, [.sl])]⟩ post72 ∧ ∀ (H73 : Heap),
  Heap.le H64 H73 → ∀ (A75 : Option Addr) (n76 c77 : Nat), post72 A75 n76 c77 H73 → ∃ (ys79 : List Value), Cells H73 A75 0 ys79 ∧ List.length ys79 = n76 * 3 ∧ (n52 + n76) * 40 ≤
  140737488355328 ∧ rng .i64 (n54 + (1 : Int)) ∧ inv47 (n52 + n76) (xs53 ++ ys79) (n54 + (1 : Int)) H73 O51 ∧ m48 (n52 + n76) (xs53 ++ ys79) (n54 + (1 : Int)) < m48 n52 xs53 n54) ∧ (decide
  (n54 < (↑n44 : Int)) = false → ∀ (A81 : Option Addr) (c82 : Nat) (H83 : Heap), Heap.le H49 H83 → Cells H83 A81 0 xs53 → n52 ≤ c82 → post A81 n52 c82 H83))) := by kernel_rfl
set_option maxRecDepth 100000 in
set_option maxHeartbeats 2000000 in
theorem fk_Violations {H : Heap} {A B C D : Option Addr} {n c m d k e p q : Nat} {child parent : List Tup} {cols ref : List Int} (hT : TabH H) (h1 : Sl H A n c child) (h2 : Sl H B m d parent) (h3 : Sl H C k e cols) (h4 : Sl H D p q ref) (hf1 : Fit child cols) (hf2 : Fit parent ref) :
    ConT Tryz.prog 15 [.slice A n c, .slice B m d, .slice C k e, .slice D p q] H shS (fun A' n' c' H' => Sl H' A' n' c' (fkAll child parent cols ref)) := by
  refine con_of_vc (an := an15) (fn := Tryz.f15) mix tabOK Tryz.func15 (by kernel_rfl) (extra := 1) ?_
  rw [vc15]
  have f1 := hf1.few; have f2 := hf2.few; have c1 := hf1.clen; have c2 := hf2.clen; have i1 := hf1.lins; have i2 := hf2.lins
  have e3 := h3.len; have e4 := h4.len
  rintro b0 O1 ⟨-, ho1, -⟩
  refine ⟨_, fk_groups hT h2 h4 (by omega) hf2.keys, ?_⟩
  intro H4 l4 A6 n7 c8 hg
  have hgl : (keyList parent ref).length = n7 := by rw [← hg.len]; simp [keyGroups]
  have hkp := keyList_fit hf2.keys
  have hkn := keyList_len parent ref
  refine ⟨fun i H' O' => 0 ≤ i ∧ i ≤ n7 ∧ ∃ es, O' b0 = some (.mp 68 es) ∧ DaysOK H' es ((keyList parent ref).take i.toNat) (fun v => norm ((withK parent ref v).map (·.p))), fun i => n7 - i.toNat,
    ⟨by omega, by omega, [], ho1, ⟨fun v hv => by simp at hv, fun v _ => rfl⟩⟩, ?_⟩
  rintro H12 l12 O14 i ⟨i0, i1', es, ho, hd⟩
  refine ⟨fun hlt => ?_, fun hge => ?_⟩
  · have hlt := of_decide_eq_true hlt
    obtain ⟨hi, hA, _, hc, ⟨A18, n19, c20, A21, n22, c23, rfl, q1, q2⟩⟩ := hg.at l12 i0 hlt
    have hi' : i.toNat < (keyList parent ref).length := by omega
    have hgi : (keyGroups parent ref)[i.toNat] = ⟨(keyList parent ref)[i.toNat], withK parent ref (keyList parent ref)[i.toNat]⟩ := by simp [keyGroups]
    rw [hgi] at q1 q2
    have hvm := List.getElem_mem hi'
    have htk : (keyList parent ref).take (i + 1).toNat = (keyList parent ref).take i.toNat ++ [(keyList parent ref)[i.toNat]] := by
      rw [show (i + 1).toNat = i.toNat + 1 by omega, List.take_succ_eq_append_getElem hi']
    generalize (keyList parent ref)[i.toNat] = v at q1 q2 hvm htk
    refine ⟨hA, i0, hlt, _, _, _, _, _, _, hc, _, value_Key (hT.mono (hle_trans l4 l12)) q1 (hkp v hvm), ?_⟩
    rintro H25 l25 _ rfl
    refine ⟨_, fk_days (q2.mono l25), ?_⟩
    intro H30 l30 A32 n33 c34 h32
    refine ⟨es, ⟨b0, rfl, ho⟩, ?_⟩
    rintro O37 ⟨b49, e49, h49, -⟩
    obtain rfl : b0 = b49 := by simpa using e49
    refine ⟨by simp only [rng]; omega, ⟨by omega, by omega, _, h49, ?_⟩, by dsimp only; omega⟩
    rw [htk]
    exact (hd.mono (hle_trans l25 l30)).put h32
  have hge := of_decide_eq_false hge
  rw [List.take_of_length_le (by omega)] at hd
  have l412 := hle_trans l4 l12
  refine ⟨_, fk_groups (hT.mono l412) (h1.mono l412) (h3.mono l412) (by omega) hf1.keys, ?_⟩
  intro H41 l41 A43 n44 c45 hg2
  have hgl2 : (keyList child cols).length = n44 := by rw [← hg2.len]; simp [keyGroups]
  have hkp2 := keyList_fit hf1.keys
  have hkn2 := keyList_len child cols
  have l441 := hle_trans l412 l41
  generalize hF : (fun v => refV (withK child cols v) (withK parent ref v)) = F
  have hall : fkAll child parent cols ref = (keyList child cols).flatMap F := by subst hF; rfl
  have hFl : ∀ v, (F v).length ≤ 1300 := fun v => by
    subst hF
    have b1 := refV_len (withK child cols v) (withK parent ref v)
    have b2 := withK_len' child cols v; have b3 := withK_len' parent ref v
    simp only; omega
  refine ⟨fun u xs j H' O' => 0 ≤ j ∧ j ≤ n44 ∧ O' b0 = some (.mp 68 es) ∧ Row H' xs (((keyList child cols).take j.toNat).flatMap F) ∧ u = (((keyList child cols).take j.toNat).flatMap F).length ∧ u ≤ j.toNat * 1300, fun _ _ j => n44 - j.toNat,
    ⟨by omega, by omega, ho, rfl, rfl, by omega⟩, ?_⟩
  rintro H49 l49 O51 u xs j ⟨j0, j1, ho5, hr, hu, hub⟩
  refine ⟨fun hlt => ?_, fun hge => ?_⟩
  · have hlt := of_decide_eq_true hlt
    obtain ⟨hj, hA, _, hc, ⟨A57, n58, c59, A60, n61, c62, rfl, q1, q2⟩⟩ := hg2.at l49 j0 hlt
    have hj' : j.toNat < (keyList child cols).length := by omega
    have hgj : (keyGroups child cols)[j.toNat] = ⟨(keyList child cols)[j.toNat], withK child cols (keyList child cols)[j.toNat]⟩ := by simp [keyGroups]
    rw [hgj] at q1 q2
    have hvm := List.getElem_mem hj'
    have htk : ((keyList child cols).take (j + 1).toNat).flatMap F = ((keyList child cols).take j.toNat).flatMap F ++ F (keyList child cols)[j.toNat] := by
      rw [show (j + 1).toNat = j.toNat + 1 by omega, List.take_succ_eq_append_getElem hj', List.flatMap_append]; simp
    generalize (keyList child cols)[j.toNat] = v at q1 q2 hvm htk
    refine ⟨hA, j0, hlt, _, _, _, _, _, _, hc, _, value_Key (hT.mono (hle_trans l441 l49)) q1 (hkp2 v hvm), ?_⟩
    rintro H64 l64 _ rfl
    have l1264 := hle_trans l41 (hle_trans l49 l64)
    obtain ⟨A69, n70, c71, k1, k2⟩ := (hd.mono l1264).look v fun hn => by
      show norm ((withK parent ref v).map (·.p)) = []
      rw [withK_none (keyList_keys parent ref) hn]; rfl
    have k2 : Sl H64 A69 n70 c71 (norm ((withK parent ref v).map (·.p))) := k2
    have k3 := k2.len
    have b1 := norm_length ((withK parent ref v).map (·.p))
    rw [List.length_map] at b1
    have b2 := withK_len' parent ref v; have b3 := withK_len' child cols v; have b4 := withK_lins child cols v
    have q2l := q2.len
    refine ⟨es, .inr ⟨b0, rfl, ho5⟩, A69, n70, c71, k1, _, fk_orphaned (q2.mono l64) k2 (by simp only at q2l; omega) (by omega) (fun x hx => withK_ok x hx) (by show (tlins (withK child cols v)).length * 8 ≤ _; omega), ?_⟩
    intro H73 l73 A75 n76 c77 h75
    have h75 : Sl H73 A75 n76 c77 (orphGo (segF (fkF (withK child cols v) []) (canon (tends (withK child cols v)))) (diff (norm ((withK child cols v).map (·.p))) (norm ((withK parent ref v).map (·.p)))) []) := h75
    rw [fk_one withK_ok withK_ok] at h75
    have hFv : F v = refV (withK child cols v) (withK parent ref v) := by subst hF; rfl
    rw [← hFv] at h75
    have h7l := h75.len
    have hfl := hFl v
    obtain ⟨ys, y1, y2⟩ := h75.row
    have hub0 : j.toNat * 1300 ≤ 300 * 1300 := Nat.mul_le_mul (by omega) (Nat.le_refl _)
    refine ⟨ys, y1, by rw [y2.length, h7l]; rfl, by omega, by simp only [rng]; omega, ⟨by omega, by omega, ho5, by rw [htk]; exact (hr.mono (hle_trans l64 l73)).append y2, by rw [htk, List.length_append, hu, h7l], by omega⟩, by dsimp only; omega⟩
  · have hge := of_decide_eq_false hge
    rw [List.take_of_length_le (by omega), ← hall] at hr hu
    intro A81 c82 H83 l83 hc83 hn83
    have hub0 : j.toNat * 1300 ≤ 300 * 1300 := Nat.mul_le_mul (by omega) (Nat.le_refl _)
    exact hr.sl l83 hc83 hu.symm hn83 (by show u * 40 ≤ _; omega) (by omega)
def an16 : Ann where
  res := fun _ => none
  lend := fun _ => false
  sch := fun _ => .done
  lt := fun _ => []
  tup := tups

theorem vc16 (P : Program) (H : Heap) (childA : Option Addr) (childN childC : Nat) (parentA : Option Addr) (parentN parentC : Nat) (colsA : Option Addr) (colsN colsC : Nat) (refColsA : Option Addr) (refColsN refColsC : Nat) (post : Bool → Heap → Prop) :
  vcFn P tab an16 Tryz.f16 [.slice childA childN childC, .slice parentA parentN parentC, .slice colsA colsN colsC, .slice refColsA refColsN refColsC] 0 H ⟨false, [(false, [.bool])]⟩ post =
  (  ∃ (post0 : Option Addr → Nat → Nat → Heap → Prop), ConT P 15 [.slice childA childN childC, .slice parentA parentN parentC, .slice colsA colsN colsC, .slice refColsA refColsN refColsC] H
  ⟨false, [(false, [.sl])]⟩ post0 ∧ ∀ (H1 : Heap), Heap.le H H1 → ∀ (A3 : Option Addr) (n4 c5 : Nat), post0 A3 n4 c5 H1 → post (decide ((↑n4 : Int) = (0 : Int))) H1) := by kernel_rfl
theorem fk_Holds {H : Heap} {A B C D : Option Addr} {n c m d k e p q : Nat} {child parent : List Tup} {cols ref : List Int} (hT : TabH H) (h1 : Sl H A n c child) (h2 : Sl H B m d parent) (h3 : Sl H C k e cols) (h4 : Sl H D p q ref) (hf1 : Fit child cols) (hf2 : Fit parent ref) :
    ConT Tryz.prog 16 [.slice A n c, .slice B m d, .slice C k e, .slice D p q] H shB (fun r _ => r = decide ((fkAll child parent cols ref).length = 0)) := by
  refine con_of_vc (an := an16) (fn := Tryz.f16) mix tabOK Tryz.func16 (by kernel_rfl) (extra := 0) ?_
  rw [vc16]
  refine ⟨_, fk_Violations hT h1 h2 h3 h4 hf1 hf2, fun H1 l1 A1 n1 c1 h => ?_⟩
  have hl := h.len
  rw [hl, Bool.eq_iff_iff, decide_eq_true_eq, decide_eq_true_eq]; omega
end Go.Vc
/- The reference's side; the law's helpers. -/
namespace Go.Vc
open Go Go.Proofs Go.Shelf
/- the law's helpers -/
def an26 : Ann where
  res := fun _ => none
  lend := fun _ => false
  sch := fun _ => .done
  lt := fun _ => []
  tup := tups

theorem vc26 (P : Program) (H : Heap) (from0 : Int) (to0 : Int) (id : Int) (post : Option Addr → Nat → Nat → Int → Int → Option Addr → Nat → Nat → Heap → Prop) :
  vcFn P tab an26 Tryz.f26 [.int .i64 from0, .int .i64 to0, .int .i64 id] 0 H ⟨false, [(true, [.sl, .int .i64, .int .i64, .sl])]⟩ post =
  (  ∃ (post0 : Option Addr → Nat → Nat → Heap → Prop), ConT P 20 [.int .u16 (0 : Int), .int .u16 (0 : Int)] H ⟨false, [(false, [.sl])]⟩ post0 ∧ ∀ (H1 : Heap), Heap.le H H1 → ∀ (A3 : Option
  Addr) (n4 c5 : Nat), post0 A3 n4 c5 H1 → ∀ (A7 : Option Addr) (c8 : Nat) (H9 : Heap), Heap.le H1 H9 → Cells H9 A7 0 [.int .i64 id] → 1 ≤ c8 → post A3 n4 c5 from0 to0 A7 1 c8 H9) := by kernel_rfl
theorem law23_row {H : Heap} {lo hi id : Int} (h1 : rng .i64 lo) (h2 : rng .i64 hi) (h3 : rng .i64 id) :
    ConT Tryz.prog 26 [.int .i64 lo, .int .i64 hi, .int .i64 id] H ⟨false, [(true, [.sl, .int .i64, .int .i64, .sl])]⟩ (fun A n c a b B m d H' => Rep.rel H' [.slice A n c, .int .i64 a, .int .i64 b, .slice B m d] (⟨[lv0 0, lv1 0], ⟨lo, hi⟩, [id]⟩ : Tup)) := by
  refine con_of_vc (an := an26) (fn := Tryz.f26) mix tabOK Tryz.func26 (by kernel_rfl) (extra := 0) ?_
  rw [vc26]
  refine ⟨_, law0_Vals (x := 0) (y := 0) (by decide) (by decide), ?_⟩
  intro H1 l1 A3 n4 c5 h4 A7 c8 H9 l9 hc9 hn9
  exact ⟨_, _, _, _, _, _, rfl, h4.mono l9, h1, h2, Row.sl (H := H9) (T := Int) (l := [id]) ⟨[_], [], rfl, ⟨rfl, h3⟩, rfl⟩ (hle_refl _) hc9 rfl hn9 (by decide) (by decide)⟩
def colsOf (x : Int) : List Int := if x.tmod 4 = 0 then [0] else if x.tmod 4 = 1 then [1] else if x.tmod 4 = 2 then [0, 1] else [1, 0]
theorem colsOf_len (x : Int) : (colsOf x).length ≤ 2 := by
  unfold colsOf
  split
  · decide
  · split
    · decide
    · split <;> decide
def an18 : Ann where
  res := fun _ => none
  lend := fun _ => false
  sch := fun _ => .done
  lt := fun _ => []
  tup := tups

theorem vc18 (P : Program) (H : Heap) (x : Int) (post : Option Addr → Nat → Nat → Heap → Prop) :
  vcFn P tab an18 Tryz.f18 [.int .u16 x] 0 H ⟨false, [(false, [.sl])]⟩ post =
  (  ∀ (A0 : Option Addr) (c1 : Nat) (H2 : Heap), Heap.le H H2 → Cells H2 A0 0 [.int .i64 (0 : Int)] → 1 ≤ c1 → ∀ (A6 : Option Addr) (c7 : Nat) (H8 : Heap), Heap.le H2 H8 → Cells H8 A6 0 [.int
  .i64 (1 : Int)] → 1 ≤ c7 → ∀ (A12 : Option Addr) (c13 : Nat) (H14 : Heap), Heap.le H8 H14 → Cells H14 A12 0 [.int .i64 (0 : Int), .int .i64 (1 : Int)] → 2 ≤ c13 → ∀ (A18 : Option Addr) (c19
  : Nat) (H20 : Heap), Heap.le H14 H20 → Cells H20 A18 0 [.int .i64 (1 : Int), .int .i64 (0 : Int)] → 2 ≤ c19 → (4 : Int) ≠ (0 : Int) ∧ (0 : Int) ≤ Int.tmod x (4 : Int) ∧ Int.tmod x (4 : Int)
  < (↑4 : Int) ∧ ∃ (A24 : Option Addr), ∃ (n25 : Nat), ∃ (c26 : Nat), win [.slice A0 1 c1, .slice A6 1 c7, .slice A12 2 c13, .slice A18 2 c19] (Int.toNat (Int.tmod x (4 : Int)) * 1) 1 =
  [.slice A24 n25 c26] ∧ post A24 n25 c26 H20) := by kernel_rfl
theorem law23_columns {x : Int} {H : Heap} (hx : 0 ≤ x) : ConT Tryz.prog 18 [.int .u16 x] H shS (fun A n c H' => Sl H' A n c (colsOf x)) := by
  refine con_of_vc (an := an18) (fn := Tryz.f18) mix tabOK Tryz.func18 (by kernel_rfl) (extra := 0) ?_
  rw [vc18]
  intro A0 c1 H2 l2 hc2 hn2 A6 c7 H8 l8 hc8 hn8 A12 c13 H14 l14 hc14 hn14 A18 c19 H20 l20 hc20 hn20
  have one : ∀ {H' : Heap} {A : Option Addr} {c : Nat} {u : Int}, rng .i64 u → Heap.le H' H20 → Cells H' A 0 [.int .i64 u] → 1 ≤ c → Sl H20 A 1 c [u] := fun {H' A c u} hu hle hc hn =>
    Row.sl (H := H20) (T := Int) (l := [u]) ⟨[_], [], rfl, ⟨rfl, hu⟩, rfl⟩ (hle_refl _) (hc.mono hle) rfl hn (by decide) (by decide)
  have two : ∀ {H' : Heap} {A : Option Addr} {c : Nat} {u v : Int}, rng .i64 u → rng .i64 v → Heap.le H' H20 → Cells H' A 0 [.int .i64 u, .int .i64 v] → 2 ≤ c → Sl H20 A 2 c [u, v] := fun {H' A c u v} hu hv hle hc hn =>
    Row.sl (H := H20) (T := Int) (l := [u, v]) ⟨[_], [_], rfl, ⟨rfl, hu⟩, [_], [], rfl, ⟨rfl, hv⟩, rfl⟩ (hle_refl _) (hc.mono hle) rfl hn (by decide) (by decide)
  have h6 := tmod_bd hx (m := 4) (by decide)
  have l14' := l20
  have l8' := hle_trans l14 l14'
  have l2' := hle_trans l8 l8'
  refine ⟨by decide, h6.1, h6.2, ?_⟩
  unfold colsOf
  generalize Int.tmod x 4 = k at h6
  have hk : k = 0 ∨ k = 1 ∨ k = 2 ∨ k = 3 := by omega
  rcases hk with rfl | rfl | rfl | rfl
  · exact ⟨_, _, _, rfl, one (by decide) l2' hc2 hn2⟩
  · exact ⟨_, _, _, rfl, one (by decide) l8' hc8 hn8⟩
  · exact ⟨_, _, _, rfl, two (by decide) (by decide) l14' hc14 hn14⟩
  · exact ⟨_, _, _, rfl, two (by decide) (by decide) (hle_refl _) hc20 hn20⟩
theorem aw_fit {l : List Tup} (h : ∀ t ∈ l, t = awC ∨ t = awP ∨ t = awQ) (h1 : l.length < 20) (h2 : (tlins l).length ≤ 1000) : Fit l [0] := by
  refine fit_of (by omega) (by decide) (by omega) fun t ht => ?_
  rcases h t ht with rfl | rfl | rfl <;> exact two_val (by decide) (by decide)
theorem aw_fitC : Fit [awC] [0] := aw_fit (fun t ht => by simp at ht; exact .inl ht) (by decide) (by decide)
theorem aw_fitP : Fit [awP, awQ] [0] := aw_fit (fun t ht => by simp at ht; exact .inr ht) (by decide) (by decide)
def an9 : Ann where
  res := fun _ => none
  lend := fun | 47 => true | 55 => true | _ => false
  sch := fun _ => .done
  lt := fun _ => []
  tup := tups

theorem vc9 (P : Program) (H : Heap)  (post : Bool → Heap → Prop) :
  vcFn P tab an9 Tryz.f9 [] 0 H ⟨false, [(false, [.bool])]⟩ post =
  (  ∃ (post0 : Option Addr → Nat → Nat → Int → Int → Option Addr → Nat → Nat → Heap → Prop), ConT P 26 [.int .i64 (0 : Int), .int .i64 (9 : Int), .int .i64 (4 : Int)] H ⟨false, [(true, [.sl,
  .int .i64, .int .i64, .sl])]⟩ post0 ∧ ∀ (H1 : Heap), Heap.le H H1 → ∀ (A3 : Option Addr) (n4 c5 : Nat) (n6 n7 : Int) (A8 : Option Addr) (n9 c10 : Nat), post0 A3 n4 c5 n6 n7 A8 n9 c10 H1 → ∃
  (post12 : Option Addr → Nat → Nat → Int → Int → Option Addr → Nat → Nat → Heap → Prop), ConT P 26 [.int .i64 (0 : Int), .int .i64 (5 : Int), .int .i64 (1 : Int)] H1 ⟨false, [(true, [.sl,
  .int .i64, .int .i64, .sl])]⟩ post12 ∧ ∀ (H13 : Heap), Heap.le H1 H13 → ∀ (A15 : Option Addr) (n16 c17 : Nat) (n18 n19 : Int) (A20 : Option Addr) (n21 c22 : Nat), post12 A15 n16 c17 n18 n19
  A20 n21 c22 H13 → ∃ (post24 : Option Addr → Nat → Nat → Int → Int → Option Addr → Nat → Nat → Heap → Prop), ConT P 26 [.int .i64 (6 : Int), .int .i64 (9 : Int), .int .i64 (2 : Int)] H13
  ⟨false, [(true, [.sl, .int .i64, .int .i64, .sl])]⟩ post24 ∧ ∀ (H25 : Heap), Heap.le H13 H25 → ∀ (A27 : Option Addr) (n28 c29 : Nat) (n30 n31 : Int) (A32 : Option Addr) (n33 c34 : Nat),
  post24 A27 n28 c29 n30 n31 A32 n33 c34 H25 → ∀ (A36 : Option Addr) (c37 : Nat) (H38 : Heap), Heap.le H25 H38 → Cells H38 A36 0 [.slice A3 n4 c5, .int .i64 n6, .int .i64 n7, .slice A8 n9
  c10] → 1 ≤ c37 → ∀ (A42 : Option Addr) (c43 : Nat) (H44 : Heap), Heap.le H38 H44 → Cells H44 A42 0 [.slice A15 n16 c17, .int .i64 n18, .int .i64 n19, .slice A20 n21 c22, .slice A27 n28 c29,
  .int .i64 n30, .int .i64 n31, .slice A32 n33 c34] → 2 ≤ c43 → ∀ (A48 : Option Addr) (c49 : Nat) (H50 : Heap), Heap.le H44 H50 → Cells H50 A48 0 [.int .i64 (0 : Int)] → 1 ≤ c49 → ∀ (A54 :
  Option Addr) (c55 : Nat) (H56 : Heap), Heap.le H50 H56 → Cells H56 A54 0 [.int .i64 (0 : Int)] → 1 ≤ c55 → ∃ (post60 : Option Addr → Nat → Nat → Heap → Prop), ConT P 15 [.slice A36 1 c37,
  .slice A42 2 c43, .slice A48 1 c49, .slice A54 1 c55] H56 ⟨false, [(false, [.sl])]⟩ post60 ∧ ∀ (H61 : Heap), Heap.le H56 H61 → ∀ (A63 : Option Addr) (n64 c65 : Nat), post60 A63 n64 c65 H61
  → (decide ((↑n64 : Int) = (1 : Int)) = true → someA A63 ∧ (0 : Int) ≤ (0 : Int) ∧ (0 : Int) < (↑n64 : Int) ∧ ∃ (n68 : Int), ∃ (n69 : Int), Cells H61 A63 (Int.toNat (0 : Int) * 3 + 0) [.int
  .i64 n68, .int .i64 n69] ∧ ((decide (n68 = (5 : Int)) && decide (n69 = (6 : Int))) = true → someA A63 ∧ (0 : Int) ≤ (0 : Int) ∧ (0 : Int) < (↑n64 : Int) ∧ ∃ (A71 : Option Addr), ∃ (n72 :
  Nat), ∃ (c73 : Nat), Cells H61 A63 (Int.toNat (0 : Int) * 3 + 2) [.slice A71 n72 c73] ∧ (decide ((↑n72 : Int) = (1 : Int)) = true → someA A63 ∧ (0 : Int) ≤ (0 : Int) ∧ (0 : Int) < (↑n64 :
  Int) ∧ ∃ (A75 : Option Addr), ∃ (n76 : Nat), ∃ (c77 : Nat), Cells H61 A63 (Int.toNat (0 : Int) * 3 + 2) [.slice A75 n76 c77] ∧ someA A75 ∧ (0 : Int) ≤ (0 : Int) ∧ (0 : Int) < (↑n76 : Int) ∧
  ∃ (n78 : Int), Cells H61 A75 (Int.toNat (0 : Int) * 1) [.int .i64 n78] ∧ (decide (n78 = (4 : Int)) = true → ∃ (post80 : Bool → Heap → Prop), (∀ (A81 : Option Addr) (c82 : Nat) (H83 : Heap),
  Heap.le H61 H83 → Cells H83 A81 0 [.int .i64 (0 : Int)] → 1 ≤ c82 → ∀ (A87 : Option Addr) (c88 : Nat) (H89 : Heap), Heap.le H83 H89 → Cells H89 A87 0 [.int .i64 (0 : Int)] → 1 ≤ c88 → ConT
  P 16 [.slice A36 1 c37, .slice A42 2 c43, .slice A81 1 c82, .slice A87 1 c88] H89 ⟨false, [(false, [.bool])]⟩ post80) ∧ ∀ (H93 : Heap) (b94 : Bool), post80 b94 H93 → ((!b94) = true → ∃
  (post97 : Bool → Heap → Prop), (∀ (A98 : Option Addr) (c99 : Nat) (H100 : Heap), Heap.le H61 H100 → Cells H100 A98 0 [.int .i64 (0 : Int)] → 1 ≤ c99 → ∀ (A104 : Option Addr) (c105 : Nat)
  (H106 : Heap), Heap.le H100 H106 → Cells H106 A104 0 [.int .i64 (0 : Int)] → 1 ≤ c105 → ConT P 16 [.slice A42 2 c43, .slice A36 1 c37, .slice A98 1 c99, .slice A104 1 c105] H106 ⟨false,
  [(false, [.bool])]⟩ post97) ∧ ∀ (H110 : Heap) (b111 : Bool), post97 b111 H110 → (b111 = true → ∃ (post114 : Option Addr → Nat → Nat → Heap → Prop), ConT P 20 [.int .u16 (0 : Int), .int .u16
  (0 : Int)] H61 ⟨false, [(false, [.sl])]⟩ post114 ∧ ∀ (H115 : Heap), Heap.le H61 H115 → ∀ (A117 : Option Addr) (n118 c119 : Nat), post114 A117 n118 c119 H115 → (0 : Int) ≤ (0 : Int) ∧ (0 :
  Int) ≤ (1 : Int) ∧ (1 : Int) ≤ (↑c119 : Int) ∧ ∀ (A121 : Option Addr), A121 = subA A117 c119 (Int.toNat (0 : Int)) 3 → ∀ (A123 : Option Addr) (c124 : Nat) (H125 : Heap), Heap.le H115 H125 →
  Cells H125 A123 0 [.int .i64 (0 : Int)] → 1 ≤ c124 → ∃ (post129 : Option Addr → Nat → Nat → Heap → Prop), ConT P 12 [.slice A42 2 c43, .slice A123 1 c124, .slice A121 (Int.toNat (1 : Int) -
  Int.toNat (0 : Int)) (c119 - Int.toNat (0 : Int))] H125 ⟨false, [(false, [.sl])]⟩ post129 ∧ ∀ (H130 : Heap), Heap.le H125 H130 → ∀ (A132 : Option Addr) (n133 c134 : Nat), post129 A132 n133
  c134 H130 → post (decide ((↑n133 : Int) = (2 : Int))) H130) ∧ (b111 = false → post false H61)) ∧ ((!b94) = false → post false H61)) ∧ (decide (n78 = (4 : Int)) = false → post false H61)) ∧
  (decide ((↑n72 : Int) = (1 : Int)) = false → post false H61)) ∧ ((decide (n68 = (5 : Int)) && decide (n69 = (6 : Int))) = false → post false H61)) ∧ (decide ((↑n64 : Int) = (1 : Int)) =
  false → post false H61)) := by kernel_rfl
set_option maxHeartbeats 2000000 in
theorem law23_awake {H : Heap} (hT : TabH H) : ConT Tryz.prog 9 [] H shB (fun r _ => r = true) := by
  refine con_of_vc (an := an9) (fn := Tryz.f9) mix tabOK Tryz.func9 (by kernel_rfl) (extra := 0) ?_
  rw [vc9]
  refine ⟨_, law23_row (by decide) (by decide) (by decide), ?_⟩
  intro H1 l1 A3 n4 c5 n6 n7 A8 n9 c10 k1
  refine ⟨_, law23_row (by decide) (by decide) (by decide), ?_⟩
  intro H13 l13 A15 n16 c17 n18 n19 A20 n21 c22 k2
  refine ⟨_, law23_row (by decide) (by decide) (by decide), ?_⟩
  intro H25 l25 A27 n28 c29 n30 n31 A32 n33 c34 k3 A36 c37 H38 l38 hc38 hn38 A42 c43 H44 l44 hc44 hn44 A48 c49 H50 l50 hc50 hn50 A54 c55 H56 l56 hc56 hn56
  have k1 : Rep.rel H1 _ awC := k1
  have k2 : Rep.rel H13 _ awP := k2
  have k3 : Rep.rel H25 _ awQ := k3
  have sC : Sl H38 A36 1 c37 [awC] := Row.sl (H := H38) (T := Tup) (l := [awC]) ⟨[_, _, _, _], [], rfl, Rep.mono (hle_trans l13 (hle_trans l25 l38)) k1, rfl⟩ (hle_refl _) hc38 rfl hn38 (by decide) (by decide)
  have sP : Sl H44 A42 2 c43 [awP, awQ] := Row.sl (H := H44) (T := Tup) (l := [awP, awQ]) ⟨[_, _, _, _], [_, _, _, _], rfl, Rep.mono (hle_trans l25 (hle_trans l38 l44)) k2, [_, _, _, _], [], rfl, Rep.mono (hle_trans l38 l44) k3, rfl⟩ (hle_refl _) hc44 rfl hn44 (by decide) (by decide)
  have cols1 : ∀ {H' : Heap} {A : Option Addr} {c : Nat}, Cells H' A 0 [.int .i64 0] → 1 ≤ c → Sl H' A 1 c [(0 : Int)] := fun {H' A c} hc hn => Row.sl (H := H') (T := Int) (l := [0]) ⟨[_], [], rfl, ⟨rfl, by decide⟩, rfl⟩ (hle_refl _) hc rfl hn (by decide) (by decide)
  have l4456 := hle_trans l50 l56
  have sC := sC.mono (hle_trans l44 l4456)
  have sP := sP.mono l4456
  have hT56 := hT.mono (hle_trans l1 (hle_trans l13 (hle_trans l25 (hle_trans l38 (hle_trans l44 l4456)))))
  refine ⟨_, fk_Violations hT56 sC sP ((cols1 hc50 hn50).mono l56) (cols1 hc56 hn56) aw_fitC aw_fitP, ?_⟩
  intro H61 l61 A63 n64 c65 g
  rw [fw_one] at g
  have hl := g.len
  simp only [List.length_cons, List.length_nil] at hl
  subst hl
  obtain ⟨hi, hA, _, hc, ⟨A1, n1, c1, rfl, q1, q2, q3⟩⟩ := g.at (hle_refl H61) (i := 0) (by omega) (by omega)
  have q3l := q3.len
  simp at q3l
  subst q3l
  obtain ⟨ji, jA, _, jc, ⟨rfl, j1⟩⟩ := q3.at (hle_refl H61) (i := 0) (by omega) (by omega)
  have hT61 := hT56.mono l61
  have sC := sC.mono l61
  have sP := sP.mono l61
  refine ⟨fun _ => ⟨hA, by omega, by omega, _, _, hc.at2 (k := 0) rfl rfl, fun _ => ⟨hA, by omega, by omega, _, _, _, hc.at1 (k := 2) rfl, fun _ => ⟨hA, by omega, by omega, _, _, _, hc.at1 (k := 2) rfl, jA, by omega, by omega, _, jc, fun _ => ⟨_, fun A81 c82 H83 l83 hc83 hn83 A87 c88 H89 l89 hc89 hn89 => fk_Holds (hT61.mono (hle_trans l83 l89)) (sC.mono (hle_trans l83 l89)) (sP.mono (hle_trans l83 l89)) ((cols1 hc83 hn83).mono l89) (cols1 hc89 hn89) aw_fitC aw_fitP, ?_⟩, fun h => by simp at h⟩, fun h => by simp at h⟩, fun h => by simp at h⟩, fun h => by simp at h⟩
  rintro H93 _ rfl
  rw [fw_one]
  refine ⟨fun _ => ⟨_, fun A81 c82 H83 l83 hc83 hn83 A87 c88 H89 l89 hc89 hn89 => fk_Holds (hT61.mono (hle_trans l83 l89)) (sP.mono (hle_trans l83 l89)) (sC.mono (hle_trans l83 l89)) ((cols1 hc83 hn83).mono l89) (cols1 hc89 hn89) aw_fitP aw_fitC, ?_⟩, fun h => by simp at h⟩
  rintro H110 _ rfl
  rw [fw_none]
  refine ⟨fun _ => ⟨_, law0_Vals (x := 0) (y := 0) (by decide) (by decide), ?_⟩, fun h => by simp at h⟩
  intro H115 l115 A117 n118 c119 hv
  have hvl := hv.len
  simp only [List.length_cons, List.length_nil] at hvl
  subst hvl
  have hcap := hv.cap
  refine ⟨by omega, by omega, by omega, ?_⟩
  rintro A121 rfl A123 c124 H125 l125 hc125 hn125
  have hk := (hv.sub (j := 0) (k := 1) (by omega) (by omega)).mono l125
  refine ⟨_, foreignkey_Covered (sP.mono (hle_trans l115 l125)) (cols1 hc125 hn125) hk (by omega), ?_⟩
  intro H130 l130 A132 n133 c134 hz
  have hz : Sl H130 A132 n133 c134 (covL [awP, awQ] [0] [lv0 0]) := hz
  rw [fw_cov] at hz
  have := hz.len
  simp only [List.length_cons, List.length_nil] at this
  subst this
  rfl
end Go.Vc
/- The laws of foreign keys. -/
namespace Go.Vc
open Go Go.Proofs Go.Shelf
instance (v : Vio) (d : Int) : Decidable (inV v d) := inferInstanceAs (Decidable (_ ∧ _))
end Go.Vc
