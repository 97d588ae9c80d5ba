/- DropColumn. -/
import Derived.Test.YthbapbapcnafhaaC7
import Derived.Test.YthbapbapcnafhaaM1
set_option linter.unusedSectionVars false
set_option linter.unusedSimpArgs false
set_option linter.unusedVariables false
namespace Go.Vc
open Go Go.Proofs
theorem Row.drop {T : Type} [Rep T] {H : Heap} : ∀ {xs : List Value} {l : List T} (k : Nat), Row H xs l → Row H (xs.drop (k * Rep.sz T)) (l.drop k)
  | _, _, 0, h => by rw [Nat.zero_mul]; exact h
  | _, [], k + 1, h => by
    have h0 := h.length
    rw [List.length_nil, Nat.zero_mul] at h0
    rw [List.eq_nil_of_length_eq_zero h0, List.drop_nil, List.drop_nil]
    rfl
  | _, t :: r, k + 1, ⟨vs, us, e, h1, h2⟩ => by
    have hl := Rep.len h1
    subst e
    have e : (vs ++ us).drop ((k + 1) * Rep.sz T) = us.drop (k * Rep.sz T) := by
      rw [List.drop_append, List.drop_of_length_le (by rw [hl, Nat.add_mul, Nat.one_mul]; omega), List.nil_append]
      congr 1
      rw [hl, Nat.add_mul, Nat.one_mul]; omega
    rw [e]
    exact Row.drop k h2
theorem Row.take {T : Type} [Rep T] {H : Heap} : ∀ {xs : List Value} {l : List T} (k : Nat), Row H xs l → Row H (xs.take (k * Rep.sz T)) (l.take k)
  | _, _, 0, h => by rw [Nat.zero_mul, List.take_zero, List.take_zero]; rfl
  | _, [], k + 1, h => by
    have h0 := h.length
    rw [List.length_nil, Nat.zero_mul] at h0
    rw [List.eq_nil_of_length_eq_zero h0, List.take_nil, List.take_nil]
    rfl
  | _, t :: r, k + 1, ⟨vs, us, e, h1, h2⟩ => by
    have hl := Rep.len h1
    subst e
    have e : (vs ++ us).take ((k + 1) * Rep.sz T) = vs ++ us.take (k * Rep.sz T) := by
      rw [List.take_append, List.take_of_length_le (by rw [hl, Nat.add_mul, Nat.one_mul]; omega)]
      congr 2
      rw [hl, Nat.add_mul, Nat.one_mul]; omega
    rw [e]
    exact ⟨vs, _, rfl, h1, Row.take k h2⟩
theorem Delete_Col {H : Heap} {n i j r : Nat} {xs : List Value} (hij : i ≤ j) (hj : j ≤ n) :
    ConM Try.prog 68 [.slice none 0 0, .int .i64 i, .int .i64 j] 0 51 n xs false H ⟨false, [(false, [.row r 51])]⟩ (fun _ m zs _ => m = n - (j - i) ∧ zs = xs.take (i * 3) ++ xs.drop (j * 3)) :=
  delete_con delCol_l (by kernel_rfl) hij hj
def used (s : TSch) (x : Int) : Bool := (s.fks.any fun f => f.cols.contains x || (decide (f.table = s.name) && f.refs.contains x)) || (s.csts.any fun c => c.cols.contains x) || s.key.contains x
theorem idxOf_in {T : Type} (p : T → Bool) : ∀ (l : List T) (i : Int), 0 ≤ i → 0 ≤ idxOf p i l → idxOf p i l < i + l.length
  | [], i, h0, h => by simp [idxOf] at h
  | x :: r, i, h0, h => by
    simp only [idxOf, List.length_cons] at h ⊢
    split at h
    · rw [if_pos (by assumption)]; omega
    · rw [if_neg (by assumption)]
      have := idxOf_in p r (i + 1) (by omega) h
      omega
def fresh (s : TSch) (x : Int) : Bool := s.vers.dropLast.all fun v => !hasID v.cols x
section
variable {H : Heap} {nm : ByteArray} {A : Option Addr} {n c : Nat} {B : Option Addr} {m d : Nat} {E : Option Addr} {k e : Nat} {F : Option Addr} {l f : Nat} {s : TSch}
def an66 : Ann where
  res := fun _ => none
  lend := fun | 19 => true | 30 => true | 44 => true | 49 => true | _ => false
  sch := fun _ => .done
  lt := fun | 2 => [.slot 12 false [.int .i64]] | 8 => [.slot 37 false [.int .i64]] | _ => []
  tup := tups

theorem vc66 (P : Program) (H : Heap) (sName : ByteArray) (sVersionsA : Option Addr) (sVersionsN sVersionsC : Nat) (sKeyA : Option Addr) (sKeyN sKeyC : Nat) (sForeignKeysA : Option Addr) (sForeignKeysN sForeignKeysC : Nat) (sConstraintsA : Option Addr) (sConstraintsN sConstraintsC : Nat) (id : Int) (post : Bool → Heap → Prop) :
  vcFn P tab an66 Try.f66 [.agg #[.string sName, .slice sVersionsA sVersionsN sVersionsC, .slice sKeyA sKeyN sKeyC, .slice sForeignKeysA sForeignKeysN sForeignKeysC, .slice sConstraintsA sConstraintsN sConstraintsC], .int .i64 id] 0 H ⟨false, [(false, [.bool])]⟩ post =
  (  ∃ (inv0 : Int → Heap → Prop), ∃ (m1 : Int → Nat), inv0 (0 : Int) H ∧ ∀ (H2 : Heap), Heap.le H H2 → ∀ (n4 : Int), inv0 n4 H2 → (decide (n4 < (↑sForeignKeysN : Int)) = true → someA
  sForeignKeysA ∧ (0 : Int) ≤ n4 ∧ n4 < (↑sForeignKeysN : Int) ∧ ∃ (A7 : Option Addr), ∃ (n8 : Nat), ∃ (c9 : Nat), ∃ (s10 : ByteArray), ∃ (A11 : Option Addr), ∃ (n12 : Nat), ∃ (c13 : Nat),
  Cells H2 sForeignKeysA (Int.toNat n4 * 3) [.slice A7 n8 c9, .string s10, .slice A11 n12 c13] ∧ ∃ (post14 : Bool → Heap → Prop), ConT P 82 [.slice A7 n8 c9, .int .i64 id] H2 ⟨false, [(false,
  [.bool])]⟩ post14 ∧ ∀ (H15 : Heap), Heap.le H2 H15 → ∀ (b17 : Bool), post14 b17 H15 → (b17 = true → post true H15) ∧ (b17 = false → (decide (s10 = sName) = true → ∃ (post22 : Bool → Heap →
  Prop), ConT P 82 [.slice A11 n12 c13, .int .i64 id] H15 ⟨false, [(false, [.bool])]⟩ post22 ∧ ∀ (H23 : Heap), Heap.le H15 H23 → ∀ (b25 : Bool), post22 b25 H23 → (b25 = true → post true H23)
  ∧ (b25 = false → rng .i64 (n4 + (1 : Int)) ∧ inv0 (n4 + (1 : Int)) H23 ∧ m1 (n4 + (1 : Int)) < m1 n4)) ∧ (decide (s10 = sName) = false → rng .i64 (n4 + (1 : Int)) ∧ inv0 (n4 + (1 : Int))
  H15 ∧ m1 (n4 + (1 : Int)) < m1 n4))) ∧ (decide (n4 < (↑sForeignKeysN : Int)) = false → ∃ (inv31 : Int → Heap → Prop), ∃ (m32 : Int → Nat), inv31 (0 : Int) H2 ∧ ∀ (H33 : Heap), Heap.le H2
  H33 → ∀ (n35 : Int), inv31 n35 H33 → (decide (n35 < (↑sConstraintsN : Int)) = true → someA sConstraintsA ∧ (0 : Int) ≤ n35 ∧ n35 < (↑sConstraintsN : Int) ∧ ∃ (n38 : Int), ∃ (A39 : Option
  Addr), ∃ (n40 : Nat), ∃ (c41 : Nat), Cells H33 sConstraintsA (Int.toNat n35 * 2) [.int .i64 n38, .slice A39 n40 c41] ∧ ∃ (post42 : Bool → Heap → Prop), ConT P 82 [.slice A39 n40 c41, .int
  .i64 id] H33 ⟨false, [(false, [.bool])]⟩ post42 ∧ ∀ (H43 : Heap), Heap.le H33 H43 → ∀ (b45 : Bool), post42 b45 H43 → (b45 = true → post true H43) ∧ (b45 = false → rng .i64 (n35 + (1 : Int))
  ∧ inv31 (n35 + (1 : Int)) H43 ∧ m32 (n35 + (1 : Int)) < m32 n35)) ∧ (decide (n35 < (↑sConstraintsN : Int)) = false → ∃ (post50 : Bool → Heap → Prop), ConT P 82 [.slice sKeyA sKeyN sKeyC,
  .int .i64 id] H33 ⟨false, [(false, [.bool])]⟩ post50 ∧ ∀ (H51 : Heap), Heap.le H33 H51 → ∀ (b53 : Bool), post50 b53 H51 → post b53 H51))) := by kernel_rfl
theorem schema_used {x : Int} (hs : IsTSch H nm A n c B m d E k e F l f s) :
    ConT Try.prog 66 [.agg ⟨[.string nm, .slice A n c, .slice B m d, .slice E k e, .slice F l f]⟩, .int .i64 x] H shB (fun r _ => r = used s x) := by
  refine con_of_vc (an := an66) (fn := Try.f66) mix tabOK Try.func66 (by kernel_rfl) (extra := 0) ?_
  rw [vc66]
  obtain ⟨rfl, hstr, hv, hk, hf, hc⟩ := hs
  have f1 := hf.bn; have f2 := hf.len; have c1 := hc.bn; have c2 := hc.len
  unfold used
  generalize hp : (fun f : FKey => f.cols.contains x || (decide (f.table = s.name) && f.refs.contains x)) = p
  generalize hq : (fun c : Cst => c.cols.contains x) = q
  refine ⟨fun i _ => 0 ≤ i ∧ i ≤ k ∧ s.fks.any p = (s.fks.drop i.toNat).any p, fun i => k - i.toNat, ⟨by omega, by omega, rfl⟩, ?_⟩
  rintro H1 l1 i ⟨h0, h1, h2⟩
  refine ⟨fun hlt => ?_, fun hge => ?_⟩
  · have hlt := of_decide_eq_true hlt
    obtain ⟨hi, hA, _, hcc, ⟨A3, n3, c3, B3, m3, d3, rfl, r1, r2, r3⟩⟩ := hf.at l1 h0 hlt
    rw [drop_at h0 hi, List.any_cons] at h2
    refine ⟨hA, h0, hlt, _, _, _, _, _, _, _, hcc, _, Contains_int r1, ?_⟩
    rintro H2 l2 _ rfl
    have hpi : p s.fks[i.toNat] = (s.fks[i.toNat].cols.contains x || (decide (s.fks[i.toNat].table = s.name) && s.fks[i.toNat].refs.contains x)) := by rw [← hp]
    refine ⟨fun a1 => ?_, fun a1 => ⟨fun a2 => ⟨_, Contains_int (r3.mono l2), ?_⟩, fun a2 => ⟨by simp only [rng]; omega, ⟨by omega, by omega, ?_⟩, by dsimp only; omega⟩⟩⟩
    · rw [h2, hpi, a1]; simp
    · rintro H3 l3 _ rfl
      refine ⟨fun a3 => ?_, fun a3 => ⟨by simp only [rng]; omega, ⟨by omega, by omega, ?_⟩, by dsimp only; omega⟩⟩
      · rw [h2, hpi, a2, a3]; simp
      · rw [h2, hpi, a1, a3]; simp
    · rw [h2, hpi, a1, a2]; simp
  rw [drop_end (of_decide_eq_false hge) f2, List.any_nil] at h2
  rw [h2, Bool.false_or]
  refine ⟨fun i _ => 0 ≤ i ∧ i ≤ l ∧ s.csts.any q = (s.csts.drop i.toNat).any q, fun i => l - i.toNat, ⟨by omega, by omega, rfl⟩, ?_⟩
  rintro H2 l2 j ⟨j0, j1, j2⟩
  have L2 := hle_trans l1 l2
  refine ⟨fun hlt => ?_, fun hge => ?_⟩
  · have hlt := of_decide_eq_true hlt
    obtain ⟨hi, hA, _, hcc, ⟨A3, n3, c3, rfl, r1, r2⟩⟩ := hc.at L2 j0 hlt
    rw [drop_at j0 hi, List.any_cons] at j2
    refine ⟨hA, j0, hlt, _, _, _, _, hcc, _, Contains_int r2, ?_⟩
    rintro H3 l3 _ rfl
    have hqi : q s.csts[j.toNat] = s.csts[j.toNat].cols.contains x := by rw [← hq]
    refine ⟨fun a1 => ?_, fun a1 => ⟨by simp only [rng]; omega, ⟨by omega, by omega, ?_⟩, by dsimp only; omega⟩⟩
    · rw [j2, hqi, a1]; simp
    · rw [j2, hqi, a1, Bool.false_or]
  rw [drop_end (of_decide_eq_false hge) c2, List.any_nil] at j2
  rw [j2, Bool.false_or]
  exact ⟨_, Contains_int (hk.mono L2), fun H3 l3 b hb => hb⟩
def an67 : Ann where
  res := fun _ => none
  lend := fun | 21 => true | _ => false
  sch := fun _ => .done
  lt := fun | 2 => [.slot 15 false [.int .i64]] | _ => []
  tup := tups

theorem vc67 (P : Program) (H : Heap) (sName : ByteArray) (sVersionsA : Option Addr) (sVersionsN sVersionsC : Nat) (sKeyA : Option Addr) (sKeyN sKeyC : Nat) (sForeignKeysA : Option Addr) (sForeignKeysN sForeignKeysC : Nat) (sConstraintsA : Option Addr) (sConstraintsN sConstraintsC : Nat) (id : Int) (post : Bool → Heap → Prop) :
  vcFn P tab an67 Try.f67 [.agg #[.string sName, .slice sVersionsA sVersionsN sVersionsC, .slice sKeyA sKeyN sKeyC, .slice sForeignKeysA sForeignKeysN sForeignKeysC, .slice sConstraintsA sConstraintsN sConstraintsC], .int .i64 id] 0 H ⟨false, [(false, [.bool])]⟩ post =
  (  rng .i64 ((↑sVersionsN : Int) - (1 : Int)) ∧ (0 : Int) ≤ (0 : Int) ∧ (0 : Int) ≤ (↑sVersionsN : Int) - (1 : Int) ∧ (↑sVersionsN : Int) - (1 : Int) ≤ (↑sVersionsC : Int) ∧ ∀ (A0 : Option
  Addr), A0 = subA sVersionsA sVersionsC (Int.toNat (0 : Int)) 3 → ∃ (inv2 : Int → Heap → Prop), ∃ (m3 : Int → Nat), inv2 (0 : Int) H ∧ ∀ (H4 : Heap), Heap.le H H4 → ∀ (n6 : Int), inv2 n6 H4
  → (decide (n6 < (↑(Int.toNat ((↑sVersionsN : Int) - (1 : Int)) - Int.toNat (0 : Int)) : Int)) = true → someA A0 ∧ (0 : Int) ≤ n6 ∧ n6 < (↑(Int.toNat ((↑sVersionsN : Int) - (1 : Int)) -
  Int.toNat (0 : Int)) : Int) ∧ ∃ (n9 : Int), ∃ (n10 : Int), ∃ (A11 : Option Addr), ∃ (n12 : Nat), ∃ (c13 : Nat), Cells H4 A0 (Int.toNat n6 * 3) [.int .i64 n9, .int .i64 n10, .slice A11 n12
  c13] ∧ ∃ (post14 : Int → Heap → Prop), ConT P 65 [.agg ⟨[.int .i64 n9, .int .i64 n10, .slice A11 n12 c13]⟩, .int .i64 id] H4 ⟨false, [(false, [.int .i64])]⟩ post14 ∧ ∀ (H15 : Heap), Heap.le
  H4 H15 → ∀ (n17 : Int), post14 n17 H15 → (decide ((0 : Int) ≤ n17) = true → post false H15) ∧ (decide ((0 : Int) ≤ n17) = false → rng .i64 (n6 + (1 : Int)) ∧ inv2 (n6 + (1 : Int)) H15 ∧ m3
  (n6 + (1 : Int)) < m3 n6)) ∧ (decide (n6 < (↑(Int.toNat ((↑sVersionsN : Int) - (1 : Int)) - Int.toNat (0 : Int)) : Int)) = false → post true H4)) := by kernel_rfl
theorem schema_fresh {x : Int} (hs : IsTSch H nm A n c B m d E k e F l f s) (hn : s.vers ≠ []) :
    ConT Try.prog 67 [.agg ⟨[.string nm, .slice A n c, .slice B m d, .slice E k e, .slice F l f]⟩, .int .i64 x] H shB (fun r _ => r = fresh s x) := by
  refine con_of_vc (an := an67) (fn := Try.f67) mix tabOK Try.func67 (by kernel_rfl) (extra := 0) ?_
  rw [vc67]
  have b1 := hs.vers.bn; have b2 := hs.vers.len; have b3 := hs.vers.cap
  have hlen : 0 < s.vers.length := List.length_pos_iff.2 hn
  refine ⟨by simp only [rng]; omega, by omega, by omega, by omega, ?_⟩
  rintro A0 rfl
  have hsl := hs.vers.sub (j := (0 : Int).toNat) (k := ((n : Int) - 1).toNat) (by omega) (by omega)
  have hl : (s.vers.take ((n : Int) - 1).toNat).drop (0 : Int).toNat = s.vers.dropLast := by
    rw [List.dropLast_eq_take, show ((n : Int) - 1).toNat = s.vers.length - 1 by omega]; rfl
  rw [hl] at hsl
  have e1 : ((n : Int) - 1).toNat - (0 : Int).toNat = n - 1 := by omega
  rw [e1] at hsl ⊢
  have d1 := hsl.bn; have d2 := hsl.len
  unfold fresh
  generalize hp : (fun v : Ver => !hasID v.cols x) = p
  generalize s.vers.dropLast = vs at hsl d2
  refine ⟨fun i _ => 0 ≤ i ∧ i ≤ (n - 1 : Nat) ∧ vs.all p = (vs.drop i.toNat).all p, fun i => n - 1 - i.toNat, ⟨by omega, by omega, rfl⟩, ?_⟩
  rintro H1 l1 i ⟨h0, h1, h2⟩
  refine ⟨fun hlt => ?_, fun hge => ?_⟩
  · have hlt := of_decide_eq_true hlt
    obtain ⟨hi, hA, _, hcc, ⟨A3, n3, c3, rfl, r1, r2, r3⟩⟩ := hsl.at l1 h0 hlt
    rw [drop_at h0 hi, List.all_cons] at h2
    refine ⟨hA, h0, hlt, _, _, _, _, _, hcc, _, schema_find r3, ?_⟩
    rintro H2 l2 _ rfl
    have hpi : p vs[i.toNat] = !(vs[i.toNat].cols.any fun c => decide (c.id = x)) := by rw [← hp]; rfl
    rw [decide_eq_true_eq, decide_eq_false_iff_not, idxOf_ge _ _ _ (by omega)]
    refine ⟨fun a1 => ?_, fun a1 => ⟨by simp only [rng]; omega, ⟨by omega, by omega, ?_⟩, by dsimp only; omega⟩⟩
    · rw [h2, hpi, a1]; rfl
    · rw [h2, hpi]
      simp only [Bool.not_eq_true] at a1
      rw [a1]; rfl
  rw [drop_end (of_decide_eq_false hge) d2, List.all_nil] at h2
  exact h2.symm
def dropCol (s : TSch) (i x : Int) : TSch × Int :=
  if changeable s x = false then (sch0, 1)
  else match s.vers.getLast? with
    | none => (sch0, 1)
    | some v =>
      if idxOf (fun c => decide (c.id = i)) 0 v.cols < 0 then (sch0, 11)
      else if v.cols.length = 1 ∨ used s i = true ∨ (x = v.rc.lo ∧ fresh s i = true) then (sch0, 18)
      else ({ s with vers := changeVers s.vers (v.cols.eraseIdx (idxOf (fun c => decide (c.id = i)) 0 v.cols).toNat) x }, 0)
def an31 : Ann where
  res := fun | 56 => some ⟨false, [(false, [.row 63 51])]⟩ | 60 => some ⟨false, [(false, [.row 64 51])]⟩ | _ => none
  lend := fun | 12 => true | 25 => true | 38 => true | 49 => true | _ => false
  mt := fun | 68 => some false | _ => none
  sch := fun | 9 => (tk [0, 1, 2, 4, 5, 6, 8] (.alt 3 (.alt 7 (.alt 9 (.alt 10 (tk [11] .done) .fin) .fin) .fin) .fin)) | _ => .done
  lt := fun _ => []
  tup := tups

theorem vc31 (P : Program) (H : Heap) (sName : ByteArray) (sVersionsA : Option Addr) (sVersionsN sVersionsC : Nat) (sKeyA : Option Addr) (sKeyN sKeyC : Nat) (sForeignKeysA : Option Addr) (sForeignKeysN sForeignKeysC : Nat) (sConstraintsA : Option Addr) (sConstraintsN sConstraintsC : Nat) (id : Int) (at0 : Int) (post : ByteArray → Option Addr → Nat → Nat → Option Addr → Nat → Nat → Option Addr → Nat → Nat → Option Addr → Nat → Nat → Int → Heap → Prop) :
  vcFn P tab an31 Try.f31 [.agg #[.string sName, .slice sVersionsA sVersionsN sVersionsC, .slice sKeyA sKeyN sKeyC, .slice sForeignKeysA sForeignKeysN sForeignKeysC, .slice sConstraintsA sConstraintsN sConstraintsC], .int .i64 id, .int .i64 at0] 2 H ⟨true, [(true, [.str, .sl, .sl, .sl, .sl]), (false, [.int .i64])]⟩ post =
  (  ∃ (post0 : Bool → Heap → Prop), ConT P 57 [.agg ⟨[.string sName, .slice sVersionsA sVersionsN sVersionsC, .slice sKeyA sKeyN sKeyC, .slice sForeignKeysA sForeignKeysN sForeignKeysC, .slice
  sConstraintsA sConstraintsN sConstraintsC]⟩, .int .i64 at0] H ⟨false, [(false, [.bool])]⟩ post0 ∧ ∀ (H1 : Heap), Heap.le H H1 → ∀ (b3 : Bool), post0 b3 H1 → ((!b3) = true → post ⟨⟨[]⟩⟩ none
  0 0 none 0 0 none 0 0 none 0 0 (1 : Int) H1) ∧ ((!b3) = false → rng .i64 ((↑sVersionsN : Int) - (1 : Int)) ∧ someA sVersionsA ∧ (0 : Int) ≤ (↑sVersionsN : Int) - (1 : Int) ∧ (↑sVersionsN :
  Int) - (1 : Int) < (↑sVersionsN : Int) ∧ ∃ (n7 : Int), ∃ (n8 : Int), ∃ (A9 : Option Addr), ∃ (n10 : Nat), ∃ (c11 : Nat), Cells H1 sVersionsA (Int.toNat ((↑sVersionsN : Int) - (1 : Int)) *
  3) [.int .i64 n7, .int .i64 n8, .slice A9 n10 c11] ∧ ∃ (post12 : Int → Heap → Prop), ConT P 65 [.agg ⟨[.int .i64 n7, .int .i64 n8, .slice A9 n10 c11]⟩, .int .i64 id] H1 ⟨false, [(false,
  [.int .i64])]⟩ post12 ∧ ∀ (H13 : Heap), Heap.le H1 H13 → ∀ (n15 : Int), post12 n15 H13 → (decide (n15 < (0 : Int)) = true → post ⟨⟨[]⟩⟩ none 0 0 none 0 0 none 0 0 none 0 0 (11 : Int) H13) ∧
  (decide (n15 < (0 : Int)) = false → (decide ((↑n10 : Int) = (1 : Int)) = true → post ⟨⟨[]⟩⟩ none 0 0 none 0 0 none 0 0 none 0 0 (18 : Int) H13) ∧ (decide ((↑n10 : Int) = (1 : Int)) = false
  → ∃ (post21 : Bool → Heap → Prop), ConT P 66 [.agg ⟨[.string sName, .slice sVersionsA sVersionsN sVersionsC, .slice sKeyA sKeyN sKeyC, .slice sForeignKeysA sForeignKeysN sForeignKeysC,
  .slice sConstraintsA sConstraintsN sConstraintsC]⟩, .int .i64 id] H13 ⟨false, [(false, [.bool])]⟩ post21 ∧ ∀ (H22 : Heap), Heap.le H13 H22 → ∀ (b24 : Bool), post21 b24 H22 → (b24 = true →
  post ⟨⟨[]⟩⟩ none 0 0 none 0 0 none 0 0 none 0 0 (18 : Int) H22) ∧ (b24 = false → (decide (at0 = n7) = true → ∃ (post29 : Bool → Heap → Prop), ConT P 67 [.agg ⟨[.string sName, .slice
  sVersionsA sVersionsN sVersionsC, .slice sKeyA sKeyN sKeyC, .slice sForeignKeysA sForeignKeysN sForeignKeysC, .slice sConstraintsA sConstraintsN sConstraintsC]⟩, .int .i64 id] H22 ⟨false,
  [(false, [.bool])]⟩ post29 ∧ ∀ (H30 : Heap), Heap.le H22 H30 → ∀ (b32 : Bool), post29 b32 H30 → (b32 = true → post ⟨⟨[]⟩⟩ none 0 0 none 0 0 none 0 0 none 0 0 (18 : Int) H30) ∧ (b32 = false
  → rng .i64 (n15 + (1 : Int)) ∧ ∃ (post36 : Nat → List Value → Heap → Prop), ConT P 61 [.slice A9 n10 c11] H30 ⟨false, [(false, [.row 63 51])]⟩ post36 ∧ ∀ (H37 : Heap), Heap.le H30 H37 → ∀
  (n39 : Nat) (xs40 : List Value), post36 n39 xs40 H37 → ∃ (post42 : List Value → Nat → List Value → Heap → Prop), ConM P 68 [.slice none 0 0, .int .i64 n15, .int .i64 (n15 + (1 : Int))] 0 51
  n39 xs40 false H37 ⟨false, [(false, [.row 64 51])]⟩ post42 ∧ ∀ (H43 : Heap), Heap.le H37 H43 → ∀ (ys45 : List Value) (n46 : Nat) (xs47 : List Value), post42 ys45 n46 xs47 H43 → ∀ (A49 :
  Option Addr) (c50 : Nat) (H51 : Heap), Heap.le H43 H51 → Cells H51 A49 0 xs47 → n46 ≤ c50 → ∃ (post55 : ByteArray → Option Addr → Nat → Nat → Option Addr → Nat → Nat → Option Addr → Nat →
  Nat → Option Addr → Nat → Nat → Heap → Prop), ConT P 60 [.agg ⟨[.string sName, .slice sVersionsA sVersionsN sVersionsC, .slice sKeyA sKeyN sKeyC, .slice sForeignKeysA sForeignKeysN
  sForeignKeysC, .slice sConstraintsA sConstraintsN sConstraintsC]⟩, .slice A49 n46 c50, .int .i64 at0] H51 ⟨false, [(true, [.str, .sl, .sl, .sl, .sl])]⟩ post55 ∧ ∀ (H56 : Heap), Heap.le H51
  H56 → ∀ (s58 : ByteArray) (A59 : Option Addr) (n60 c61 : Nat) (A62 : Option Addr) (n63 c64 : Nat) (A65 : Option Addr) (n66 c67 : Nat) (A68 : Option Addr) (n69 c70 : Nat), post55 s58 A59 n60
  c61 A62 n63 c64 A65 n66 c67 A68 n69 c70 H56 → post s58 A59 n60 c61 A62 n63 c64 A65 n66 c67 A68 n69 c70 (0 : Int) H56)) ∧ (decide (at0 = n7) = false → rng .i64 (n15 + (1 : Int)) ∧ ∃ (post73
  : Nat → List Value → Heap → Prop), ConT P 61 [.slice A9 n10 c11] H22 ⟨false, [(false, [.row 63 51])]⟩ post73 ∧ ∀ (H74 : Heap), Heap.le H22 H74 → ∀ (n76 : Nat) (xs77 : List Value), post73
  n76 xs77 H74 → ∃ (post79 : List Value → Nat → List Value → Heap → Prop), ConM P 68 [.slice none 0 0, .int .i64 n15, .int .i64 (n15 + (1 : Int))] 0 51 n76 xs77 false H74 ⟨false, [(false,
  [.row 64 51])]⟩ post79 ∧ ∀ (H80 : Heap), Heap.le H74 H80 → ∀ (ys82 : List Value) (n83 : Nat) (xs84 : List Value), post79 ys82 n83 xs84 H80 → ∀ (A86 : Option Addr) (c87 : Nat) (H88 : Heap),
  Heap.le H80 H88 → Cells H88 A86 0 xs84 → n83 ≤ c87 → ∃ (post92 : ByteArray → Option Addr → Nat → Nat → Option Addr → Nat → Nat → Option Addr → Nat → Nat → Option Addr → Nat → Nat → Heap →
  Prop), ConT P 60 [.agg ⟨[.string sName, .slice sVersionsA sVersionsN sVersionsC, .slice sKeyA sKeyN sKeyC, .slice sForeignKeysA sForeignKeysN sForeignKeysC, .slice sConstraintsA
  sConstraintsN sConstraintsC]⟩, .slice A86 n83 c87, .int .i64 at0] H88 ⟨false, [(true, [.str, .sl, .sl, .sl, .sl])]⟩ post92 ∧ ∀ (H93 : Heap), Heap.le H88 H93 → ∀ (s95 : ByteArray) (A96 :
  Option Addr) (n97 c98 : Nat) (A99 : Option Addr) (n100 c101 : Nat) (A102 : Option Addr) (n103 c104 : Nat) (A105 : Option Addr) (n106 c107 : Nat), post92 s95 A96 n97 c98 A99 n100 c101 A102
  n103 c104 A105 n106 c107 H93 → post s95 A96 n97 c98 A99 n100 c101 A102 n103 c104 A105 n106 c107 (0 : Int) H93)))))) := by kernel_rfl
set_option maxHeartbeats 1000000 in
theorem schema_DropColumn {i x : Int} (hs : IsTSch H nm A n c B m d E k e F l f s) (hx : rng .i64 x) (hlim : s.vers.length ≤ 3000000000000) :
    ConT Try.prog 31 [.agg ⟨[.string nm, .slice A n c, .slice B m d, .slice E k e, .slice F l f]⟩, .int .i64 i, .int .i64 x] H shTSI
      (fun nm' A' n' c' B' m' d' E' k' e' F' l' f' r H' => IsTSch H' nm' A' n' c' B' m' d' E' k' e' F' l' f' (dropCol s i x).1 ∧ r = (dropCol s i x).2) := by
  refine con_of_vc (an := an31) (fn := Try.f31) mix tabOK Try.func31 (by kernel_rfl) (extra := 2) ?_
  rw [vc31]
  have b1 := hs.vers.bn; have b2 := hs.vers.len
  unfold dropCol
  refine ⟨_, schema_changeable hs, ?_⟩
  rintro H1 l1 _ rfl
  refine ⟨fun hf => ?_, fun ht => ?_⟩
  · simp only [Bool.not_eq_true'] at hf
    rw [if_pos hf]; exact ⟨is_sch0, rfl⟩
  simp only [Bool.not_eq_false'] at ht
  rw [if_neg (by simp [ht])]
  have hval : schemaValid s = true := by simp only [changeable, Bool.and_eq_true] at ht; exact ht.1.1
  have hlen : 0 < s.vers.length := List.length_pos_iff.2 (schemaValid_ne hval)
  obtain ⟨hi, hA, _, hcc, ⟨A1, n1, c1, rfl, r1, r2, r3⟩⟩ := hs.vers.at l1 (i := (n : Int) - 1) (by omega) (by omega)
  have hlast := getLast?_at s.vers hi (by omega)
  have hcols := schemaValid_cols hval (List.getElem_mem hi)
  rw [hlast]
  dsimp only
  generalize s.vers[((n : Int) - 1).toNat] = v at hcc r1 r2 r3 hcols hlast
  have d1 := r3.len; have d2 := r3.bn
  refine ⟨by simp only [rng]; omega, hA, by omega, by omega, _, _, _, _, _, hcc, _, schema_find r3, ?_⟩
  rintro H2 l2 _ rfl
  have hbd := idxOf_in (fun c : Col => decide (c.id = i)) v.cols 0 (by omega)
  generalize idxOf (fun c : Col => decide (c.id = i)) 0 v.cols = y at hbd
  refine ⟨fun a1 => ?_, fun a1 => ?_⟩
  · rw [if_pos (of_decide_eq_true a1)]; exact ⟨is_sch0, rfl⟩
  have a1 := of_decide_eq_false a1
  rw [if_neg a1]
  refine ⟨fun a2 => ?_, fun a2 => ⟨_, schema_used (hs.mono (hle_trans l1 l2)), ?_⟩⟩
  · have a2 := of_decide_eq_true a2
    rw [if_pos (.inl (by omega))]; exact ⟨is_sch0, rfl⟩
  have a2 := of_decide_eq_false a2
  rintro H3 l3 _ rfl
  have L3 := hle_trans l1 (hle_trans l2 l3)
  refine ⟨fun a3 => ?_, fun a3 => ?_⟩
  · rw [if_pos (.inr (.inl a3))]; exact ⟨is_sch0, rfl⟩
  have key : ∀ {H4 : Heap}, Heap.le H3 H4 → rng .i64 (y + 1) ∧ ∃ post : Nat → List Value → Heap → Prop, ConT Try.prog 61 [.slice A1 n1 c1] H4 ⟨false, [(false, [.row 63 51])]⟩ post ∧ ∀ (H37 : Heap), Heap.le H4 H37 → ∀ (n39 : Nat) (xs40 : List Value), post n39 xs40 H37 →
      ∃ (post42 : List Value → Nat → List Value → Heap → Prop), ConM Try.prog 68 [.slice none 0 0, .int .i64 y, .int .i64 (y + 1)] 0 51 n39 xs40 false H37 ⟨false, [(false, [.row 64 51])]⟩ post42 ∧
      ∀ (H43 : Heap), Heap.le H37 H43 → ∀ (ys45 : List Value) (n46 : Nat) (xs47 : List Value), post42 ys45 n46 xs47 H43 → ∀ (A46 : Option Addr) (c47 : Nat) (H48 : Heap), Heap.le H43 H48 → Cells H48 A46 0 xs47 → n46 ≤ c47 →
        ∃ (post52 : ByteArray → Option Addr → Nat → Nat → Option Addr → Nat → Nat → Option Addr → Nat → Nat → Option Addr → Nat → Nat → Heap → Prop), ConT Try.prog 60 [.agg ⟨[.string nm, .slice A n c, .slice B m d, .slice E k e, .slice F l f]⟩, .slice A46 n46 c47, .int .i64 x] H48 shTS post52 ∧
          ∀ (H53 : Heap), Heap.le H48 H53 → ∀ (s55 : ByteArray) (A56 : Option Addr) (n57 c58 : Nat) (A59 : Option Addr) (n60 c61 : Nat) (A62 : Option Addr) (n63 c64 : Nat) (A65 : Option Addr) (n66 c67 : Nat), post52 s55 A56 n57 c58 A59 n60 c61 A62 n63 c64 A65 n66 c67 H53 →
            IsTSch H53 s55 A56 n57 c58 A59 n60 c61 A62 n63 c64 A65 n66 c67 { s with vers := changeVers s.vers (v.cols.eraseIdx y.toNat) x } ∧ (0 : Int) = 0 := by
    intro H4 l4
    have L4 := hle_trans (hle_trans l2 l3) l4
    refine ⟨by simp only [rng]; omega, _, Clone_Col_row (r3.mono L4), ?_⟩
    rintro H5 l5 n5 xs ⟨hn5, hr⟩
    obtain rfl : n1 = n5 := hn5.symm
    have hd := Delete_Col (H := H5) (n := n1) (i := y.toNat) (j := y.toNat + 1) (r := 64) (xs := xs) (by omega) (by omega)
    rw [show ((y.toNat : Nat) : Int) = y by omega, show ((y.toNat + 1 : Nat) : Int) = y + 1 by omega] at hd
    refine ⟨_, hd, ?_⟩
    rintro H6 l6 ys _ zs ⟨rfl, rfl⟩
    intro A7 c7 H7 l7 g7 hc7
    have L7 := hle_trans L3 (hle_trans l4 (hle_trans l5 (hle_trans l6 l7)))
    have hrow : Row H5 (xs.take (y.toNat * 3) ++ xs.drop ((y.toNat + 1) * 3)) (v.cols.eraseIdx y.toNat) := by
      rw [List.eraseIdx_eq_take_drop_succ]
      exact (hr.take y.toNat).append (hr.drop (y.toNat + 1))
    have hel : (v.cols.eraseIdx y.toNat).length = n1 - (y.toNat + 1 - y.toNat) := by
      rw [List.length_eraseIdx, if_pos (by omega)]; omega
    have hsl : Sl H7 A7 (n1 - (y.toNat + 1 - y.toNat)) c7 (v.cols.eraseIdx y.toNat) := hrow.sl (hle_trans l6 l7) g7 hel hc7 (by show _ * 32 ≤ _; omega) (by omega)
    refine ⟨_, schema_change (hs.mono L7) hsl hx (schemaValid_ne hval) hlim, ?_⟩
    intro H8 l8 _ _ _ _ _ _ _ _ _ _ _ _ _ h
    exact ⟨h, rfl⟩
  refine ⟨fun a4 => ⟨_, schema_fresh (hs.mono L3) (schemaValid_ne hval), ?_⟩, fun a4 => ?_⟩
  · have a4 := of_decide_eq_true a4
    rintro H4 l4 _ rfl
    refine ⟨fun a5 => ?_, fun a5 => ?_⟩
    · rw [if_pos (.inr (.inr ⟨a4, a5⟩))]; exact ⟨is_sch0, rfl⟩
    · rw [if_neg (by
        rintro (h | h | ⟨h, h'⟩)
        · omega
        · rw [a3] at h; cases h
        · rw [a5] at h'; cases h')]
      exact key l4
  · rw [if_neg (by
      rintro (h | h | ⟨h, h'⟩)
      · omega
      · rw [a3] at h; cases h
      · exact of_decide_eq_false a4 h)]
    exact key (hle_refl _)
end
end Go.Vc
