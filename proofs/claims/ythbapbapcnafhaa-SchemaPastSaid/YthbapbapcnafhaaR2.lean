/- The reference's validity of a schema, as a whole; what counts as a small schema. -/
import Derived.Test.YthbapbapcnafhaaR1
set_option linter.unusedSectionVars false
set_option linter.unusedSimpArgs false
set_option linter.unusedVariables false
namespace Go.Vc
open Go Go.Proofs
def rverGo (all : List Col) : Int → Option Int → List Col → Bool
  | _, _, [] => true
  | i, p, c :: r => decide (1 ≤ c.id) && decide (c.id ≤ 12) && (match p with | none => true | some x => decide (x < c.id)) && columnName c.name && decide (1 ≤ c.kind) && decide (c.kind ≤ 3) &&
      decide (idxOf (fun o => decide (o.name = c.name)) 0 all = i) && rverGo all (i + 1) (some c.id) r
theorem rverGo_cons (all : List Col) (i : Int) (p : Option Int) (c : Col) (r : List Col) : rverGo all i p (c :: r) = (decide (1 ≤ c.id) && decide (c.id ≤ 12) && (match p with | none => true | some x => decide (x < c.id)) && columnName c.name && decide (1 ≤ c.kind) && decide (c.kind ≤ 3) &&
      decide (idxOf (fun o => decide (o.name = c.name)) 0 all = i) && rverGo all (i + 1) (some c.id) r) := by cases p <;> rfl
def rver (v : Ver) : Bool := perValid v.rc && decide (1 ≤ v.cols.length) && decide (v.cols.length ≤ 12) && rverGo v.cols 0 none v.cols
def an49 : Ann where
  res := fun _ => none
  lend := fun | 7 => true | 60 => true | 77 => true | _ => false
  sch := fun | 7 => (tk [0, 1, 2, 3, 4, 5, 6, 7, 8, 9, 10, 11, 12, 13, 14, 15, 16, 17, 18, 19, 20, 21, 22, 23, 24, 25, 26] (.alt 27 (tk [28, 29, 30, 31, 32, 33, 34, 35, 36, 37, 38, 39, 40, 41, 42, 43, 45] (.alt 44 (tk [46, 47] .done) .fin)) .fin)) | _ => .done
  lt := fun | 4 => [.slot 3 false [.int .i64]] | _ => []
  tup := tups

theorem vc49 (P : Program) (H : Heap) (vRecordedFrom : Int) (vRecordedTo : Int) (vColumnsA : Option Addr) (vColumnsN vColumnsC : Nat) (post : Bool → Heap → Prop) :
  vcFn P tab an49 Try.f49 [.agg #[.int .i64 vRecordedFrom, .int .i64 vRecordedTo, .slice vColumnsA vColumnsN vColumnsC]] 0 H ⟨false, [(false, [.bool])]⟩ post =
  (  ∃ (post0 : Bool → Heap → Prop), ConT P 78 [.agg ⟨[.int .i64 vRecordedFrom, .int .i64 vRecordedTo]⟩] H ⟨false, [(false, [.bool])]⟩ post0 ∧ ∀ (H1 : Heap), Heap.le H H1 → ∀ (b3 : Bool), post0
  b3 H1 → ((!b3) = true → post false H1) ∧ ((!b3) = false → (decide ((↑vColumnsN : Int) = (0 : Int)) = true → post false H1) ∧ (decide ((↑vColumnsN : Int) = (0 : Int)) = false → (decide ((12
  : Int) < (↑vColumnsN : Int)) = true → post false H1) ∧ (decide ((12 : Int) < (↑vColumnsN : Int)) = false → ∃ (inv11 : Int → Heap → Prop), ∃ (m12 : Int → Nat), inv11 (0 : Int) H1 ∧ ∀ (H13 :
  Heap), Heap.le H1 H13 → ∀ (n15 : Int), inv11 n15 H13 → (decide (n15 < (↑vColumnsN : Int)) = true → someA vColumnsA ∧ (0 : Int) ≤ n15 ∧ n15 < (↑vColumnsN : Int) ∧ ∃ (n18 : Int), ∃ (s19 :
  ByteArray), ∃ (n20 : Int), Cells H13 vColumnsA (Int.toNat n15 * 3) [.int .i64 n18, .string s19, .int .i64 n20] ∧ (decide (n18 < (1 : Int)) = true → post false H13) ∧ (decide (n18 < (1 :
  Int)) = false → (decide ((12 : Int) < n18) = true → post false H13) ∧ (decide ((12 : Int) < n18) = false → (decide ((0 : Int) < n15) = true → rng .i64 (n15 - (1 : Int)) ∧ someA vColumnsA ∧
  (0 : Int) ≤ n15 - (1 : Int) ∧ n15 - (1 : Int) < (↑vColumnsN : Int) ∧ ∃ (n26 : Int), Cells H13 vColumnsA (Int.toNat (n15 - (1 : Int)) * 3 + 0) [.int .i64 n26] ∧ (decide (n18 ≤ n26) = true →
  post false H13) ∧ (decide (n18 ≤ n26) = false → ∃ (post29 : Bool → Heap → Prop), ConT P 63 [.string s19] H13 ⟨false, [(false, [.bool])]⟩ post29 ∧ ∀ (H30 : Heap), Heap.le H13 H30 → ∀ (b32 :
  Bool), post29 b32 H30 → ((!b32) = true → post false H30) ∧ ((!b32) = false → (decide (n20 < (1 : Int)) = true → post false H30) ∧ (decide (n20 < (1 : Int)) = false → (decide ((3 : Int) <
  n20) = true → post false H30) ∧ (decide ((3 : Int) < n20) = false → ∃ (post40 : Int → Heap → Prop), ConT P 16 [.agg ⟨[.int .i64 vRecordedFrom, .int .i64 vRecordedTo, .slice vColumnsA
  vColumnsN vColumnsC]⟩, .string s19] H30 ⟨false, [(false, [.int .i64])]⟩ post40 ∧ ∀ (H41 : Heap), Heap.le H30 H41 → ∀ (n43 : Int), post40 n43 H41 → ((!decide (n43 = n15)) = true → post false
  H41) ∧ ((!decide (n43 = n15)) = false → rng .i64 (n15 + (1 : Int)) ∧ inv11 (n15 + (1 : Int)) H41 ∧ m12 (n15 + (1 : Int)) < m12 n15)))))) ∧ (decide ((0 : Int) < n15) = false → ∃ (post48 :
  Bool → Heap → Prop), ConT P 63 [.string s19] H13 ⟨false, [(false, [.bool])]⟩ post48 ∧ ∀ (H49 : Heap), Heap.le H13 H49 → ∀ (b51 : Bool), post48 b51 H49 → ((!b51) = true → post false H49) ∧
  ((!b51) = false → (decide (n20 < (1 : Int)) = true → post false H49) ∧ (decide (n20 < (1 : Int)) = false → (decide ((3 : Int) < n20) = true → post false H49) ∧ (decide ((3 : Int) < n20) =
  false → ∃ (post59 : Int → Heap → Prop), ConT P 16 [.agg ⟨[.int .i64 vRecordedFrom, .int .i64 vRecordedTo, .slice vColumnsA vColumnsN vColumnsC]⟩, .string s19] H49 ⟨false, [(false, [.int
  .i64])]⟩ post59 ∧ ∀ (H60 : Heap), Heap.le H49 H60 → ∀ (n62 : Int), post59 n62 H60 → ((!decide (n62 = n15)) = true → post false H60) ∧ ((!decide (n62 = n15)) = false → rng .i64 (n15 + (1 :
  Int)) ∧ inv11 (n15 + (1 : Int)) H60 ∧ m12 (n15 + (1 : Int)) < m12 n15)))))))) ∧ (decide (n15 < (↑vColumnsN : Int)) = false → post true H13))))) := by kernel_rfl
set_option maxHeartbeats 1000000 in
theorem ref21_validVersion {H : Heap} {a b : Int} {A : Option Addr} {n c : Nat} {l : List Col} (hs : Sl H A n c l) :
    ConT Try.prog 49 [.agg ⟨[.int .i64 a, .int .i64 b, .slice A n c]⟩] H shB (fun r _ => r = rver ⟨⟨a, b⟩, l⟩) := by
  refine con_of_vc (an := an49) (fn := Try.f49) mix tabOK Try.func49 (by kernel_rfl) (extra := 0) ?_
  rw [vc49]
  have b1 := hs.bn; have b2 := hs.len
  unfold rver
  refine ⟨_, ref1_Valid, ?_⟩
  rintro H1 L1 _ rfl
  refine ⟨fun h => by simp only [Bool.not_eq_true'] at h; simp [h], fun hv => ⟨fun h => ?_, fun h1 => ⟨fun h => ?_, fun h2 => ?_⟩⟩⟩
  · have := of_decide_eq_true h
    rw [decide_eq_false (p := 1 ≤ l.length) (by omega)]; simp
  · have := of_decide_eq_true h
    rw [decide_eq_false (p := l.length ≤ 12) (by omega)]; simp
  simp only [Bool.not_eq_false'] at hv
  have h1 := of_decide_eq_false h1
  have h2 := of_decide_eq_false h2
  rw [hv, decide_eq_true (p := 1 ≤ l.length) (by omega), decide_eq_true (p := l.length ≤ 12) (by omega)]
  simp only [Bool.true_and]
  refine ⟨fun i _ => 0 ≤ i ∧ i ≤ n ∧ rverGo l 0 none l = rverGo l i (if i ≤ 0 then none else l[(i - 1).toNat]?.map (·.id)) (l.drop i.toNat), fun i => n - i.toNat, ⟨by omega, by omega, rfl⟩, ?_⟩
  rintro H2 l2 i ⟨i0, i1, g2⟩
  have L2 := hle_trans L1 l2
  refine ⟨fun hlt => ?_, fun hge => ?_⟩
  · have hlt := of_decide_eq_true hlt
    obtain ⟨hi, hA, _, hc, rfl, q1, q2, q3⟩ := hs.at L2 i0 hlt
    rw [drop_at i0 hi, rverGo_cons] at g2
    have e1 : (if i + 1 ≤ 0 then none else l[(i + 1 - 1).toNat]?.map (·.id)) = some l[i.toNat].id := by
      rw [if_neg (by omega), show (i + 1 - 1).toNat = i.toNat by omega, List.getElem?_eq_getElem hi]; rfl
    have g2 := g2.symm
    refine ⟨hA, i0, hlt, _, _, _, hc, fun h => ?_, fun t1 => ⟨fun h => ?_, fun t2 => ⟨fun hp => ?_, fun hp => ?_⟩⟩⟩
    · rw [← g2, decide_eq_false (p := 1 ≤ l[i.toNat].id) (by have := of_decide_eq_true h; omega)]; simp
    · rw [← g2, decide_eq_false (p := l[i.toNat].id ≤ 12) (by have := of_decide_eq_true h; omega)]; simp
    · have hp := of_decide_eq_true hp
      obtain ⟨ji, jA, _, jc, rfl, -⟩ := hs.at L2 (i := i - 1) (by omega) (by omega)
      rw [if_neg (by omega), List.getElem?_eq_getElem ji] at g2
      refine ⟨by simp only [rng]; omega, jA, by omega, by omega, _, jc.at1 (k := 0) rfl, fun h => ?_, fun t3 => ⟨_, ref21_columnName, ?_⟩⟩
      · rw [← g2]; simp only [Option.map_some]
        rw [decide_eq_false (p := l[(i - 1).toNat].id < l[i.toNat].id) (by have := of_decide_eq_true h; omega)]; simp
      rintro H3 l3 _ rfl
      simp only [Option.map_some] at g2
      rw [decide_eq_true (p := 1 ≤ l[i.toNat].id) (by have := of_decide_eq_false t1; omega), decide_eq_true (p := l[i.toNat].id ≤ 12) (by have := of_decide_eq_false t2; omega), decide_eq_true (p := l[(i - 1).toNat].id < l[i.toNat].id) (by have := of_decide_eq_false t3; omega)] at g2
      refine ⟨fun h => ?_, fun t4 => ⟨fun h => ?_, fun t5 => ⟨fun h => ?_, fun t6 => ⟨_, ref21_Index (hs.mono (hle_trans L2 l3)), ?_⟩⟩⟩⟩
      · rw [← g2]; simp only [Bool.not_eq_true'] at h; simp [h]
      · rw [← g2, decide_eq_false (p := 1 ≤ l[i.toNat].kind) (by have := of_decide_eq_true h; omega)]; simp
      · rw [← g2, decide_eq_false (p := l[i.toNat].kind ≤ 3) (by have := of_decide_eq_true h; omega)]; simp
      rintro H4 l4 _ rfl
      refine ⟨fun h => ?_, fun t7 => ⟨by simp only [rng]; omega, ⟨by omega, by omega, ?_⟩, by dsimp only; omega⟩⟩
      · rw [← g2]; simp only [Bool.not_eq_true'] at h; rw [h]; simp
      · simp only [Bool.not_eq_false'] at t4 t7
        rw [← g2, t4, t7, decide_eq_true (p := 1 ≤ l[i.toNat].kind) (by have := of_decide_eq_false t5; omega), decide_eq_true (p := l[i.toNat].kind ≤ 3) (by have := of_decide_eq_false t6; omega), e1]
        rfl
    · have hp := of_decide_eq_false hp
      rw [if_pos (by omega)] at g2
      refine ⟨_, ref21_columnName, ?_⟩
      rintro H3 l3 _ rfl
      rw [decide_eq_true (p := 1 ≤ l[i.toNat].id) (by have := of_decide_eq_false t1; omega), decide_eq_true (p := l[i.toNat].id ≤ 12) (by have := of_decide_eq_false t2; omega)] at g2
      refine ⟨fun h => ?_, fun t4 => ⟨fun h => ?_, fun t5 => ⟨fun h => ?_, fun t6 => ⟨_, ref21_Index (hs.mono (hle_trans L2 l3)), ?_⟩⟩⟩⟩
      · rw [← g2]; simp only [Bool.not_eq_true'] at h; simp [h]
      · rw [← g2, decide_eq_false (p := 1 ≤ l[i.toNat].kind) (by have := of_decide_eq_true h; omega)]; simp
      · rw [← g2, decide_eq_false (p := l[i.toNat].kind ≤ 3) (by have := of_decide_eq_true h; omega)]; simp
      rintro H4 l4 _ rfl
      refine ⟨fun h => ?_, fun t7 => ⟨by simp only [rng]; omega, ⟨by omega, by omega, ?_⟩, by dsimp only; omega⟩⟩
      · rw [← g2]; simp only [Bool.not_eq_true'] at h; rw [h]; simp
      · simp only [Bool.not_eq_false'] at t4 t7
        rw [← g2, t4, t7, decide_eq_true (p := 1 ≤ l[i.toNat].kind) (by have := of_decide_eq_false t5; omega), decide_eq_true (p := l[i.toNat].kind ≤ 3) (by have := of_decide_eq_false t6; omega), e1]
        rfl
  · rw [drop_end (of_decide_eq_false hge) b2] at g2
    rw [g2]; rfl
theorem idxOf_find {T : Type} (p : T → Bool) : ∀ (l : List T) (i : Int), 0 ≤ i → (0 ≤ idxOf p i l → ∃ h : (idxOf p i l - i).toNat < l.length, i ≤ idxOf p i l ∧ l.find? p = some (l[(idxOf p i l - i).toNat])) ∧ (idxOf p i l < 0 → l.find? p = none)
  | [], i, h => ⟨fun h => by simp [idxOf] at h, fun _ => rfl⟩
  | x :: r, i, h => by
    have ih := idxOf_find p r (i + 1) (by omega)
    unfold idxOf
    by_cases hx : p x = true
    · simp only [hx, if_true]
      refine ⟨fun _ => ⟨by simp, by omega, by simp [List.find?_cons, hx]⟩, fun hh => by omega⟩
    · simp only [hx, if_false, Bool.false_eq_true]
      refine ⟨fun hh => ?_, fun hh => ?_⟩
      · obtain ⟨h1, h2, h3⟩ := ih.1 hh
        refine ⟨by simp; omega, by omega, ?_⟩
        rw [List.find?_cons_of_neg (by simpa using hx), h3]
        have : (idxOf p (i + 1) r - i).toNat = (idxOf p (i + 1) r - (i + 1)).toNat + 1 := by omega
        simp only [this, List.getElem_cons_succ]
      · rw [List.find?_cons_of_neg (by simpa using hx)]; exact ih.2 hh
def followsCol (a : List Col) (g : Int) (c : Col) : Bool := match a.find? (fun d => decide (d.id = c.id)) with
  | none => decide (g < c.id)
  | some d => decide (d = c)
def follows (a b : Ver) (g : Int) : Bool := decide (a.rc.hi = b.rc.lo) && b.cols.all (followsCol a.cols g)
def an50 : Ann where
  res := fun _ => none
  lend := fun | 30 => true | _ => false
  sch := fun | 6 => (tk [0, 1, 2, 3, 4, 5, 6] (.alt 7 (tk [8] .done) .fin)) | 7 => (tk [0, 1, 2, 3, 4, 5, 6, 7, 8, 9, 10, 11, 12, 13, 14, 15, 16, 17, 18, 19, 20, 21, 22, 23, 24, 25, 26, 27, 28] .done) | _ => .done
  lt := fun | 4 => [.slot 7 false [.int .i64]] | _ => []
  tup := tups

theorem vc50 (P : Program) (H : Heap) (aRecordedFrom : Int) (aRecordedTo : Int) (aColumnsA : Option Addr) (aColumnsN aColumnsC : Nat) (bRecordedFrom : Int) (bRecordedTo : Int) (bColumnsA : Option Addr) (bColumnsN bColumnsC : Nat) (greatest : Int) (post : Bool → Heap → Prop) :
  vcFn P tab an50 Try.f50 [.agg #[.int .i64 aRecordedFrom, .int .i64 aRecordedTo, .slice aColumnsA aColumnsN aColumnsC], .agg #[.int .i64 bRecordedFrom, .int .i64 bRecordedTo, .slice bColumnsA bColumnsN bColumnsC], .int .i64 greatest] 0 H ⟨false, [(false, [.bool])]⟩ post =
  (  ((!decide (aRecordedTo = bRecordedFrom)) = true → post false H) ∧ ((!decide (aRecordedTo = bRecordedFrom)) = false → ∃ (inv2 : Int → Heap → Prop), ∃ (m3 : Int → Nat), inv2 (0 : Int) H ∧ ∀
  (H4 : Heap), Heap.le H H4 → ∀ (n6 : Int), inv2 n6 H4 → (decide (n6 < (↑bColumnsN : Int)) = true → someA bColumnsA ∧ (0 : Int) ≤ n6 ∧ n6 < (↑bColumnsN : Int) ∧ ∃ (n9 : Int), Cells H4
  bColumnsA (Int.toNat n6 * 3 + 0) [.int .i64 n9] ∧ ∃ (post10 : Int → Heap → Prop), ConT P 69 [.agg ⟨[.int .i64 aRecordedFrom, .int .i64 aRecordedTo, .slice aColumnsA aColumnsN aColumnsC]⟩,
  .int .i64 n9] H4 ⟨false, [(false, [.int .i64])]⟩ post10 ∧ ∀ (H11 : Heap), Heap.le H4 H11 → ∀ (n13 : Int), post10 n13 H11 → (decide (n13 < (0 : Int)) = true → someA bColumnsA ∧ (0 : Int) ≤
  n6 ∧ n6 < (↑bColumnsN : Int) ∧ ∃ (n16 : Int), Cells H11 bColumnsA (Int.toNat n6 * 3 + 0) [.int .i64 n16] ∧ (decide (n16 ≤ greatest) = true → post false H11) ∧ (decide (n16 ≤ greatest) =
  false → (decide ((0 : Int) ≤ n13) = true → someA aColumnsA ∧ (0 : Int) ≤ n13 ∧ n13 < (↑aColumnsN : Int) ∧ ∃ (n20 : Int), ∃ (s21 : ByteArray), ∃ (n22 : Int), Cells H11 aColumnsA (Int.toNat
  n13 * 3) [.int .i64 n20, .string s21, .int .i64 n22] ∧ someA bColumnsA ∧ (0 : Int) ≤ n6 ∧ n6 < (↑bColumnsN : Int) ∧ ∃ (n23 : Int), ∃ (s24 : ByteArray), ∃ (n25 : Int), Cells H11 bColumnsA
  (Int.toNat n6 * 3) [.int .i64 n23, .string s24, .int .i64 n25] ∧ ((!(decide (n20 = n23) && (decide (s21 = s24) && decide (n22 = n25)))) = true → post false H11) ∧ ((!(decide (n20 = n23) &&
  (decide (s21 = s24) && decide (n22 = n25)))) = false → rng .i64 (n6 + (1 : Int)) ∧ inv2 (n6 + (1 : Int)) H11 ∧ m3 (n6 + (1 : Int)) < m3 n6)) ∧ (decide ((0 : Int) ≤ n13) = false → rng .i64
  (n6 + (1 : Int)) ∧ inv2 (n6 + (1 : Int)) H11 ∧ m3 (n6 + (1 : Int)) < m3 n6))) ∧ (decide (n13 < (0 : Int)) = false → (decide ((0 : Int) ≤ n13) = true → someA aColumnsA ∧ (0 : Int) ≤ n13 ∧
  n13 < (↑aColumnsN : Int) ∧ ∃ (n31 : Int), ∃ (s32 : ByteArray), ∃ (n33 : Int), Cells H11 aColumnsA (Int.toNat n13 * 3) [.int .i64 n31, .string s32, .int .i64 n33] ∧ someA bColumnsA ∧ (0 :
  Int) ≤ n6 ∧ n6 < (↑bColumnsN : Int) ∧ ∃ (n34 : Int), ∃ (s35 : ByteArray), ∃ (n36 : Int), Cells H11 bColumnsA (Int.toNat n6 * 3) [.int .i64 n34, .string s35, .int .i64 n36] ∧ ((!(decide (n31
  = n34) && (decide (s32 = s35) && decide (n33 = n36)))) = true → post false H11) ∧ ((!(decide (n31 = n34) && (decide (s32 = s35) && decide (n33 = n36)))) = false → rng .i64 (n6 + (1 : Int))
  ∧ inv2 (n6 + (1 : Int)) H11 ∧ m3 (n6 + (1 : Int)) < m3 n6)) ∧ (decide ((0 : Int) ≤ n13) = false → rng .i64 (n6 + (1 : Int)) ∧ inv2 (n6 + (1 : Int)) H11 ∧ m3 (n6 + (1 : Int)) < m3 n6))) ∧
  (decide (n6 < (↑bColumnsN : Int)) = false → post true H4))) := by kernel_rfl
set_option maxHeartbeats 1000000 in
theorem ref21_follows {H : Heap} {a b a' b' g : Int} {A B : Option Addr} {n c m d : Nat} {l l' : List Col} (hs : Sl H A n c l) (ht : Sl H B m d l') :
    ConT Try.prog 50 [.agg ⟨[.int .i64 a, .int .i64 b, .slice A n c]⟩, .agg ⟨[.int .i64 a', .int .i64 b', .slice B m d]⟩, .int .i64 g] H shB (fun r _ => r = follows ⟨⟨a, b⟩, l⟩ ⟨⟨a', b'⟩, l'⟩ g) := by
  refine con_of_vc (an := an50) (fn := Try.f50) mix tabOK Try.func50 (by kernel_rfl) (extra := 0) ?_
  rw [vc50]
  have b1 := hs.bn; have b2 := hs.len; have c1 := ht.bn; have c2 := ht.len
  unfold follows
  refine ⟨fun h => ?_, fun h => ?_⟩
  · simp only [Bool.not_eq_true'] at h
    simp only [h]; rfl
  simp only [Bool.not_eq_false'] at h
  simp only [h, Bool.true_and]
  refine ⟨fun i _ => 0 ≤ i ∧ i ≤ m ∧ l'.all (followsCol l g) = (l'.drop i.toNat).all (followsCol l g), fun i => m - i.toNat, ⟨by omega, by omega, rfl⟩, ?_⟩
  rintro H2 L2 i ⟨i0, i1, g2⟩
  refine ⟨fun hlt => ?_, fun hge => ?_⟩
  · have hlt := of_decide_eq_true hlt
    obtain ⟨hi, hA, _, hc, rfl, q1, q2, q3⟩ := ht.at L2 i0 hlt
    rw [drop_at i0 hi, List.all_cons] at g2
    have hidx := idxOf_find (fun c => decide (c.id = l'[i.toNat].id)) l 0 (by omega)
    generalize hc' : l'[i.toNat] = y at *
    refine ⟨hA, i0, hlt, _, hc.at1 (k := 0) rfl, _, ref21_position (hs.mono L2), ?_⟩
    rintro H3 l3 r rfl
    generalize hk : idxOf (fun c => decide (c.id = y.id)) 0 l = k at hidx
    have L3 := hle_trans L2 l3
    have step : followsCol l g y = true → rng .i64 (i + 1) ∧ (0 ≤ i + 1 ∧ i + 1 ≤ m ∧ l'.all (followsCol l g) = (l'.drop (i + 1).toNat).all (followsCol l g)) ∧ m - (i + 1).toNat < m - i.toNat := fun hf =>
      ⟨by simp only [rng]; omega, ⟨by omega, by omega, by rw [g2, hf]; rfl⟩, by omega⟩
    refine ⟨fun h => ?_, fun h => ⟨fun h' => ?_, fun h' => ?_⟩⟩
    · have h := of_decide_eq_true h
      have hn := hidx.2 h
      have e : followsCol l g y = decide (g < y.id) := by unfold followsCol; rw [hn]
      refine ⟨hA, i0, hlt, _, (hc.mono l3).at1 (k := 0) rfl, fun hh => ?_, fun hh => ⟨fun h' => ?_, fun _ => ?_⟩⟩
      · rw [g2, e, decide_eq_false (by have := of_decide_eq_true hh; omega)]; rfl
      · have := of_decide_eq_true h'; omega
      · exact step (by rw [e, decide_eq_true (by have := of_decide_eq_false hh; omega)])
    · have h' := of_decide_eq_true h'
      obtain ⟨hlt', hle', hfind⟩ := hidx.1 h'
      simp only [Int.sub_zero] at hlt' hfind
      obtain ⟨ki, kA, _, kc, rfl, -⟩ := hs.at L3 (i := k) h' (by omega)
      have e : followsCol l g y = decide (l[k.toNat] = y) := by unfold followsCol; rw [hfind]
      refine ⟨kA, h', by omega, _, _, _, kc, hA, i0, hlt, _, _, _, hc.mono l3, fun hh => ?_, fun hh => step ?_⟩
      · rw [g2, e, decide_eq_false (fun e' => by rw [e'] at hh; simp at hh)]; rfl
      · rw [e]
        refine decide_eq_true ?_
        generalize l[k.toNat] = u at hh
        cases u; cases y; simp at hh; simp [hh]
    · have := of_decide_eq_false h; have := of_decide_eq_false h'; omega
  · rw [drop_end (of_decide_eq_false hge) c2] at g2
    rw [g2]; rfl
end Go.Vc
