/- The reference's validity of a schema. -/
import Derived.Test.YthbapbapcnafhaaC7
set_option linter.unusedSectionVars false
set_option linter.unusedSimpArgs false
set_option linter.unusedVariables false
namespace Go.Vc
open Go Go.Proofs
def an78 : Ann where
  res := fun _ => none
  lend := fun _ => false
  sch := fun _ => .done
  lt := fun _ => []
  tup := tups

theorem vc78 (P : Program) (H : Heap) (pFrom : Int) (pTo : Int) (post : Bool → Heap → Prop) :
  vcFn P tab an78 Try.f78 [.agg #[.int .i64 pFrom, .int .i64 pTo]] 0 H ⟨false, [(false, [.bool])]⟩ post =
  (  (decide ((0 : Int) ≤ pFrom) = true → (decide (pFrom < pTo) = true → post (decide (pTo ≤ (1099511627776 : Int))) H) ∧ (decide (pFrom < pTo) = false → post false H)) ∧ (decide ((0 : Int) ≤
  pFrom) = false → post false H)) := by kernel_rfl
theorem ref1_Valid {a b : Int} {H : Heap} : ConT Try.prog 78 [.agg ⟨[.int .i64 a, .int .i64 b]⟩] H shB (fun r _ => r = perValid ⟨a, b⟩) := by
  refine con_of_vc (an := an78) (fn := Try.f78) mix tabOK Try.func78 (by kernel_rfl) (extra := 0) ?_
  rw [vc78]
  grind [perValid]
def an63 : Ann where
  res := fun _ => none
  lend := fun | 4 => true | _ => false
  sch := fun _ => .done
  lt := fun _ => []
  tup := tups

theorem vc63 (P : Program) (H : Heap) (s : ByteArray) (post : Bool → Heap → Prop) :
  vcFn P tab an63 Try.f63 [.string s] 0 H ⟨false, [(false, [.bool])]⟩ post =
  (  ∃ (post0 : Bool → Heap → Prop), ConT P 11 [.string s] H ⟨false, [(false, [.bool])]⟩ post0 ∧ ∀ (H1 : Heap), Heap.le H H1 → ∀ (b3 : Bool), post0 b3 H1 → (b3 = true → ((!decide (s = { data :=
  ⟨[(118 : UInt8), (102 : UInt8), (114 : UInt8), (111 : UInt8), (109 : UInt8)]⟩ })) = true → ((!decide (s = { data := ⟨[(118 : UInt8), (116 : UInt8), (111 : UInt8)]⟩ })) = true → ((!decide (s
  = { data := ⟨[(114 : UInt8), (102 : UInt8), (114 : UInt8), (111 : UInt8), (109 : UInt8)]⟩ })) = true → post (!decide (s = { data := ⟨[(114 : UInt8), (116 : UInt8), (111 : UInt8)]⟩ })) H1) ∧
  ((!decide (s = { data := ⟨[(114 : UInt8), (102 : UInt8), (114 : UInt8), (111 : UInt8), (109 : UInt8)]⟩ })) = false → post false H1)) ∧ ((!decide (s = { data := ⟨[(118 : UInt8), (116 :
  UInt8), (111 : UInt8)]⟩ })) = false → post false H1)) ∧ ((!decide (s = { data := ⟨[(118 : UInt8), (102 : UInt8), (114 : UInt8), (111 : UInt8), (109 : UInt8)]⟩ })) = false → post false H1))
  ∧ (b3 = false → post false H1)) := by kernel_rfl
theorem ref21_columnName {s : ByteArray} {H : Heap} : ConT Try.prog 63 [.string s] H shB (fun b _ => b = columnName s) := by
  refine con_of_vc (an := an63) (fn := Try.f63) mix tabOK Try.func63 (by kernel_rfl) (extra := 0) ?_
  rw [vc63]
  refine ⟨_, ref21_ValidName, ?_⟩
  rintro H1 l1 _ rfl
  unfold columnName
  have key : ∀ {p q r t : Prop} [Decidable p] [Decidable q] [Decidable r] [Decidable t] {v : Bool}, (v = true → ((!decide p) = true → ((!decide q) = true → ((!decide r) = true → (!decide t) = (decide (¬ p) && decide (¬ q) && decide (¬ r) && decide (¬ t) && v)) ∧
      ((!decide r) = false → false = (decide (¬ p) && decide (¬ q) && decide (¬ r) && decide (¬ t) && v))) ∧ ((!decide q) = false → false = (decide (¬ p) && decide (¬ q) && decide (¬ r) && decide (¬ t) && v))) ∧
      ((!decide p) = false → false = (decide (¬ p) && decide (¬ q) && decide (¬ r) && decide (¬ t) && v))) ∧ (v = false → false = (decide (¬ p) && decide (¬ q) && decide (¬ r) && decide (¬ t) && v)) := by
    intro p q r t _ _ _ _ v
    by_cases hp : p <;> by_cases hq : q <;> by_cases hr : r <;> by_cases ht : t <;> cases v <;> simp [hp, hq, hr, ht]
  exact key
def an79 : Ann where
  res := fun _ => none
  lend := fun _ => false
  sch := fun _ => .done
  lt := fun | 2 => [.slot 5 false [.int .i64]] | _ => []
  tup := tups

theorem vc79 (P : Program) (H : Heap) (lA : Option Addr) (lN lC : Nat) (x : Int) (post : Bool → Heap → Prop) :
  vcFn P tab an79 Try.f79 [.slice lA lN lC, .int .i64 x] 0 H ⟨false, [(false, [.bool])]⟩ post =
  (  ∃ (inv0 : Int → Heap → Prop), ∃ (m1 : Int → Nat), inv0 (0 : Int) H ∧ ∀ (H2 : Heap), Heap.le H H2 → ∀ (n4 : Int), inv0 n4 H2 → (decide (n4 < (↑lN : Int)) = true → someA lA ∧ (0 : Int) ≤ n4 ∧
  n4 < (↑lN : Int) ∧ ∃ (n7 : Int), Cells H2 lA (Int.toNat n4 * 1) [.int .i64 n7] ∧ (decide (n7 = x) = true → post true H2) ∧ (decide (n7 = x) = false → rng .i64 (n4 + (1 : Int)) ∧ inv0 (n4 +
  (1 : Int)) H2 ∧ m1 (n4 + (1 : Int)) < m1 n4)) ∧ (decide (n4 < (↑lN : Int)) = false → post false H2)) := by kernel_rfl
theorem ref21_Contains {H : Heap} {A : Option Addr} {n c : Nat} {l : List Int} {x : Int} (hs : Sl H A n c l) :
    ConT Try.prog 79 [.slice A n c, .int .i64 x] H shB (fun r _ => r = l.contains x) := by
  refine con_of_vc (an := an79) (fn := Try.f79) mix tabOK Try.func79 (by kernel_rfl) (extra := 0) ?_
  rw [vc79]
  have b1 := hs.bn; have b2 := hs.len
  refine ⟨fun i _ => 0 ≤ i ∧ i ≤ n ∧ l.contains x = (l.drop i.toNat).contains x, fun i => n - i.toNat, ⟨by omega, by omega, rfl⟩, ?_⟩
  rintro H2 hle i ⟨h0, h1, h2⟩
  refine ⟨fun hlt => ?_, fun hge => ?_⟩
  · have hlt := of_decide_eq_true hlt
    obtain ⟨hi, hA, _, hc, rfl, -⟩ := hs.at hle h0 hlt
    rw [drop_at h0 hi, List.contains_cons] at h2
    refine ⟨hA, h0, hlt, _, hc, fun hp => ?_, fun hp => ⟨by simp only [rng]; omega, ⟨by omega, by omega, ?_⟩, by dsimp only; omega⟩⟩
    · have hp := of_decide_eq_true hp
      rw [h2, hp]; simp
    · have hp := of_decide_eq_false hp
      rw [h2, show (x == l[i.toNat]) = false by simpa using fun e => hp e.symm]; rfl
  · rw [drop_end (of_decide_eq_false hge) b2] at h2
    rw [h2]; rfl
def distinctGo : List Int → List Int → Bool
  | _, [] => true
  | pre, x :: r => !pre.contains x && distinctGo (pre ++ [x]) r
def distinct (l : List Int) : Bool := distinctGo [] l
def an51 : Ann where
  res := fun _ => none
  lend := fun | 17 => true | _ => false
  sch := fun | 4 => (tk [0, 1, 2, 3, 4, 5, 6] (.alt 7 .done .fin)) | _ => .done
  lt := fun | 2 => [.slot 3 false [.int .i64]] | _ => []
  tup := tups

theorem vc51 (P : Program) (H : Heap) (lA : Option Addr) (lN lC : Nat) (post : Bool → Heap → Prop) :
  vcFn P tab an51 Try.f51 [.slice lA lN lC] 0 H ⟨false, [(false, [.bool])]⟩ post =
  (  ∃ (inv0 : Int → Heap → Prop), ∃ (m1 : Int → Nat), inv0 (0 : Int) H ∧ ∀ (H2 : Heap), Heap.le H H2 → ∀ (n4 : Int), inv0 n4 H2 → (decide (n4 < (↑lN : Int)) = true → (0 : Int) ≤ (0 : Int) ∧ (0
  : Int) ≤ n4 ∧ n4 ≤ (↑lC : Int) ∧ ∀ (A7 : Option Addr), A7 = subA lA lC (Int.toNat (0 : Int)) 1 → someA lA ∧ (0 : Int) ≤ n4 ∧ n4 < (↑lN : Int) ∧ ∃ (n9 : Int), Cells H2 lA (Int.toNat n4 * 1)
  [.int .i64 n9] ∧ ∃ (post10 : Bool → Heap → Prop), ConT P 79 [.slice A7 (Int.toNat n4 - Int.toNat (0 : Int)) (lC - Int.toNat (0 : Int)), .int .i64 n9] H2 ⟨false, [(false, [.bool])]⟩ post10 ∧
  ∀ (H11 : Heap), Heap.le H2 H11 → ∀ (b13 : Bool), post10 b13 H11 → (b13 = true → post false H11) ∧ (b13 = false → rng .i64 (n4 + (1 : Int)) ∧ inv0 (n4 + (1 : Int)) H11 ∧ m1 (n4 + (1 : Int))
  < m1 n4)) ∧ (decide (n4 < (↑lN : Int)) = false → post true H2)) := by kernel_rfl
theorem ref21_distinct {H : Heap} {A : Option Addr} {n c : Nat} {l : List Int} (hs : Sl H A n c l) :
    ConT Try.prog 51 [.slice A n c] H shB (fun r _ => r = distinct l) := by
  refine con_of_vc (an := an51) (fn := Try.f51) mix tabOK Try.func51 (by kernel_rfl) (extra := 0) ?_
  rw [vc51]
  have b1 := hs.bn; have b2 := hs.len; have b3 := hs.cap
  unfold distinct
  refine ⟨fun i _ => 0 ≤ i ∧ i ≤ n ∧ distinctGo [] l = distinctGo (l.take i.toNat) (l.drop i.toNat), fun i => n - i.toNat, ⟨by omega, by omega, rfl⟩, ?_⟩
  rintro H2 hle i ⟨h0, h1, h2⟩
  refine ⟨fun hlt => ?_, fun hge => ?_⟩
  · have hlt := of_decide_eq_true hlt
    obtain ⟨hi, hA, _, hc, rfl, -⟩ := hs.at hle h0 hlt
    rw [drop_at h0 hi, distinctGo] at h2
    refine ⟨by omega, h0, by omega, ?_⟩
    rintro A' rfl
    refine ⟨hA, h0, hlt, _, hc, _, ref21_Contains ((hs.sub (j := 0) (k := i.toNat) (by omega) (by omega)).mono hle), ?_⟩
    rintro H3 l3 _ rfl
    rw [List.drop_zero]
    refine ⟨fun hp => ?_, fun hp => ⟨by simp only [rng]; omega, ⟨by omega, by omega, ?_⟩, by dsimp only; omega⟩⟩
    · rw [h2, hp]; rfl
    · rw [h2, hp, take_at h0 hi]; rfl
  · rw [drop_end (of_decide_eq_false hge) b2] at h2
    rw [h2]; rfl
def an69 : Ann where
  res := fun _ => none
  lend := fun _ => false
  sch := fun _ => .done
  lt := fun | 2 => [.slot 5 false [.int .i64]] | _ => []
  tup := tups

theorem vc69 (P : Program) (H : Heap) (vRecordedFrom : Int) (vRecordedTo : Int) (vColumnsA : Option Addr) (vColumnsN vColumnsC : Nat) (id : Int) (post : Int → Heap → Prop) :
  vcFn P tab an69 Try.f69 [.agg #[.int .i64 vRecordedFrom, .int .i64 vRecordedTo, .slice vColumnsA vColumnsN vColumnsC], .int .i64 id] 0 H ⟨false, [(false, [.int .i64])]⟩ post =
  (  ∃ (inv0 : Int → Heap → Prop), ∃ (m1 : Int → Nat), inv0 (0 : Int) H ∧ ∀ (H2 : Heap), Heap.le H H2 → ∀ (n4 : Int), inv0 n4 H2 → (decide (n4 < (↑vColumnsN : Int)) = true → someA vColumnsA ∧ (0
  : Int) ≤ n4 ∧ n4 < (↑vColumnsN : Int) ∧ ∃ (n7 : Int), Cells H2 vColumnsA (Int.toNat n4 * 3 + 0) [.int .i64 n7] ∧ (decide (n7 = id) = true → post n4 H2) ∧ (decide (n7 = id) = false → rng
  .i64 (n4 + (1 : Int)) ∧ inv0 (n4 + (1 : Int)) H2 ∧ m1 (n4 + (1 : Int)) < m1 n4)) ∧ (decide (n4 < (↑vColumnsN : Int)) = false → post (-1 : Int) H2)) := by kernel_rfl
theorem ref21_position {H : Heap} {a b : Int} {A : Option Addr} {n c : Nat} {l : List Col} {x : Int} (hs : Sl H A n c l) :
    ConT Try.prog 69 [.agg ⟨[.int .i64 a, .int .i64 b, .slice A n c]⟩, .int .i64 x] H shI (fun r _ => r = idxOf (fun c => decide (c.id = x)) 0 l) := by
  refine con_of_vc (an := an69) (fn := Try.f69) mix tabOK Try.func69 (by kernel_rfl) (extra := 0) ?_
  rw [vc69]
  have b1 := hs.bn; have b2 := hs.len
  refine ⟨fun n _ => 0 ≤ n ∧ n ≤ l.length ∧ idxOf (fun c => decide (c.id = x)) 0 l = idxOf (fun c => decide (c.id = x)) n (l.drop n.toNat), fun n => l.length - n.toNat, ⟨by omega, by omega, rfl⟩, ?_⟩
  rintro H2 hle i ⟨h0, h1, h2⟩
  refine ⟨fun hlt => ?_, fun hge => ?_⟩
  · have hlt := of_decide_eq_true hlt
    obtain ⟨hi, hA, _, hc, rfl, -⟩ := hs.at hle h0 hlt
    rw [drop_at h0 hi, idxOf] at h2
    refine ⟨hA, h0, hlt, _, hc.at1 (k := 0) rfl, fun hp => ?_, fun hp => ⟨by simp only [rng]; omega, ⟨by omega, by omega, ?_⟩, by dsimp only; omega⟩⟩
    · rw [h2, if_pos hp]
    · rw [h2, if_neg (by simp [hp])]
  · rw [drop_end (of_decide_eq_false hge) hs.len, idxOf] at h2
    exact h2.symm
def an16 : Ann where
  res := fun _ => none
  lend := fun _ => false
  sch := fun _ => .done
  lt := fun | 2 => [.slot 5 false [.int .i64]] | _ => []
  tup := tups

theorem vc16 (P : Program) (H : Heap) (vRecordedFrom : Int) (vRecordedTo : Int) (vColumnsA : Option Addr) (vColumnsN vColumnsC : Nat) (name : ByteArray) (post : Int → Heap → Prop) :
  vcFn P tab an16 Try.f16 [.agg #[.int .i64 vRecordedFrom, .int .i64 vRecordedTo, .slice vColumnsA vColumnsN vColumnsC], .string name] 0 H ⟨false, [(false, [.int .i64])]⟩ post =
  (  ∃ (inv0 : Int → Heap → Prop), ∃ (m1 : Int → Nat), inv0 (0 : Int) H ∧ ∀ (H2 : Heap), Heap.le H H2 → ∀ (n4 : Int), inv0 n4 H2 → (decide (n4 < (↑vColumnsN : Int)) = true → someA vColumnsA ∧ (0
  : Int) ≤ n4 ∧ n4 < (↑vColumnsN : Int) ∧ ∃ (s7 : ByteArray), Cells H2 vColumnsA (Int.toNat n4 * 3 + 1) [.string s7] ∧ (decide (s7 = name) = true → post n4 H2) ∧ (decide (s7 = name) = false →
  rng .i64 (n4 + (1 : Int)) ∧ inv0 (n4 + (1 : Int)) H2 ∧ m1 (n4 + (1 : Int)) < m1 n4)) ∧ (decide (n4 < (↑vColumnsN : Int)) = false → post (-1 : Int) H2)) := by kernel_rfl
theorem ref21_Index {H : Heap} {a b : Int} {A : Option Addr} {n c : Nat} {l : List Col} {x : ByteArray} (hs : Sl H A n c l) :
    ConT Try.prog 16 [.agg ⟨[.int .i64 a, .int .i64 b, .slice A n c]⟩, .string x] H shI (fun r _ => r = idxOf (fun c => decide (c.name = x)) 0 l) := by
  refine con_of_vc (an := an16) (fn := Try.f16) mix tabOK Try.func16 (by kernel_rfl) (extra := 0) ?_
  rw [vc16]
  have b1 := hs.bn; have b2 := hs.len
  refine ⟨fun n _ => 0 ≤ n ∧ n ≤ l.length ∧ idxOf (fun c => decide (c.name = x)) 0 l = idxOf (fun c => decide (c.name = x)) n (l.drop n.toNat), fun n => l.length - n.toNat, ⟨by omega, by omega, rfl⟩, ?_⟩
  rintro H2 hle i ⟨h0, h1, h2⟩
  refine ⟨fun hlt => ?_, fun hge => ?_⟩
  · have hlt := of_decide_eq_true hlt
    obtain ⟨hi, hA, _, hc, rfl, -⟩ := hs.at hle h0 hlt
    rw [drop_at h0 hi, idxOf] at h2
    refine ⟨hA, h0, hlt, _, hc.at1 (k := 1) rfl, fun hp => ?_, fun hp => ⟨by simp only [rng]; omega, ⟨by omega, by omega, ?_⟩, by dsimp only; omega⟩⟩
    · rw [h2, if_pos hp]
    · rw [h2, if_neg (by rw [hp]; exact Bool.false_ne_true)]
  · rw [drop_end (of_decide_eq_false hge) hs.len, idxOf] at h2
    exact h2.symm
section
variable {H : Heap} {nm : ByteArray} {A : Option Addr} {n c : Nat} {B : Option Addr} {m d : Nat} {E : Option Addr} {k e : Nat} {F : Option Addr} {l f : Nat} {s : TSch}
def an52 : Ann where
  res := fun _ => none
  lend := fun | 29 => true | _ => false
  sch := fun | 7 => (tk [0, 1, 2, 3, 4, 5, 6, 7, 8] (.alt 9 (tk [10] .done) .fin)) | _ => .done
  lt := fun | 2 => [.slot 5 false [.int .i64]] | 5 => [.slot 6 false [.int .i64]] | _ => []
  tup := tups

theorem vc52 (P : Program) (H : Heap) (sName : ByteArray) (sVersionsA : Option Addr) (sVersionsN sVersionsC : Nat) (sKeyA : Option Addr) (sKeyN sKeyC : Nat) (sForeignKeysA : Option Addr) (sForeignKeysN sForeignKeysC : Nat) (sConstraintsA : Option Addr) (sConstraintsN sConstraintsC : Nat) (idsA : Option Addr) (idsN idsC : Nat) (post : Bool → Heap → Prop) :
  vcFn P tab an52 Try.f52 [.agg #[.string sName, .slice sVersionsA sVersionsN sVersionsC, .slice sKeyA sKeyN sKeyC, .slice sForeignKeysA sForeignKeysN sForeignKeysC, .slice sConstraintsA sConstraintsN sConstraintsC], .slice idsA idsN idsC] 0 H ⟨false, [(false, [.bool])]⟩ post =
  (  ∃ (inv0 : Int → Heap → Prop), ∃ (m1 : Int → Nat), inv0 (0 : Int) H ∧ ∀ (H2 : Heap), Heap.le H H2 → ∀ (n4 : Int), inv0 n4 H2 → (decide (n4 < (↑sVersionsN : Int)) = true → ∃ (inv7 : Int →
  Heap → Prop), ∃ (m8 : Int → Nat), inv7 (0 : Int) H2 ∧ ∀ (H9 : Heap), Heap.le H2 H9 → ∀ (n11 : Int), inv7 n11 H9 → (decide (n11 < (↑idsN : Int)) = true → someA sVersionsA ∧ (0 : Int) ≤ n4 ∧
  n4 < (↑sVersionsN : Int) ∧ ∃ (n14 : Int), ∃ (n15 : Int), ∃ (A16 : Option Addr), ∃ (n17 : Nat), ∃ (c18 : Nat), Cells H9 sVersionsA (Int.toNat n4 * 3) [.int .i64 n14, .int .i64 n15, .slice
  A16 n17 c18] ∧ someA idsA ∧ (0 : Int) ≤ n11 ∧ n11 < (↑idsN : Int) ∧ ∃ (n19 : Int), Cells H9 idsA (Int.toNat n11 * 1) [.int .i64 n19] ∧ ∃ (post20 : Int → Heap → Prop), ConT P 69 [.agg ⟨[.int
  .i64 n14, .int .i64 n15, .slice A16 n17 c18]⟩, .int .i64 n19] H9 ⟨false, [(false, [.int .i64])]⟩ post20 ∧ ∀ (H21 : Heap), Heap.le H9 H21 → ∀ (n23 : Int), post20 n23 H21 → (decide (n23 < (0
  : Int)) = true → post false H21) ∧ (decide (n23 < (0 : Int)) = false → rng .i64 (n11 + (1 : Int)) ∧ inv7 (n11 + (1 : Int)) H21 ∧ m8 (n11 + (1 : Int)) < m8 n11)) ∧ (decide (n11 < (↑idsN :
  Int)) = false → rng .i64 (n4 + (1 : Int)) ∧ inv0 (n4 + (1 : Int)) H9 ∧ m1 (n4 + (1 : Int)) < m1 n4)) ∧ (decide (n4 < (↑sVersionsN : Int)) = false → post true H2)) := by kernel_rfl
theorem ref21_everywhere {C : Option Addr} {p q : Nat} {ids : List Int} (hs : IsTSch H nm A n c B m d E k e F l f s) (ht : Sl H C p q ids) :
    ConT Try.prog 52 [.agg ⟨[.string nm, .slice A n c, .slice B m d, .slice E k e, .slice F l f]⟩, .slice C p q] H shB (fun r _ => r = permanent s.vers ids) := by
  refine con_of_vc (an := an52) (fn := Try.f52) mix tabOK Try.func52 (by kernel_rfl) (extra := 0) ?_
  rw [vc52]
  have hv := hs.vers
  have b1 := hv.bn; have b2 := hv.len; have b3 := ht.bn; have b4 := ht.len
  unfold permanent
  refine ⟨fun i _ => 0 ≤ i ∧ i ≤ n ∧ (s.vers.all fun v => ids.all fun x => hasID v.cols x) = ((s.vers.drop i.toNat).all fun v => ids.all fun x => hasID v.cols x), fun i => n - i.toNat, ⟨by omega, by omega, rfl⟩, ?_⟩
  rintro H2 hle i ⟨h0, h1, h2⟩
  refine ⟨fun hlt => ?_, fun hge => ?_⟩
  · have hlt := of_decide_eq_true hlt
    have hi : i.toNat < s.vers.length := by omega
    rw [drop_at h0 hi, List.all_cons] at h2
    refine ⟨fun k _ => 0 ≤ k ∧ k ≤ p ∧ (ids.all fun x => hasID s.vers[i.toNat].cols x) = ((ids.drop k.toNat).all fun x => hasID s.vers[i.toNat].cols x), fun k => p - k.toNat, ⟨by omega, by omega, rfl⟩, ?_⟩
    rintro H3 hle3 k ⟨k0, k1, k2⟩
    refine ⟨fun klt => ?_, fun kge => ?_⟩
    · have klt := of_decide_eq_true klt
      obtain ⟨hi', hA, _, hc, ⟨A', n', c', rfl, r1, r2, hvi⟩⟩ := hv.at (hle_trans hle hle3) h0 hlt
      obtain ⟨ki, kA, _, kc, rfl, r⟩ := ht.at (hle_trans hle hle3) k0 klt
      rw [drop_at k0 ki, List.all_cons] at k2
      refine ⟨hA, h0, hlt, _, _, _, _, _, hc, kA, k0, klt, _, kc, _, ref21_position hvi, ?_⟩
      rintro H4 hle4 r rfl
      have := idxOf_lt (fun c => decide (c.id = ids[k.toNat])) s.vers[i.toNat].cols
      rw [decide_eq_true_eq, decide_eq_false_iff_not, this, ← hasID]
      refine ⟨fun hf => ?_, fun ht => ⟨by simp only [rng]; omega, ⟨by omega, by omega, ?_⟩, by dsimp only; omega⟩⟩
      · rw [h2, k2, hf]; simp
      · rw [k2]; simp at ht; simp [ht]
    · rw [drop_end (of_decide_eq_false kge) b4] at k2
      refine ⟨by simp only [rng]; omega, ⟨by omega, by omega, ?_⟩, by dsimp only; omega⟩
      rw [h2, k2]; simp
  · rw [drop_end (of_decide_eq_false hge) b2] at h2
    rw [h2]; rfl
def an21 : Ann where
  res := fun _ => none
  lend := fun _ => false
  sch := fun _ => .done
  lt := fun | 3 => [.slot 3 false [.int .i64], .slot 4 false [.int .i64]] | 6 => [.slot 3 false [.int .i64], .slot 5 false [.int .i64]] | _ => []
  tup := tups

theorem vc21 (P : Program) (H : Heap) (sName : ByteArray) (sVersionsA : Option Addr) (sVersionsN sVersionsC : Nat) (sKeyA : Option Addr) (sKeyN sKeyC : Nat) (sForeignKeysA : Option Addr) (sForeignKeysN sForeignKeysC : Nat) (sConstraintsA : Option Addr) (sConstraintsN sConstraintsC : Nat) (post : Int → Heap → Prop) :
  vcFn P tab an21 Try.f21 [.agg #[.string sName, .slice sVersionsA sVersionsN sVersionsC, .slice sKeyA sKeyN sKeyC, .slice sForeignKeysA sForeignKeysN sForeignKeysC, .slice sConstraintsA sConstraintsN sConstraintsC]] 0 H ⟨false, [(false, [.int .i64])]⟩ post =
  (  ∃ (inv0 : Int → Int → Heap → Prop), ∃ (m1 : Int → Int → Nat), inv0 (0 : Int) (0 : Int) H ∧ ∀ (H2 : Heap), Heap.le H H2 → ∀ (n4 n5 : Int), inv0 n4 n5 H2 → (decide (n5 < (↑sVersionsN : Int))
  = true → ∃ (inv8 : Int → Int → Heap → Prop), ∃ (m9 : Int → Int → Nat), inv8 n4 (0 : Int) H2 ∧ ∀ (H10 : Heap), Heap.le H2 H10 → ∀ (n12 n13 : Int), inv8 n12 n13 H10 → someA sVersionsA ∧ (0 :
  Int) ≤ n5 ∧ n5 < (↑sVersionsN : Int) ∧ ∃ (A15 : Option Addr), ∃ (n16 : Nat), ∃ (c17 : Nat), Cells H10 sVersionsA (Int.toNat n5 * 3 + 2) [.slice A15 n16 c17] ∧ (decide (n13 < (↑n16 : Int)) =
  true → someA sVersionsA ∧ (0 : Int) ≤ n5 ∧ n5 < (↑sVersionsN : Int) ∧ ∃ (A19 : Option Addr), ∃ (n20 : Nat), ∃ (c21 : Nat), Cells H10 sVersionsA (Int.toNat n5 * 3 + 2) [.slice A19 n20 c21] ∧
  someA A19 ∧ (0 : Int) ≤ n13 ∧ n13 < (↑n20 : Int) ∧ ∃ (n22 : Int), Cells H10 A19 (Int.toNat n13 * 3 + 0) [.int .i64 n22] ∧ rng .i64 (n13 + (1 : Int)) ∧ inv8 (max n12 n22) (n13 + (1 : Int))
  H10 ∧ m9 (max n12 n22) (n13 + (1 : Int)) < m9 n12 n13) ∧ (decide (n13 < (↑n16 : Int)) = false → rng .i64 (n5 + (1 : Int)) ∧ inv0 n12 (n5 + (1 : Int)) H10 ∧ m1 n12 (n5 + (1 : Int)) < m1 n4
  n5)) ∧ (decide (n5 < (↑sVersionsN : Int)) = false → post n4 H2)) := by kernel_rfl
theorem ref21_Width (hs : IsTSch H nm A n c B m d E k e F l f s) :
    ConT Try.prog 21 [.agg ⟨[.string nm, .slice A n c, .slice B m d, .slice E k e, .slice F l f]⟩] H shI (fun r _ => r = width s ∧ rng .i64 r) := by
  refine con_of_vc (an := an21) (fn := Try.f21) mix tabOK Try.func21 (by kernel_rfl) (extra := 0) ?_
  rw [vc21]
  have hv := hs.vers
  have v1 := hv.bn; have v2 := hv.len
  unfold width
  refine ⟨fun w i _ => 0 ≤ i ∧ i ≤ n ∧ rng .i64 w ∧ widthGo 0 s.vers = widthGo w (s.vers.drop i.toNat), fun _ i => n - i.toNat, ⟨by omega, by omega, by simp [rng], rfl⟩, ?_⟩
  rintro H2 hle w i ⟨h0, h1, hw, h2⟩
  refine ⟨fun hlt => ?_, fun hge => ?_⟩
  · have hlt := of_decide_eq_true hlt
    have hi : i.toNat < s.vers.length := by omega
    rw [drop_at h0 hi, widthGo] at h2
    have hbd : s.vers[i.toNat].cols.length ≤ 140737488355328 := by
      obtain ⟨_, _, _, _, ⟨_, n', _, _, _, _, hvi⟩⟩ := hv.at hle h0 hlt
      have := hvi.bn; have := hvi.len; omega
    refine ⟨fun w' j _ => 0 ≤ j ∧ j ≤ s.vers[i.toNat].cols.length ∧ rng .i64 w' ∧ widthCols w s.vers[i.toNat].cols = widthCols w' (s.vers[i.toNat].cols.drop j.toNat), fun _ j => s.vers[i.toNat].cols.length - j.toNat, ⟨by omega, by omega, hw, rfl⟩, ?_⟩
    rintro H3 hle3 w' j ⟨j0, j1, jw, j2⟩
    obtain ⟨hi', hA, _, hcc, ⟨A', n', c', rfl, r1, r2, hvi⟩⟩ := hv.at (hle_trans hle hle3) h0 hlt
    have d1 := hvi.bn; have d2 := hvi.len
    refine ⟨hA, h0, hlt, _, _, _, hcc.at1 (k := 2) rfl, fun jlt => ?_, fun jge => ?_⟩
    · have jlt := of_decide_eq_true jlt
      obtain ⟨ji, jA, _, jc, rfl, q1, q2, q3⟩ := hvi.at (hle_refl _) j0 jlt
      rw [drop_at j0 ji, widthCols] at j2
      exact ⟨hA, h0, hlt, _, _, _, hcc.at1 (k := 2) rfl, jA, j0, jlt, _, jc.at1 (k := 0) rfl, by simp only [rng]; omega, ⟨by omega, by omega, by simp only [rng] at *; omega, j2⟩, by dsimp only; omega⟩
    · rw [drop_end (of_decide_eq_false jge) d2, widthCols] at j2
      exact ⟨by simp only [rng]; omega, ⟨by omega, by omega, jw, by rw [h2, j2]⟩, by dsimp only; omega⟩
  · rw [drop_end (of_decide_eq_false hge) v2, widthGo] at h2
    exact ⟨h2.symm, hw⟩
def an14 : Ann where
  res := fun _ => none
  lend := fun _ => false
  sch := fun _ => .done
  lt := fun | 2 => [.slot 6 false [.int .i64], .box 4 35 [.int .i64, .int .i64, .sl]] | _ => []
  tup := tups

theorem vc14 (P : Program) (H : Heap) (sName : ByteArray) (sVersionsA : Option Addr) (sVersionsN sVersionsC : Nat) (sKeyA : Option Addr) (sKeyN sKeyC : Nat) (sForeignKeysA : Option Addr) (sForeignKeysN sForeignKeysC : Nat) (sConstraintsA : Option Addr) (sConstraintsN sConstraintsC : Nat) (at0 : Int) (post : Int → Int → Option Addr → Nat → Nat → Bool → Heap → Prop) :
  vcFn P tab an14 Try.f14 [.agg #[.string sName, .slice sVersionsA sVersionsN sVersionsC, .slice sKeyA sKeyN sKeyC, .slice sForeignKeysA sForeignKeysN sForeignKeysC, .slice sConstraintsA sConstraintsN sConstraintsC], .int .i64 at0] 0 H ⟨true, [(true, [.int .i64, .int .i64, .sl]), (false, [.bool])]⟩ post =
  (  ∃ (inv0 : Int → Int → Int → Option Addr → Nat → Nat → Heap → Prop), ∃ (m1 : Int → Int → Int → Option Addr → Nat → Nat → Nat), inv0 (0 : Int) (0 : Int) (0 : Int) none 0 0 H ∧ ∀ (H2 : Heap),
  Heap.le H H2 → ∀ (n4 n5 n6 : Int) (A7 : Option Addr) (n8 c9 : Nat), inv0 n4 n5 n6 A7 n8 c9 H2 → (decide (n4 < (↑sVersionsN : Int)) = true → someA sVersionsA ∧ (0 : Int) ≤ n4 ∧ n4 <
  (↑sVersionsN : Int) ∧ ∃ (n12 : Int), ∃ (n13 : Int), Cells H2 sVersionsA (Int.toNat n4 * 3 + 0) [.int .i64 n12, .int .i64 n13] ∧ (decide (n12 ≤ at0) = true → (decide (at0 < n13) = true →
  someA sVersionsA ∧ (0 : Int) ≤ n4 ∧ n4 < (↑sVersionsN : Int) ∧ ∃ (n16 : Int), ∃ (n17 : Int), ∃ (A18 : Option Addr), ∃ (n19 : Nat), ∃ (c20 : Nat), Cells H2 sVersionsA (Int.toNat n4 * 3)
  [.int .i64 n16, .int .i64 n17, .slice A18 n19 c20] ∧ post n16 n17 A18 n19 c20 true H2) ∧ (decide (at0 < n13) = false → rng .i64 (n4 + (1 : Int)) ∧ inv0 (n4 + (1 : Int)) n5 n6 A7 n8 c9 H2 ∧
  m1 (n4 + (1 : Int)) n5 n6 A7 n8 c9 < m1 n4 n5 n6 A7 n8 c9)) ∧ (decide (n12 ≤ at0) = false → rng .i64 (n4 + (1 : Int)) ∧ inv0 (n4 + (1 : Int)) n5 n6 A7 n8 c9 H2 ∧ m1 (n4 + (1 : Int)) n5 n6
  A7 n8 c9 < m1 n4 n5 n6 A7 n8 c9)) ∧ (decide (n4 < (↑sVersionsN : Int)) = false → post (0 : Int) (0 : Int) none 0 0 false H2)) := by kernel_rfl
theorem ref21_SchemaAt {x : Int} (hs : IsTSch H nm A n c B m d E k e F l f s) :
    ConT Try.prog 14 [.agg ⟨[.string nm, .slice A n c, .slice B m d, .slice E k e, .slice F l f]⟩, .int .i64 x] H ⟨true, [(true, [.int .i64, .int .i64, .sl]), (false, [.bool])]⟩
      (fun a b A' n' c' ok H' => ok = (verAt x s.vers).isSome ∧ rng .i64 a ∧ rng .i64 b ∧ ∃ l, Sl H' A' n' c' l ∧ (⟨⟨a, b⟩, l⟩ : Ver) = (verAt x s.vers).getD ver0) := by
  refine con_of_vc (an := an14) (fn := Try.f14) mix tabOK Try.func14 (by kernel_rfl) (extra := 0) ?_
  rw [vc14]
  have hv := hs.vers
  have v1 := hv.bn; have v2 := hv.len
  refine ⟨fun i _ _ _ _ _ _ => 0 ≤ i ∧ i ≤ n ∧ verAt x s.vers = verAt x (s.vers.drop i.toNat), fun i _ _ _ _ _ => n - i.toNat, ⟨by omega, by omega, rfl⟩, ?_⟩
  rintro H2 hle i _ _ _ _ _ ⟨h0, h1, h2⟩
  refine ⟨fun hlt => ?_, fun hge => ?_⟩
  · have hlt := of_decide_eq_true hlt
    obtain ⟨hi, hA, _, hcc, ⟨A', n', c', rfl, r1, r2, hvi⟩⟩ := hv.at hle h0 hlt
    rw [drop_at h0 hi, verAt] at h2
    refine ⟨hA, h0, hlt, _, _, hcc.at2 (k := 0) rfl rfl, fun b1 => ⟨fun b2 => ?_, fun b2 => ?_⟩, fun b1 => ?_⟩
    · rw [if_pos ⟨of_decide_eq_true b1, of_decide_eq_true b2⟩] at h2
      refine ⟨hA, h0, hlt, _, _, _, _, _, hcc, ?_⟩
      rw [h2]
      exact ⟨rfl, r1, r2, _, hvi, rfl⟩
    · rw [if_neg (fun h => of_decide_eq_false b2 h.2)] at h2
      exact ⟨by simp only [rng]; omega, ⟨by omega, by omega, h2⟩, by dsimp only; omega⟩
    · rw [if_neg (fun h => of_decide_eq_false b1 h.1)] at h2
      exact ⟨by simp only [rng]; omega, ⟨by omega, by omega, h2⟩, by dsimp only; omega⟩
  · rw [drop_end (of_decide_eq_false hge) v2, verAt] at h2
    rw [h2]
    exact ⟨rfl, by simp [rng], by simp [rng], [], Sl.nil, rfl⟩
end
def an37 : Ann where
  res := fun _ => none
  lend := fun _ => false
  sch := fun | 6 => (tk [0, 1, 2, 3, 4, 5, 6, 7, 8] .done) | _ => .done
  lt := fun | 4 => [.slot 5 false [.int .i64]] | _ => []
  tup := tups

theorem vc37 (P : Program) (H : Heap) (aA : Option Addr) (aN aC : Nat) (bA : Option Addr) (bN bC : Nat) (post : Bool → Heap → Prop) :
  vcFn P tab an37 Try.f37 [.slice aA aN aC, .slice bA bN bC] 0 H ⟨false, [(false, [.bool])]⟩ post =
  (  ((!decide ((↑aN : Int) = (↑bN : Int))) = true → post false H) ∧ ((!decide ((↑aN : Int) = (↑bN : Int))) = false → ∃ (inv2 : Int → Heap → Prop), ∃ (m3 : Int → Nat), inv2 (0 : Int) H ∧ ∀ (H4 :
  Heap), Heap.le H H4 → ∀ (n6 : Int), inv2 n6 H4 → (decide (n6 < (↑aN : Int)) = true → someA aA ∧ (0 : Int) ≤ n6 ∧ n6 < (↑aN : Int) ∧ ∃ (n9 : Int), ∃ (s10 : ByteArray), ∃ (n11 : Int), Cells
  H4 aA (Int.toNat n6 * 3) [.int .i64 n9, .string s10, .int .i64 n11] ∧ someA bA ∧ (0 : Int) ≤ n6 ∧ n6 < (↑bN : Int) ∧ ∃ (n12 : Int), ∃ (s13 : ByteArray), ∃ (n14 : Int), Cells H4 bA
  (Int.toNat n6 * 3) [.int .i64 n12, .string s13, .int .i64 n14] ∧ ((!(decide (n9 = n12) && (decide (s10 = s13) && decide (n11 = n14)))) = true → post false H4) ∧ ((!(decide (n9 = n12) &&
  (decide (s10 = s13) && decide (n11 = n14)))) = false → rng .i64 (n6 + (1 : Int)) ∧ inv2 (n6 + (1 : Int)) H4 ∧ m3 (n6 + (1 : Int)) < m3 n6)) ∧ (decide (n6 < (↑aN : Int)) = false → post true
  H4))) := by kernel_rfl
theorem ref21_SameColumns {H : Heap} {A B : Option Addr} {n c m d : Nat} {l l' : List Col} (hs : Sl H A n c l) (ht : Sl H B m d l') :
    ConT Try.prog 37 [.slice A n c, .slice B m d] H shB (fun r _ => r = decide (l = l')) := by
  refine con_of_vc (an := an37) (fn := Try.f37) mix tabOK Try.func37 (by kernel_rfl) (extra := 0) ?_
  rw [vc37]
  have b1 := hs.bn; have b2 := hs.len; have c1 := ht.bn; have c2 := ht.len
  refine ⟨fun h => ?_, fun h => ?_⟩
  · have h : ¬ n = m := by simp at h; omega
    exact (decide_eq_false (fun e => h (by rw [← b2, ← c2, e]))).symm
  have h : n = m := by simp at h; omega
  subst h
  refine ⟨fun i _ => 0 ≤ i ∧ i ≤ n ∧ decide (l = l') = decide (l.drop i.toNat = l'.drop i.toNat), fun i => n - i.toNat, ⟨by omega, by omega, rfl⟩, ?_⟩
  rintro H2 hle i ⟨h0, h1, h2⟩
  refine ⟨fun hlt => ?_, fun hge => ?_⟩
  · have hlt := of_decide_eq_true hlt
    obtain ⟨hi, hA, _, hc, rfl, -⟩ := hs.at hle h0 hlt
    obtain ⟨ki, kA, _, kc, rfl, -⟩ := ht.at hle h0 hlt
    rw [drop_at h0 hi, drop_at h0 ki] at h2
    refine ⟨hA, h0, hlt, _, _, _, hc, kA, h0, hlt, _, _, _, kc, fun hf => ?_, fun hn => ⟨by simp only [rng]; omega, ⟨by omega, by omega, ?_⟩, by dsimp only; omega⟩⟩
    · rw [h2]
      refine (decide_eq_false fun e => ?_).symm
      rw [(List.cons.inj e).1] at hf
      simp at hf
    · have : l[i.toNat] = l'[i.toNat] := by
        generalize l[i.toNat] = u at hn
        generalize l'[i.toNat] = v at hn
        cases u; cases v; simp at hn; simp [hn]
      rw [h2, this]
      simp
  · rw [drop_end (of_decide_eq_false hge) b2, drop_end (of_decide_eq_false hge) c2] at h2
    rw [h2]; rfl
def an19 : Ann where
  res := fun _ => none
  lend := fun | 14 => true | _ => false
  sch := fun _ => .done
  lt := fun _ => []
  tup := tups

theorem vc19 (P : Program) (H : Heap) (aRecordedFrom : Int) (aRecordedTo : Int) (aColumnsA : Option Addr) (aColumnsN aColumnsC : Nat) (bRecordedFrom : Int) (bRecordedTo : Int) (bColumnsA : Option Addr) (bColumnsN bColumnsC : Nat) (post : Bool → Heap → Prop) :
  vcFn P tab an19 Try.f19 [.agg #[.int .i64 aRecordedFrom, .int .i64 aRecordedTo, .slice aColumnsA aColumnsN aColumnsC], .agg #[.int .i64 bRecordedFrom, .int .i64 bRecordedTo, .slice bColumnsA bColumnsN bColumnsC]] 0 H ⟨false, [(false, [.bool])]⟩ post =
  (  ((!(decide (aRecordedFrom = bRecordedFrom) && decide (aRecordedTo = bRecordedTo))) = true → post false H) ∧ ((!(decide (aRecordedFrom = bRecordedFrom) && decide (aRecordedTo =
  bRecordedTo))) = false → ∃ (post2 : Bool → Heap → Prop), ConT P 37 [.slice aColumnsA aColumnsN aColumnsC, .slice bColumnsA bColumnsN bColumnsC] H ⟨false, [(false, [.bool])]⟩ post2 ∧ ∀ (H3 :
  Heap), Heap.le H H3 → ∀ (b5 : Bool), post2 b5 H3 → post b5 H3)) := by kernel_rfl
theorem ref21_SameSchemaVersion {H : Heap} {a b a' b' : Int} {A B : Option Addr} {n c m d : Nat} {l l' : List Col} (hs : Sl H A n c l) (ht : Sl H B m d l') :
    ConT Try.prog 19 [.agg ⟨[.int .i64 a, .int .i64 b, .slice A n c]⟩, .agg ⟨[.int .i64 a', .int .i64 b', .slice B m d]⟩] H shB (fun r _ => r = decide ((⟨⟨a, b⟩, l⟩ : Ver) = ⟨⟨a', b'⟩, l'⟩)) := by
  refine con_of_vc (an := an19) (fn := Try.f19) mix tabOK Try.func19 (by kernel_rfl) (extra := 0) ?_
  rw [vc19]
  refine ⟨fun h => ?_, fun h => ⟨_, ref21_SameColumns hs ht, ?_⟩⟩
  · refine (decide_eq_false fun e => ?_).symm
    simp only [Ver.mk.injEq, Per.mk.injEq] at e
    simp [e] at h
  · rintro H1 l1 _ rfl
    have h : a = a' ∧ b = b' := by simpa using h
    obtain ⟨rfl, rfl⟩ := h
    simp
end Go.Vc
