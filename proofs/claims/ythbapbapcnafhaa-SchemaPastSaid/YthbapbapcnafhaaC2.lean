/- The library's small functions over slices; names, IDs, periods. -/
import Derived.Test.YthbapbapcnafhaaC1
set_option linter.unusedSectionVars false
set_option linter.unusedSimpArgs false
set_option linter.unusedVariables false
namespace Go.Vc
open Go Go.Proofs
def idxOf {T : Type} (p : T → Bool) : Int → List T → Int
  | _, [] => -1
  | i, x :: r => if p x then i else idxOf p (i + 1) r
theorem idxOf_ge {T : Type} (p : T → Bool) : ∀ (l : List T) (i : Int), 0 ≤ i → (0 ≤ idxOf p i l ↔ l.any p = true)
  | [], i, h => by simp [idxOf]
  | x :: r, i, h => by
    have := idxOf_ge p r (i + 1) (by omega)
    unfold idxOf
    split <;> simp_all
theorem idxOf_bd {T : Type} (p : T → Bool) : ∀ (l : List T) (i : Int), -1 ≤ i → -1 ≤ idxOf p i l ∧ idxOf p i l < i + l.length + 1
  | [], i, h => by simp [idxOf]; omega
  | x :: r, i, h => by
    have := idxOf_bd p r (i + 1) (by omega)
    unfold idxOf
    split <;> simp_all <;> omega
def an40 : Ann where
  res := fun _ => none
  lend := fun | 16 => true | _ => false
  sch := fun _ => .done
  lt := fun | 2 => [.slot 8 false [.int .i64]] | _ => []
  tup := tups

theorem vc40 (P : Program) (H : Heap) (sA : Option Addr) (sN sC : Nat) (fF : FuncId) (fP : Value) (post : Int → Heap → Prop) :
  vcFn P tab an40 Try.f40 [.slice sA sN sC, .func (.func fF) #[] #[fP]] 0 H ⟨false, [(false, [.int .i64])]⟩ post =
  (  ∃ (inv0 : Int → Heap → Prop), ∃ (m1 : Int → Nat), inv0 (0 : Int) H ∧ ∀ (H2 : Heap), Heap.le H H2 → ∀ (n4 : Int), inv0 n4 H2 → (decide (n4 < (↑sN : Int)) = true → someA sA ∧ (0 : Int) ≤ n4 ∧
  n4 < (↑sN : Int) ∧ ∃ (n7 : Int), ∃ (s8 : ByteArray), ∃ (n9 : Int), Cells H2 sA (Int.toNat n4 * 3) [.int .i64 n7, .string s8, .int .i64 n9] ∧ ∃ (post10 : Bool → Heap → Prop), ConT P fF [.agg
  ⟨[.int .i64 n7, .string s8, .int .i64 n9]⟩, fP] H2 ⟨false, [(false, [.bool])]⟩ post10 ∧ ∀ (H11 : Heap), Heap.le H2 H11 → ∀ (b13 : Bool), post10 b13 H11 → (b13 = true → post n4 H11) ∧ (b13 =
  false → rng .i64 (n4 + (1 : Int)) ∧ inv0 (n4 + (1 : Int)) H11 ∧ m1 (n4 + (1 : Int)) < m1 n4)) ∧ (decide (n4 < (↑sN : Int)) = false → post (-1 : Int) H2)) := by kernel_rfl
/- a predicate on columns that a function value computes in every grown heap -/
def ColPred (H : Heap) (f : FuncId) (q : Value) (p : Col → Bool) : Prop := ∀ (H' : Heap) (c : Col), Heap.le H H' → ConT Try.prog f [.agg ⟨[.int .i64 c.id, .string c.name, .int .i64 c.kind]⟩, q] H' shB (fun b _ => b = p c)
theorem IndexFunc_Col {H : Heap} {A : Option Addr} {n c : Nat} {l : List Col} {f : FuncId} {q : Value} {p : Col → Bool} (hs : Sl H A n c l) (hf : ColPred H f q p) :
    ConT Try.prog 40 [.slice A n c, .func (.func f) #[] #[q]] H shI (fun r _ => r = idxOf p 0 l) := by
  refine con_of_vc (an := an40) (fn := Try.f40) mix tabOK Try.func40 (by kernel_rfl) (extra := 0) ?_
  rw [vc40]
  refine ⟨fun n _ => 0 ≤ n ∧ n ≤ l.length ∧ idxOf p 0 l = idxOf p n (l.drop n.toNat), fun n => l.length - n.toNat, ⟨by omega, by omega, rfl⟩, ?_⟩
  rintro H2 hle i ⟨h0, h1, h2⟩
  simp only [decide_eq_true_eq, decide_eq_false_iff_not]
  refine ⟨fun hlt => ?_, fun hge => ?_⟩
  · obtain ⟨hi, hA, _, hc, rfl, -⟩ := hs.at hle h0 hlt
    refine ⟨hA, h0, hlt, _, _, _, hc, _, hf _ _ hle, ?_⟩
    rintro H3 _ b rfl
    rw [drop_at h0 hi, idxOf] at h2
    refine ⟨fun hp => ?_, fun hp => ⟨?_, ⟨by omega, by omega, ?_⟩, by omega⟩⟩
    · rw [h2, if_pos hp]
    · have := hs.bn; have := hs.len; simp only [rng]; omega
    · rw [h2, if_neg (by simp [hp])]
  · rw [drop_end hge hs.len, idxOf] at h2
    exact h2.symm
def an75 : Ann where
  res := fun _ => none
  lend := fun | 7 => true | _ => false
  sch := fun _ => .done
  lt := fun _ => []
  tup := tups

theorem vc75 (P : Program) (H : Heap) (sA : Option Addr) (sN sC : Nat) (fF : FuncId) (fP : Value) (post : Bool → Heap → Prop) :
  vcFn P tab an75 Try.f75 [.slice sA sN sC, .func (.func fF) #[] #[fP]] 0 H ⟨false, [(false, [.bool])]⟩ post =
  (  ∃ (post0 : Int → Heap → Prop), ConT P 40 [.slice sA sN sC, .func (.func fF) ⟨[]⟩ ⟨[fP]⟩] H ⟨false, [(false, [.int .i64])]⟩ post0 ∧ ∀ (H1 : Heap), Heap.le H H1 → ∀ (n3 : Int), post0 n3 H1 →
  post (decide ((0 : Int) ≤ n3)) H1) := by kernel_rfl
theorem ContainsFunc_Col {H : Heap} {A : Option Addr} {n c : Nat} {l : List Col} {f : FuncId} {q : Value} {p : Col → Bool} (hs : Sl H A n c l) (hf : ColPred H f q p) :
    ConT Try.prog 75 [.slice A n c, .func (.func f) #[] #[q]] H shB (fun r _ => r = l.any p) := by
  refine con_of_vc (an := an75) (fn := Try.f75) mix tabOK Try.func75 (by kernel_rfl) (extra := 0) ?_
  rw [vc75]
  refine ⟨_, IndexFunc_Col hs hf, ?_⟩
  rintro H1 _ r rfl
  rw [Bool.eq_iff_iff, decide_eq_true_eq]
  exact idxOf_ge p l 0 (by omega)
def an83 : Ann where
  res := fun _ => none
  lend := fun _ => false
  sch := fun _ => .done
  lt := fun | 2 => [.slot 8 false [.int .i64]] | _ => []
  tup := tups

theorem vc83 (P : Program) (H : Heap) (sA : Option Addr) (sN sC : Nat) (v : Int) (post : Int → Heap → Prop) :
  vcFn P tab an83 Try.f83 [.slice sA sN sC, .int .i64 v] 0 H ⟨false, [(false, [.int .i64])]⟩ post =
  (  ∃ (inv0 : Int → Heap → Prop), ∃ (m1 : Int → Nat), inv0 (0 : Int) H ∧ ∀ (H2 : Heap), Heap.le H H2 → ∀ (n4 : Int), inv0 n4 H2 → (decide (n4 < (↑sN : Int)) = true → someA sA ∧ (0 : Int) ≤ n4 ∧
  n4 < (↑sN : Int) ∧ ∃ (n7 : Int), Cells H2 sA (Int.toNat n4 * 1) [.int .i64 n7] ∧ (decide (v = n7) = true → post n4 H2) ∧ (decide (v = n7) = false → rng .i64 (n4 + (1 : Int)) ∧ inv0 (n4 + (1
  : Int)) H2 ∧ m1 (n4 + (1 : Int)) < m1 n4)) ∧ (decide (n4 < (↑sN : Int)) = false → post (-1 : Int) H2)) := by kernel_rfl
theorem Index_int {H : Heap} {A : Option Addr} {n c : Nat} {l : List Int} {x : Int} (hs : Sl H A n c l) :
    ConT Try.prog 83 [.slice A n c, .int .i64 x] H shI (fun r _ => r = idxOf (fun y => decide (x = y)) 0 l) := by
  refine con_of_vc (an := an83) (fn := Try.f83) mix tabOK Try.func83 (by kernel_rfl) (extra := 0) ?_
  rw [vc83]
  refine ⟨fun n _ => 0 ≤ n ∧ n ≤ l.length ∧ idxOf (fun y => decide (x = y)) 0 l = idxOf (fun y => decide (x = y)) n (l.drop n.toNat), fun n => l.length - n.toNat, ⟨by omega, by omega, rfl⟩, ?_⟩
  rintro H2 hle i ⟨h0, h1, h2⟩
  simp only [decide_eq_true_eq, decide_eq_false_iff_not]
  refine ⟨fun hlt => ?_, fun hge => ?_⟩
  · obtain ⟨hi, hA, _, hc, rfl, -⟩ := hs.at hle h0 hlt
    refine ⟨hA, h0, hlt, _, hc, ?_⟩
    rw [drop_at h0 hi, idxOf] at h2
    refine ⟨fun hp => ?_, fun hp => ⟨?_, ⟨by omega, by omega, ?_⟩, by omega⟩⟩
    · rw [h2, if_pos (by simpa using hp)]
    · have := hs.bn; have := hs.len; simp only [rng]; omega
    · rw [h2, if_neg (by simpa using hp)]
  · rw [drop_end hge hs.len, idxOf] at h2
    exact h2.symm
def an82 : Ann where
  res := fun _ => none
  lend := fun | 7 => true | _ => false
  sch := fun _ => .done
  lt := fun _ => []
  tup := tups

theorem vc82 (P : Program) (H : Heap) (sA : Option Addr) (sN sC : Nat) (v : Int) (post : Bool → Heap → Prop) :
  vcFn P tab an82 Try.f82 [.slice sA sN sC, .int .i64 v] 0 H ⟨false, [(false, [.bool])]⟩ post =
  (  ∃ (post0 : Int → Heap → Prop), ConT P 83 [.slice sA sN sC, .int .i64 v] H ⟨false, [(false, [.int .i64])]⟩ post0 ∧ ∀ (H1 : Heap), Heap.le H H1 → ∀ (n3 : Int), post0 n3 H1 → post (decide ((0
  : Int) ≤ n3)) H1) := by kernel_rfl
theorem Contains_int {H : Heap} {A : Option Addr} {n c : Nat} {l : List Int} {x : Int} (hs : Sl H A n c l) :
    ConT Try.prog 82 [.slice A n c, .int .i64 x] H shB (fun r _ => r = l.contains x) := by
  refine con_of_vc (an := an82) (fn := Try.f82) mix tabOK Try.func82 (by kernel_rfl) (extra := 0) ?_
  rw [vc82]
  refine ⟨_, Index_int hs, ?_⟩
  rintro H1 _ r rfl
  have := idxOf_ge (fun y => decide (x = y)) l 0 (by omega)
  rw [Bool.eq_iff_iff, decide_eq_true_eq, this]
  simp only [List.any_eq_true, decide_eq_true_eq, List.contains_iff_mem]
  exact ⟨fun ⟨y, h, e⟩ => e ▸ h, fun h => ⟨x, h, rfl⟩⟩
def an61 : Ann where
  res := fun _ => none
  lend := fun _ => false
  sch := fun _ => .done
  lt := fun _ => []
  tup := tups

theorem vc61 (P : Program) (H : Heap) (sA : Option Addr) (sN sC : Nat) (post : Option Addr → Nat → Nat → Heap → Prop) :
  vcFn P tab an61 Try.f61 [.slice sA sN sC] 0 H ⟨false, [(false, [.sl])]⟩ post =
  (  (Option.isNone sA = true → post none 0 0 H) ∧ (Option.isNone sA = false → ∃ (ys2 : List Value), Cells H sA 0 ys2 ∧ List.length ys2 = sN * 3 ∧ (0 + sN) * 32 ≤ 140737488355328 ∧ ∀ (A3 :
  Option Addr) (c4 : Nat) (H5 : Heap), Heap.le H H5 → Cells H5 A3 0 ([] ++ ys2) → 0 + sN ≤ c4 → post A3 (0 + sN) c4 H5)) := by kernel_rfl
theorem Clone_Col {H : Heap} {A : Option Addr} {n c : Nat} {l : List Col} (hs : Sl H A n c l) :
    ConT Try.prog 61 [.slice A n c] H shS (fun A' n' c' H' => Sl H' A' n' c' l) := by
  refine con_of_vc (an := an61) (fn := Try.f61) mix tabOK Try.func61 (by kernel_rfl) (extra := 0) ?_
  rw [vc61]
  refine ⟨fun hA => ?_, fun hA => ?_⟩
  · have : n = 0 := by
      rcases Nat.eq_zero_or_pos n with h | h
      · exact h
      · obtain ⟨b, o, e⟩ := hs.someA h; simp [e] at hA
    subst this
    rw [List.eq_nil_of_length_eq_zero hs.len]; exact Sl.nil
  · obtain ⟨ys, h1, h2⟩ := hs.row
    refine ⟨ys, h1, by rw [h2.length, hs.len]; rfl, by have := hs.bnd; rw [Nat.zero_add]; exact this, fun A' c' H' hle hc hn => ?_⟩
    rw [Nat.zero_add] at hn ⊢
    exact h2.sl hle (by simpa using hc) hs.len hn hs.bnd hs.bn
def an80 : Ann where
  res := fun _ => none
  lend := fun _ => false
  sch := fun _ => .done
  lt := fun _ => []
  tup := tups

theorem vc80 (P : Program) (H : Heap) (sA : Option Addr) (sN sC : Nat) (post : Option Addr → Nat → Nat → Heap → Prop) :
  vcFn P tab an80 Try.f80 [.slice sA sN sC] 0 H ⟨false, [(false, [.sl])]⟩ post =
  (  (Option.isNone sA = true → post none 0 0 H) ∧ (Option.isNone sA = false → ∃ (ys2 : List Value), Cells H sA 0 ys2 ∧ List.length ys2 = sN * 1 ∧ (0 + sN) * 8 ≤ 140737488355328 ∧ ∀ (A3 : Option
  Addr) (c4 : Nat) (H5 : Heap), Heap.le H H5 → Cells H5 A3 0 ([] ++ ys2) → 0 + sN ≤ c4 → post A3 (0 + sN) c4 H5)) := by kernel_rfl
theorem Clone_int {H : Heap} {A : Option Addr} {n c : Nat} {l : List Int} (hs : Sl H A n c l) :
    ConT Try.prog 80 [.slice A n c] H shS (fun A' n' c' H' => Sl H' A' n' c' l) := by
  refine con_of_vc (an := an80) (fn := Try.f80) mix tabOK Try.func80 (by kernel_rfl) (extra := 0) ?_
  rw [vc80]
  refine ⟨fun hA => ?_, fun hA => ?_⟩
  · have : n = 0 := by
      rcases Nat.eq_zero_or_pos n with h | h
      · exact h
      · obtain ⟨b, o, e⟩ := hs.someA h; simp [e] at hA
    subst this
    rw [List.eq_nil_of_length_eq_zero hs.len]; exact Sl.nil
  · obtain ⟨ys, h1, h2⟩ := hs.row
    refine ⟨ys, h1, by rw [h2.length, hs.len]; rfl, by have := hs.bnd; rw [Nat.zero_add]; exact this, fun A' c' H' hle hc hn => ?_⟩
    rw [Nat.zero_add] at hn ⊢
    exact h2.sl hle (by simpa using hc) hs.len hn hs.bnd hs.bn

def columnKind (k : Int) : Bool := decide (k = 1) || decide (k = 2) || decide (k = 3)
def columnID (k : Int) : Bool := decide (1 ≤ k) && decide (k ≤ 12)
def columnName (s : ByteArray) : Bool := decide (s ≠ ⟨⟨[118, 102, 114, 111, 109]⟩⟩) && decide (s ≠ ⟨⟨[118, 116, 111]⟩⟩) && decide (s ≠ ⟨⟨[114, 102, 114, 111, 109]⟩⟩) && decide (s ≠ ⟨⟨[114, 116, 111]⟩⟩) && validName s
def perValid (p : Per) : Bool := decide (0 ≤ p.lo) && decide (p.lo < p.hi) && decide (p.hi ≤ 1099511627776)
def an59 : Ann where
  res := fun _ => none
  lend := fun _ => false
  sch := fun _ => .done
  lt := fun _ => []
  tup := tups

theorem vc59 (P : Program) (H : Heap) (k : Int) (post : Bool → Heap → Prop) :
  vcFn P tab an59 Try.f59 [.int .i64 k] 0 H ⟨false, [(false, [.bool])]⟩ post =
  (  (decide (k = (1 : Int)) = true → post true H) ∧ (decide (k = (1 : Int)) = false → (decide (k = (2 : Int)) = true → post true H) ∧ (decide (k = (2 : Int)) = false → post (decide (k = (3 :
  Int))) H))) := by kernel_rfl
theorem schema_columnKind {k : Int} {H : Heap} : ConT Try.prog 59 [.int .i64 k] H shB (fun b _ => b = columnKind k) := by
  refine con_of_vc (an := an59) (fn := Try.f59) mix tabOK Try.func59 (by kernel_rfl) (extra := 0) ?_
  rw [vc59]
  grind [columnKind]
def an77 : Ann where
  res := fun _ => none
  lend := fun _ => false
  sch := fun _ => .done
  lt := fun _ => []
  tup := tups

theorem vc77 (P : Program) (H : Heap) (id : Int) (post : Bool → Heap → Prop) :
  vcFn P tab an77 Try.f77 [.int .i64 id] 0 H ⟨false, [(false, [.bool])]⟩ post =
  (  (decide ((1 : Int) ≤ id) = true → post (decide (id ≤ (12 : Int))) H) ∧ (decide ((1 : Int) ≤ id) = false → post false H)) := by kernel_rfl
theorem schema_columnID {k : Int} {H : Heap} : ConT Try.prog 77 [.int .i64 k] H shB (fun b _ => b = columnID k) := by
  refine con_of_vc (an := an77) (fn := Try.f77) mix tabOK Try.func77 (by kernel_rfl) (extra := 0) ?_
  rw [vc77]
  grind [columnID]
def an58 : Ann where
  res := fun _ => none
  lend := fun | 10 => true | _ => false
  sch := fun _ => .done
  lt := fun _ => []
  tup := tups

theorem vc58 (P : Program) (H : Heap) (s : ByteArray) (post : Bool → Heap → Prop) :
  vcFn P tab an58 Try.f58 [.string s] 0 H ⟨false, [(false, [.bool])]⟩ post =
  (  (decide (s = { data := ⟨[(118 : UInt8), (102 : UInt8), (114 : UInt8), (111 : UInt8), (109 : UInt8)]⟩ }) = true → (decide (s = { data := ⟨[(118 : UInt8), (102 : UInt8), (114 : UInt8), (111 :
  UInt8), (109 : UInt8)]⟩ }) = true → post false H) ∧ (decide (s = { data := ⟨[(118 : UInt8), (102 : UInt8), (114 : UInt8), (111 : UInt8), (109 : UInt8)]⟩ }) = false → ∃ (post3 : Bool → Heap
  → Prop), ConT P 10 [.string s] H ⟨false, [(false, [.bool])]⟩ post3 ∧ ∀ (H4 : Heap), Heap.le H H4 → ∀ (b6 : Bool), post3 b6 H4 → post b6 H4)) ∧ (decide (s = { data := ⟨[(118 : UInt8), (102 :
  UInt8), (114 : UInt8), (111 : UInt8), (109 : UInt8)]⟩ }) = false → (decide (s = { data := ⟨[(118 : UInt8), (116 : UInt8), (111 : UInt8)]⟩ }) = true → (decide (s = { data := ⟨[(118 : UInt8),
  (116 : UInt8), (111 : UInt8)]⟩ }) = true → post false H) ∧ (decide (s = { data := ⟨[(118 : UInt8), (116 : UInt8), (111 : UInt8)]⟩ }) = false → ∃ (post12 : Bool → Heap → Prop), ConT P 10
  [.string s] H ⟨false, [(false, [.bool])]⟩ post12 ∧ ∀ (H13 : Heap), Heap.le H H13 → ∀ (b15 : Bool), post12 b15 H13 → post b15 H13)) ∧ (decide (s = { data := ⟨[(118 : UInt8), (116 : UInt8),
  (111 : UInt8)]⟩ }) = false → (decide (s = { data := ⟨[(114 : UInt8), (102 : UInt8), (114 : UInt8), (111 : UInt8), (109 : UInt8)]⟩ }) = true → (decide (s = { data := ⟨[(114 : UInt8), (102 :
  UInt8), (114 : UInt8), (111 : UInt8), (109 : UInt8)]⟩ }) = true → post false H) ∧ (decide (s = { data := ⟨[(114 : UInt8), (102 : UInt8), (114 : UInt8), (111 : UInt8), (109 : UInt8)]⟩ }) =
  false → ∃ (post21 : Bool → Heap → Prop), ConT P 10 [.string s] H ⟨false, [(false, [.bool])]⟩ post21 ∧ ∀ (H22 : Heap), Heap.le H H22 → ∀ (b24 : Bool), post21 b24 H22 → post b24 H22)) ∧
  (decide (s = { data := ⟨[(114 : UInt8), (102 : UInt8), (114 : UInt8), (111 : UInt8), (109 : UInt8)]⟩ }) = false → (decide (s = { data := ⟨[(114 : UInt8), (116 : UInt8), (111 : UInt8)]⟩ }) =
  true → post false H) ∧ (decide (s = { data := ⟨[(114 : UInt8), (116 : UInt8), (111 : UInt8)]⟩ }) = false → ∃ (post29 : Bool → Heap → Prop), ConT P 10 [.string s] H ⟨false, [(false,
  [.bool])]⟩ post29 ∧ ∀ (H30 : Heap), Heap.le H H30 → ∀ (b32 : Bool), post29 b32 H30 → post b32 H30))))) := by kernel_rfl
theorem schema_columnName {s : ByteArray} {H : Heap} : ConT Try.prog 58 [.string s] H shB (fun b _ => b = columnName s) := by
  refine con_of_vc (an := an58) (fn := Try.f58) mix tabOK Try.func58 (by kernel_rfl) (extra := 0) ?_
  rw [vc58]
  have key : ∀ {p q r t : Prop} [Decidable p] [Decidable q] [Decidable r] [Decidable t] {v : Bool}, decide p = false → decide q = false → decide r = false → decide t = false →
    v = (decide (¬ p) && decide (¬ q) && decide (¬ r) && decide (¬ t) && v) := by intro p q r t _ _ _ _ v h1 h2 h3 h4; simp_all
  refine ⟨fun h => ⟨fun _ => ?_, fun h' => absurd h (by rw [h']; exact Bool.false_ne_true)⟩, fun h1 => ⟨fun h => ⟨fun _ => ?_, fun h' => absurd h (by rw [h']; exact Bool.false_ne_true)⟩, fun h2 => ⟨fun h => ⟨fun _ => ?_, fun h' => absurd h (by rw [h']; exact Bool.false_ne_true)⟩, fun h3 => ⟨fun h => ?_, fun h4 => ⟨_, schema_ValidName, ?_⟩⟩⟩⟩⟩
  · rw [of_decide_eq_true h]; decide
  · rw [of_decide_eq_true h]; decide
  · rw [of_decide_eq_true h]; decide
  · rw [of_decide_eq_true h]; decide
  · rintro H' _ b rfl
    exact key h1 h2 h3 h4
def an74 : Ann where
  res := fun _ => none
  lend := fun _ => false
  sch := fun _ => .done
  lt := fun _ => []
  tup := tups

theorem vc74 (P : Program) (H : Heap) (pFrom : Int) (pTo : Int) (post : Bool → Heap → Prop) :
  vcFn P tab an74 Try.f74 [.agg #[.int .i64 pFrom, .int .i64 pTo]] 0 H ⟨false, [(false, [.bool])]⟩ post =
  (  (decide ((0 : Int) ≤ pFrom) = true → (decide (pFrom < pTo) = true → post (decide (pTo ≤ (1099511627776 : Int))) H) ∧ (decide (pFrom < pTo) = false → post false H)) ∧ (decide ((0 : Int) ≤
  pFrom) = false → post false H)) := by kernel_rfl
theorem period_Valid {a b : Int} {H : Heap} : ConT Try.prog 74 [.agg ⟨[.int .i64 a, .int .i64 b]⟩] H shB (fun r _ => r = perValid ⟨a, b⟩) := by
  refine con_of_vc (an := an74) (fn := Try.f74) mix tabOK Try.func74 (by kernel_rfl) (extra := 0) ?_
  rw [vc74]
  grind [perValid]
def an81 : Ann where
  res := fun _ => none
  lend := fun _ => false
  sch := fun _ => .done
  lt := fun _ => []
  tup := tups

theorem vc81 (P : Program) (H : Heap) (cID : Int) (cName : ByteArray) (cKind : Int) (free0B : Nat) (post : Bool → Heap → Prop) :
  vcFn P tab an81 Try.f81 [.agg #[.int .i64 cID, .string cName, .int .i64 cKind], .pointer (some ⟨free0B, 0, none⟩)] 0 H ⟨false, [(false, [.bool])]⟩ post =
  (  ∃ (n0 : Int), Cells H (some ⟨free0B, 0, none⟩) 0 [.int .i64 n0] ∧ post (decide (cID = n0)) H) := by kernel_rfl
theorem schema_find1 {H : Heap} {c : Col} {g : Nat} {x : Int} (h : Cells H (some ⟨g, 0, none⟩) 0 [.int .i64 x]) :
    ConT Try.prog 81 [.agg ⟨[.int .i64 c.id, .string c.name, .int .i64 c.kind]⟩, .pointer (some ⟨g, 0, none⟩)] H shB (fun b _ => b = decide (c.id = x)) := by
  refine con_of_vc (an := an81) (fn := Try.f81) mix tabOK Try.func81 (by kernel_rfl) (extra := 0) ?_
  rw [vc81]
  exact ⟨_, h, rfl⟩
def an41 : Ann where
  res := fun _ => none
  lend := fun _ => false
  sch := fun _ => .done
  lt := fun _ => []
  tup := tups

theorem vc41 (P : Program) (H : Heap) (cID : Int) (cName : ByteArray) (cKind : Int) (free0B : Nat) (post : Bool → Heap → Prop) :
  vcFn P tab an41 Try.f41 [.agg #[.int .i64 cID, .string cName, .int .i64 cKind], .pointer (some ⟨free0B, 0, none⟩)] 0 H ⟨false, [(false, [.bool])]⟩ post =
  (  ∃ (s0 : ByteArray), Cells H (some ⟨free0B, 0, none⟩) 0 [.string s0] ∧ post (decide (cName = s0)) H) := by kernel_rfl
theorem schema_Index1 {H : Heap} {c : Col} {g : Nat} {x : ByteArray} (h : Cells H (some ⟨g, 0, none⟩) 0 [.string x]) :
    ConT Try.prog 41 [.agg ⟨[.int .i64 c.id, .string c.name, .int .i64 c.kind]⟩, .pointer (some ⟨g, 0, none⟩)] H shB (fun b _ => b = decide (c.name = x)) := by
  refine con_of_vc (an := an41) (fn := Try.f41) mix tabOK Try.func41 (by kernel_rfl) (extra := 0) ?_
  rw [vc41]
  exact ⟨_, h, rfl⟩
def an76 : Ann where
  res := fun _ => none
  lend := fun _ => false
  sch := fun _ => .done
  lt := fun _ => []
  tup := tups

theorem vc76 (P : Program) (H : Heap) (otherID : Int) (otherName : ByteArray) (otherKind : Int) (free0B : Nat) (post : Bool → Heap → Prop) :
  vcFn P tab an76 Try.f76 [.agg #[.int .i64 otherID, .string otherName, .int .i64 otherKind], .pointer (some ⟨free0B, 0, none⟩)] 0 H ⟨false, [(false, [.bool])]⟩ post =
  (  ∃ (s0 : ByteArray), Cells H (some ⟨free0B, 0, none⟩) (0 + 1) [.string s0] ∧ post (decide (otherName = s0)) H) := by kernel_rfl
theorem schema_validColumns1 {H : Heap} {c : Col} {g : Nat} {x : ByteArray} {i k : Int} (h : Cells H (some ⟨g, 0, none⟩) 0 [.int .i64 i, .string x, .int .i64 k]) :
    ConT Try.prog 76 [.agg ⟨[.int .i64 c.id, .string c.name, .int .i64 c.kind]⟩, .pointer (some ⟨g, 0, none⟩)] H shB (fun b _ => b = decide (c.name = x)) := by
  refine con_of_vc (an := an76) (fn := Try.f76) mix tabOK Try.func76 (by kernel_rfl) (extra := 0) ?_
  rw [vc76]
  exact ⟨_, h.at1 (k := 1) rfl, rfl⟩
def an65 : Ann where
  res := fun _ => none
  lend := fun | 8 => true | _ => false
  sch := fun _ => .done
  lt := fun _ => []
  tup := tups

theorem vc65 (P : Program) (H : Heap) (vRecordedFrom : Int) (vRecordedTo : Int) (vColumnsA : Option Addr) (vColumnsN vColumnsC : Nat) (id : Int) (post : Int → Heap → Prop) :
  vcFn P tab an65 Try.f65 [.agg #[.int .i64 vRecordedFrom, .int .i64 vRecordedTo, .slice vColumnsA vColumnsN vColumnsC], .int .i64 id] 0 H ⟨false, [(false, [.int .i64])]⟩ post =
  (  ∃ (post0 : Int → Heap → Prop), (∀ (g1 : Nat) (H2 : Heap), Heap.le H H2 → Cells H2 (some ⟨g1, 0, none⟩) 0 [.int .i64 id] → ConT P 40 [.slice vColumnsA vColumnsN vColumnsC, .func (.func 81)
  ⟨[]⟩ ⟨[.pointer (some ⟨g1, 0, none⟩)]⟩] H2 ⟨false, [(false, [.int .i64])]⟩ post0) ∧ ∀ (H5 : Heap) (n6 : Int), post0 n6 H5 → post n6 H) := by kernel_rfl
theorem schema_find {H : Heap} {a b : Int} {A : Option Addr} {n c : Nat} {l : List Col} {x : Int} (hs : Sl H A n c l) :
    ConT Try.prog 65 [.agg ⟨[.int .i64 a, .int .i64 b, .slice A n c]⟩, .int .i64 x] H shI (fun r _ => r = idxOf (fun c => decide (c.id = x)) 0 l) := by
  refine con_of_vc (an := an65) (fn := Try.f65) mix tabOK Try.func65 (by kernel_rfl) (extra := 0) ?_
  rw [vc65]
  refine ⟨_, fun g H2 hle hc => IndexFunc_Col (hs.mono hle) fun H3 c hle' => schema_find1 (hc.mono hle'), ?_⟩
  rintro H5 r rfl
  rfl
def an15 : Ann where
  res := fun _ => none
  lend := fun | 8 => true | _ => false
  sch := fun _ => .done
  lt := fun _ => []
  tup := tups

theorem vc15 (P : Program) (H : Heap) (vRecordedFrom : Int) (vRecordedTo : Int) (vColumnsA : Option Addr) (vColumnsN vColumnsC : Nat) (name : ByteArray) (post : Int → Heap → Prop) :
  vcFn P tab an15 Try.f15 [.agg #[.int .i64 vRecordedFrom, .int .i64 vRecordedTo, .slice vColumnsA vColumnsN vColumnsC], .string name] 0 H ⟨false, [(false, [.int .i64])]⟩ post =
  (  ∃ (post0 : Int → Heap → Prop), (∀ (g1 : Nat) (H2 : Heap), Heap.le H H2 → Cells H2 (some ⟨g1, 0, none⟩) 0 [.string name] → ConT P 40 [.slice vColumnsA vColumnsN vColumnsC, .func (.func 41)
  ⟨[]⟩ ⟨[.pointer (some ⟨g1, 0, none⟩)]⟩] H2 ⟨false, [(false, [.int .i64])]⟩ post0) ∧ ∀ (H5 : Heap) (n6 : Int), post0 n6 H5 → post n6 H) := by kernel_rfl
theorem schema_Index {H : Heap} {a b : Int} {A : Option Addr} {n c : Nat} {l : List Col} {x : ByteArray} (hs : Sl H A n c l) :
    ConT Try.prog 15 [.agg ⟨[.int .i64 a, .int .i64 b, .slice A n c]⟩, .string x] H shI (fun r _ => r = idxOf (fun c => decide (c.name = x)) 0 l) := by
  refine con_of_vc (an := an15) (fn := Try.f15) mix tabOK Try.func15 (by kernel_rfl) (extra := 0) ?_
  rw [vc15]
  refine ⟨_, fun g H2 hle hc => IndexFunc_Col (hs.mono hle) fun H3 c hle' => schema_Index1 (hc.mono hle'), ?_⟩
  rintro H5 r rfl
  rfl
end Go.Vc
