/- Rows of a version written as stored rows; read again they are what they were. -/
import Derived.Test.YthbapbapcnafhaaV1
set_option linter.unusedSectionVars false
set_option linter.unusedSimpArgs false
set_option linter.unusedVariables false
namespace Go.Vc
open Go Go.Proofs
def expGo : List Val → List Col → List Val → Option (List Val)
  | o, [], _ => some o
  | o, _ :: _, [] => some o
  | o, c :: cs, v :: vs => if valValid v = true ∧ (v.kind = 0 ∨ v.kind = c.kind) then expGo (o.set (c.id - 1).toNat v) cs vs else none
def badID (w : Int) (c : Col) : Bool := decide (c.id < 1) || decide (w < c.id)
def expand (cols : List Col) (vals : List Val) (w : Int) : List Val × Int :=
  if vals.length ≠ cols.length ∨ 12 < w then ([], 1) else if cols.any (badID w) = true then ([], 1)
  else match expGo (List.replicate w.toNat val0) cols vals with
    | none => ([], 7)
    | some o => (o, 0)
def an22 : Ann where
  res := fun _ => none
  lend := fun | 57 => true | _ => false
  sch := fun | 16 => (tk [0, 1, 2, 3, 4, 5, 6, 7] (.alt 8 (.alt 9 .done .fin) .fin)) | _ => .done
  lt := fun | 4 => [.slot 27 false [.int .i64]] | 11 => [.slot 10 false [.row 82 91], .slot 47 false [.int .i64]] | _ => []
  tup := tups

theorem vc22 (P : Program) (H : Heap) (vRecordedFrom : Int) (vRecordedTo : Int) (vColumnsA : Option Addr) (vColumnsN vColumnsC : Nat) (p1A : Option Addr) (p1N p1C : Nat) (p2 : Int) (post : Option Addr → Nat → Nat → Int → Heap → Prop) :
  vcFn P tab an22 Try.f22 [.agg #[.int .i64 vRecordedFrom, .int .i64 vRecordedTo, .slice vColumnsA vColumnsN vColumnsC], .slice p1A p1N p1C, .int .i64 p2] 1 H ⟨true, [(false, [.sl]), (false, [.int .i64])]⟩ post =
  (  ((!decide ((↑p1N : Int) = (↑vColumnsN : Int))) = true → post none 0 0 (1 : Int) H) ∧ ((!decide ((↑p1N : Int) = (↑vColumnsN : Int))) = false → (decide ((12 : Int) < p2) = true → post none 0
  0 (1 : Int) H) ∧ (decide ((12 : Int) < p2) = false → ∃ (inv4 : Int → Heap → Prop), ∃ (m5 : Int → Nat), inv4 (0 : Int) H ∧ ∀ (H6 : Heap), Heap.le H H6 → ∀ (n8 : Int), inv4 n8 H6 → (decide
  (n8 < (↑vColumnsN : Int)) = true → someA vColumnsA ∧ (0 : Int) ≤ n8 ∧ n8 < (↑vColumnsN : Int) ∧ ∃ (n11 : Int), ∃ (s12 : ByteArray), ∃ (n13 : Int), Cells H6 vColumnsA (Int.toNat n8 * 3)
  [.int .i64 n11, .string s12, .int .i64 n13] ∧ (decide (n11 < (1 : Int)) = true → post none 0 0 (1 : Int) H6) ∧ (decide (n11 < (1 : Int)) = false → (decide (p2 < n11) = true → post none 0 0
  (1 : Int) H6) ∧ (decide (p2 < n11) = false → rng .i64 (n8 + (1 : Int)) ∧ inv4 (n8 + (1 : Int)) H6 ∧ m5 (n8 + (1 : Int)) < m5 n8))) ∧ (decide (n8 < (↑vColumnsN : Int)) = false → max p2 (0 :
  Int) = max p2 (0 : Int) ∧ (0 : Int) ≤ max p2 (0 : Int) ∧ max p2 (0 : Int) * (↑32 : Int) ≤ (140737488355328 : Int) ∧ ∀ (xs19 : List Value), xs19 = repl [.int .i64 (0 : Int), .int .i64 (0 :
  Int), .string ⟨⟨[]⟩⟩] (Int.toNat (max p2 (0 : Int))) → ∃ (inv21 : Nat → List Value → Int → Heap → Prop), ∃ (m22 : Nat → List Value → Int → Nat), inv21 (Int.toNat (max p2 (0 : Int))) xs19 (0
  : Int) H6 ∧ ∀ (H23 : Heap), Heap.le H6 H23 → ∀ (n25 : Nat) (xs26 : List Value) (n27 : Int), inv21 n25 xs26 n27 H23 → (decide (n27 < (↑vColumnsN : Int)) = true → someA vColumnsA ∧ (0 : Int)
  ≤ n27 ∧ n27 < (↑vColumnsN : Int) ∧ ∃ (n30 : Int), ∃ (s31 : ByteArray), ∃ (n32 : Int), Cells H23 vColumnsA (Int.toNat n27 * 3) [.int .i64 n30, .string s31, .int .i64 n32] ∧ someA p1A ∧ (0 :
  Int) ≤ n27 ∧ n27 < (↑p1N : Int) ∧ ∃ (n33 : Int), ∃ (n34 : Int), ∃ (s35 : ByteArray), Cells H23 p1A (Int.toNat n27 * 3) [.int .i64 n33, .int .i64 n34, .string s35] ∧ ∃ (post36 : Bool → Heap
  → Prop), ConT P 53 [.agg ⟨[.int .i64 n33, .int .i64 n34, .string s35]⟩] H23 ⟨false, [(false, [.bool])]⟩ post36 ∧ ∀ (H37 : Heap), Heap.le H23 H37 → ∀ (b39 : Bool), post36 b39 H37 → ((!b39) =
  true → post none 0 0 (7 : Int) H37) ∧ ((!b39) = false → ((!decide (n33 = (0 : Int))) = true → ((!decide (n33 = n32)) = true → post none 0 0 (7 : Int) H37) ∧ ((!decide (n33 = n32)) = false →
  rng .i64 (n30 - (1 : Int)) ∧ someA p1A ∧ (0 : Int) ≤ n27 ∧ n27 < (↑p1N : Int) ∧ ∃ (n46 : Int), ∃ (n47 : Int), ∃ (s48 : ByteArray), Cells H37 p1A (Int.toNat n27 * 3) [.int .i64 n46, .int
  .i64 n47, .string s48] ∧ (0 : Int) ≤ n30 - (1 : Int) ∧ n30 - (1 : Int) < (↑n25 : Int) ∧ Int.toNat (n30 - (1 : Int)) * 3 + 3 ≤ List.length xs26 ∧ rng .i64 (n27 + (1 : Int)) ∧ inv21 n25
  (splice xs26 (Int.toNat (n30 - (1 : Int)) * 3) [.int .i64 n46, .int .i64 n47, .string s48]) (n27 + (1 : Int)) H37 ∧ m22 n25 (splice xs26 (Int.toNat (n30 - (1 : Int)) * 3) [.int .i64 n46,
  .int .i64 n47, .string s48]) (n27 + (1 : Int)) < m22 n25 xs26 n27)) ∧ ((!decide (n33 = (0 : Int))) = false → rng .i64 (n30 - (1 : Int)) ∧ someA p1A ∧ (0 : Int) ≤ n27 ∧ n27 < (↑p1N : Int) ∧
  ∃ (n50 : Int), ∃ (n51 : Int), ∃ (s52 : ByteArray), Cells H37 p1A (Int.toNat n27 * 3) [.int .i64 n50, .int .i64 n51, .string s52] ∧ (0 : Int) ≤ n30 - (1 : Int) ∧ n30 - (1 : Int) < (↑n25 :
  Int) ∧ Int.toNat (n30 - (1 : Int)) * 3 + 3 ≤ List.length xs26 ∧ rng .i64 (n27 + (1 : Int)) ∧ inv21 n25 (splice xs26 (Int.toNat (n30 - (1 : Int)) * 3) [.int .i64 n50, .int .i64 n51, .string
  s52]) (n27 + (1 : Int)) H37 ∧ m22 n25 (splice xs26 (Int.toNat (n30 - (1 : Int)) * 3) [.int .i64 n50, .int .i64 n51, .string s52]) (n27 + (1 : Int)) < m22 n25 xs26 n27))) ∧ (decide (n27 <
  (↑vColumnsN : Int)) = false → ∀ (A54 : Option Addr) (c55 : Nat) (H56 : Heap), Heap.le H23 H56 → Cells H56 A54 0 xs26 → n25 ≤ c55 → post A54 n25 c55 (0 : Int) H56))))) := by kernel_rfl
set_option maxHeartbeats 1000000 in
theorem schema_Expand {H : Heap} {a b w : Int} {A B : Option Addr} {n c m d : Nat} {cols : List Col} {vals : List Val} (hs : Sl H A n c cols) (ht : Sl H B m d vals) :
    ConT Try.prog 22 [.agg ⟨[.int .i64 a, .int .i64 b, .slice A n c]⟩, .slice B m d, .int .i64 w] H ⟨true, [(false, [.sl]), (false, [.int .i64])]⟩ (fun A' n' c' r H' => Sl H' A' n' c' (expand cols vals w).1 ∧ r = (expand cols vals w).2) := by
  refine con_of_vc (an := an22) (fn := Try.f22) mix tabOK Try.func22 (by kernel_rfl) (extra := 1) ?_
  rw [vc22]
  have b1 := hs.bn; have b2 := hs.len; have c1 := ht.bn; have c2 := ht.len
  unfold expand
  refine ⟨fun h => ?_, fun h => ⟨fun h' => ?_, fun h' => ?_⟩⟩
  · have h : ¬ (m : Int) = n := by simpa using h
    rw [if_pos (.inl (by omega))]; exact ⟨Sl.nil, rfl⟩
  · rw [if_pos (.inr (of_decide_eq_true h'))]; exact ⟨Sl.nil, rfl⟩
  have h : (m : Int) = n := by simpa using h
  have h' := of_decide_eq_false h'
  rw [if_neg (by omega)]
  refine ⟨fun i _ => 0 ≤ i ∧ i ≤ n ∧ cols.any (badID w) = (cols.drop i.toNat).any (badID w), fun i => n - i.toNat, ⟨by omega, by omega, rfl⟩, ?_⟩
  rintro H2 L2 i ⟨i0, i1, g2⟩
  refine ⟨fun hlt => ?_, fun hge => ?_⟩
  · have hlt := of_decide_eq_true hlt
    obtain ⟨hi, hA, _, hc, rfl, q1, q2, q3⟩ := hs.at L2 i0 hlt
    rw [drop_at i0 hi, List.any_cons] at g2
    refine ⟨hA, i0, hlt, _, _, _, hc, fun h1 => ?_, fun h1 => ⟨fun h2 => ?_, fun h2 => ⟨by simp only [rng]; omega, ⟨by omega, by omega, ?_⟩, by dsimp only; omega⟩⟩⟩
    · rw [if_pos (by rw [g2, badID, h1]; rfl)]; exact ⟨Sl.nil, rfl⟩
    · rw [if_pos (by rw [g2, badID, h2]; simp)]; exact ⟨Sl.nil, rfl⟩
    · rw [g2, badID, h1, h2]; rfl
  rw [drop_end (of_decide_eq_false hge) b2, List.any_nil] at g2
  rw [if_neg (by simp [g2])]
  have hid : ∀ c ∈ cols, 1 ≤ c.id ∧ c.id ≤ w := fun c hc => by
    have := List.any_eq_false.1 g2 c hc
    simp [badID] at this; omega
  have ew : Int.toNat (max w 0) = w.toNat := by omega
  refine ⟨rfl, by omega, by have : max w 0 ≤ 12 := by omega
                            omega, ?_⟩
  rintro _ rfl
  rw [ew]
  refine ⟨fun n' xs i H' => 0 ≤ i ∧ i ≤ n ∧ n' = w.toNat ∧ ∃ o, Row H' xs o ∧ o.length = w.toNat ∧ expGo (List.replicate w.toNat val0) cols vals = expGo o (cols.drop i.toNat) (vals.drop i.toNat), fun _ _ i => n - i.toNat,
    ⟨by omega, by omega, rfl, _, Row.zeros rep_val0 _, by simp, rfl⟩, ?_⟩
  rintro H3 l3 n' xs i ⟨i0, i1, hn', o, hr, ho, g3⟩
  obtain rfl : w.toNat = n' := hn'.symm
  have L3 := hle_trans L2 l3
  have hxl : xs.length = w.toNat * 3 := by rw [hr.length, ho]; rfl
  refine ⟨fun hlt => ?_, fun hge => ?_⟩
  · have hlt := of_decide_eq_true hlt
    obtain ⟨hi, hA, _, hc, rfl, q1, q2, q3⟩ := hs.at L3 i0 hlt
    obtain ⟨ki, kA, _, kc, rfl, p1, p2, p3⟩ := ht.at L3 (i := i) i0 (by omega)
    have hidc := hid _ (List.getElem_mem hi)
    rw [drop_at i0 hi, drop_at i0 ki, expGo] at g3
    refine ⟨hA, i0, hlt, _, _, _, hc, kA, i0, by omega, _, _, _, kc, _, value_Valid, ?_⟩
    rintro H4 l4 _ rfl
    have step : valValid vals[i.toNat] = true → (vals[i.toNat].kind = 0 ∨ vals[i.toNat].kind = cols[i.toNat].kind) → rng .i64 (cols[i.toNat].id - 1) ∧ someA B ∧ 0 ≤ i ∧ i < (m : Int) ∧ ∃ n46 n47 s48, Cells H4 B (Int.toNat i * 3) [.int .i64 n46, .int .i64 n47, .string s48] ∧ 0 ≤ cols[i.toNat].id - 1 ∧ cols[i.toNat].id - 1 < (w.toNat : Int) ∧
        Int.toNat (cols[i.toNat].id - 1) * 3 + 3 ≤ xs.length ∧ rng .i64 (i + 1) ∧ (0 ≤ i + 1 ∧ i + 1 ≤ n ∧ w.toNat = w.toNat ∧ ∃ o, Row H4 (splice xs (Int.toNat (cols[i.toNat].id - 1) * 3) [.int .i64 n46, .int .i64 n47, .string s48]) o ∧ o.length = w.toNat ∧
          expGo (List.replicate w.toNat val0) cols vals = expGo o (cols.drop (i + 1).toNat) (vals.drop (i + 1).toNat)) ∧ n - (i + 1).toNat < n - i.toNat := by
      intro hv hk
      rw [if_pos ⟨hv, hk⟩] at g3
      exact ⟨by simp only [rng]; omega, kA, i0, by omega, _, _, _, kc.mono l4, by omega, by omega, by omega, by simp only [rng]; omega, ⟨by omega, by omega, rfl, _, (hr.mono l4).setw (i := (cols[i.toNat].id - 1).toNat) (by omega) (t := vals[i.toNat]) ⟨rfl, p1, p2, p3⟩, by simpa using ho, g3⟩, by omega⟩
    refine ⟨fun hf => ?_, fun hv => ?_⟩
    · simp only [Bool.not_eq_true'] at hf
      rw [if_neg (fun hh => by have := hh.1; rw [show valValid vals[i.toNat] = false from hf] at this; simp at this)] at g3
      rw [g3]; exact ⟨Sl.nil, rfl⟩
    simp only [Bool.not_eq_false'] at hv
    refine ⟨fun h0 => ⟨fun h1 => ?_, fun h1 => step hv (.inr (by simpa using h1))⟩, fun h0 => step hv (.inl (by simpa using h0))⟩
    have h0 : ¬ vals[i.toNat].kind = 0 := by simpa using h0
    have h1 : ¬ vals[i.toNat].kind = cols[i.toNat].kind := by simpa using h1
    rw [if_neg (fun hh => by rcases hh.2 with h | h <;> contradiction)] at g3
    rw [g3]; exact ⟨Sl.nil, rfl⟩
  · rw [drop_end (of_decide_eq_false hge) b2, expGo] at g3
    rw [g3]
    intro A' c' H' l' g' hc'
    exact ⟨hr.sl l' g' ho hc' (by show _ * 32 ≤ _; omega) (by omega), rfl⟩
def an23 : Ann where
  res := fun _ => none
  lend := fun | 59 => true | _ => false
  sch := fun | 12 => (tk [0, 1, 2, 3] (.alt 4 (tk [5, 6, 7, 8, 9, 10, 11, 12, 13, 14, 15, 16, 17, 18, 19, 20, 21, 22, 23, 24, 25, 26, 27] .done) .fin)) | 14 => (tk [0, 1, 2, 3, 4, 5, 6, 7, 8, 9, 10, 11] (.alt 12 (.alt 13 .done .fin) .fin)) | _ => .done
  lt := fun | 4 => [.slot 8 false [.int .i64]] | 10 => [.slot 9 false [.row 97 91], .slot 10 false [.int .i64]] | _ => []
  tup := tups

theorem vc23 (P : Program) (H : Heap) (vRecordedFrom : Int) (vRecordedTo : Int) (vColumnsA : Option Addr) (vColumnsN vColumnsC : Nat) (p1A : Option Addr) (p1N p1C : Nat) (p2 : Int) (post : Option Addr → Nat → Nat → Int → Heap → Prop) :
  vcFn P tab an23 Try.f23 [.agg #[.int .i64 vRecordedFrom, .int .i64 vRecordedTo, .slice vColumnsA vColumnsN vColumnsC], .slice p1A p1N p1C, .int .i64 p2] 1 H ⟨true, [(false, [.sl]), (false, [.int .i64])]⟩ post =
  (  ((!decide ((↑p1N : Int) = (↑vColumnsN : Int))) = true → post none 0 0 (1 : Int) H) ∧ ((!decide ((↑p1N : Int) = (↑vColumnsN : Int))) = false → (decide ((12 : Int) < p2) = true → post none 0
  0 (1 : Int) H) ∧ (decide ((12 : Int) < p2) = false → ∃ (inv4 : Int → Heap → Prop), ∃ (m5 : Int → Nat), inv4 (0 : Int) H ∧ ∀ (H6 : Heap), Heap.le H H6 → ∀ (n8 : Int), inv4 n8 H6 → (decide
  (n8 < (↑vColumnsN : Int)) = true → someA vColumnsA ∧ (0 : Int) ≤ n8 ∧ n8 < (↑vColumnsN : Int) ∧ ∃ (n11 : Int), Cells H6 vColumnsA (Int.toNat n8 * 3 + 0) [.int .i64 n11] ∧ (decide (n11 < (1
  : Int)) = true → post none 0 0 (1 : Int) H6) ∧ (decide (n11 < (1 : Int)) = false → someA vColumnsA ∧ (0 : Int) ≤ n8 ∧ n8 < (↑vColumnsN : Int) ∧ ∃ (n14 : Int), Cells H6 vColumnsA (Int.toNat
  n8 * 3 + 0) [.int .i64 n14] ∧ (decide (p2 < n14) = true → post none 0 0 (1 : Int) H6) ∧ (decide (p2 < n14) = false → rng .i64 (n8 + (1 : Int)) ∧ inv4 (n8 + (1 : Int)) H6 ∧ m5 (n8 + (1 :
  Int)) < m5 n8))) ∧ (decide (n8 < (↑vColumnsN : Int)) = false → max p2 (0 : Int) = max p2 (0 : Int) ∧ (0 : Int) ≤ max p2 (0 : Int) ∧ max p2 (0 : Int) * (↑32 : Int) ≤ (140737488355328 : Int)
  ∧ ∀ (xs18 : List Value), xs18 = repl [.int .i64 (0 : Int), .int .i64 (0 : Int), .string ⟨⟨[]⟩⟩] (Int.toNat (max p2 (0 : Int))) → ∃ (inv20 : Nat → List Value → Int → Heap → Prop), ∃ (m21 :
  Nat → List Value → Int → Nat), inv20 (Int.toNat (max p2 (0 : Int))) xs18 (0 : Int) H6 ∧ ∀ (H22 : Heap), Heap.le H6 H22 → ∀ (n24 : Nat) (xs25 : List Value) (n26 : Int), inv20 n24 xs25 n26
  H22 → (decide (n26 < (↑vColumnsN : Int)) = true → someA p1A ∧ (0 : Int) ≤ n26 ∧ n26 < (↑p1N : Int) ∧ ∃ (n29 : Int), ∃ (n30 : Int), ∃ (s31 : ByteArray), Cells H22 p1A (Int.toNat n26 * 3)
  [.int .i64 n29, .int .i64 n30, .string s31] ∧ ∃ (post32 : Bool → Heap → Prop), ConT P 54 [.agg ⟨[.int .i64 n29, .int .i64 n30, .string s31]⟩] H22 ⟨false, [(false, [.bool])]⟩ post32 ∧ ∀ (H33
  : Heap), Heap.le H22 H33 → ∀ (b35 : Bool), post32 b35 H33 → ((!b35) = true → post none 0 0 (7 : Int) H33) ∧ ((!b35) = false → someA p1A ∧ (0 : Int) ≤ n26 ∧ n26 < (↑p1N : Int) ∧ ∃ (n39 :
  Int), Cells H33 p1A (Int.toNat n26 * 3 + 0) [.int .i64 n39] ∧ ((!decide (n39 = (0 : Int))) = true → someA p1A ∧ (0 : Int) ≤ n26 ∧ n26 < (↑p1N : Int) ∧ ∃ (n41 : Int), Cells H33 p1A
  (Int.toNat n26 * 3 + 0) [.int .i64 n41] ∧ someA vColumnsA ∧ (0 : Int) ≤ n26 ∧ n26 < (↑vColumnsN : Int) ∧ ∃ (n42 : Int), Cells H33 vColumnsA (Int.toNat n26 * 3 + 2) [.int .i64 n42] ∧
  ((!decide (n41 = n42)) = true → post none 0 0 (7 : Int) H33) ∧ ((!decide (n41 = n42)) = false → someA vColumnsA ∧ (0 : Int) ≤ n26 ∧ n26 < (↑vColumnsN : Int) ∧ ∃ (n45 : Int), Cells H33
  vColumnsA (Int.toNat n26 * 3 + 0) [.int .i64 n45] ∧ rng .i64 (n45 - (1 : Int)) ∧ someA p1A ∧ (0 : Int) ≤ n26 ∧ n26 < (↑p1N : Int) ∧ ∃ (n46 : Int), ∃ (n47 : Int), ∃ (s48 : ByteArray), Cells
  H33 p1A (Int.toNat n26 * 3) [.int .i64 n46, .int .i64 n47, .string s48] ∧ (0 : Int) ≤ n45 - (1 : Int) ∧ n45 - (1 : Int) < (↑n24 : Int) ∧ Int.toNat (n45 - (1 : Int)) * 3 + 3 ≤ List.length
  xs25 ∧ rng .i64 (n26 + (1 : Int)) ∧ inv20 n24 (splice xs25 (Int.toNat (n45 - (1 : Int)) * 3) [.int .i64 n46, .int .i64 n47, .string s48]) (n26 + (1 : Int)) H33 ∧ m21 n24 (splice xs25
  (Int.toNat (n45 - (1 : Int)) * 3) [.int .i64 n46, .int .i64 n47, .string s48]) (n26 + (1 : Int)) < m21 n24 xs25 n26)) ∧ ((!decide (n39 = (0 : Int))) = false → someA vColumnsA ∧ (0 : Int) ≤
  n26 ∧ n26 < (↑vColumnsN : Int) ∧ ∃ (n50 : Int), Cells H33 vColumnsA (Int.toNat n26 * 3 + 0) [.int .i64 n50] ∧ rng .i64 (n50 - (1 : Int)) ∧ someA p1A ∧ (0 : Int) ≤ n26 ∧ n26 < (↑p1N : Int) ∧
  ∃ (n51 : Int), ∃ (n52 : Int), ∃ (s53 : ByteArray), Cells H33 p1A (Int.toNat n26 * 3) [.int .i64 n51, .int .i64 n52, .string s53] ∧ (0 : Int) ≤ n50 - (1 : Int) ∧ n50 - (1 : Int) < (↑n24 :
  Int) ∧ Int.toNat (n50 - (1 : Int)) * 3 + 3 ≤ List.length xs25 ∧ rng .i64 (n26 + (1 : Int)) ∧ inv20 n24 (splice xs25 (Int.toNat (n50 - (1 : Int)) * 3) [.int .i64 n51, .int .i64 n52, .string
  s53]) (n26 + (1 : Int)) H33 ∧ m21 n24 (splice xs25 (Int.toNat (n50 - (1 : Int)) * 3) [.int .i64 n51, .int .i64 n52, .string s53]) (n26 + (1 : Int)) < m21 n24 xs25 n26))) ∧ (decide (n26 <
  (↑vColumnsN : Int)) = false → ∀ (A55 : Option Addr) (c56 : Nat) (H57 : Heap), Heap.le H22 H57 → Cells H57 A55 0 xs25 → n24 ≤ c56 → post A55 n24 c56 (0 : Int) H57))))) := by kernel_rfl
set_option maxHeartbeats 1000000 in
theorem ref21_Expand {H : Heap} {a b w : Int} {A B : Option Addr} {n c m d : Nat} {cols : List Col} {vals : List Val} (hs : Sl H A n c cols) (ht : Sl H B m d vals) :
    ConT Try.prog 23 [.agg ⟨[.int .i64 a, .int .i64 b, .slice A n c]⟩, .slice B m d, .int .i64 w] H ⟨true, [(false, [.sl]), (false, [.int .i64])]⟩ (fun A' n' c' r H' => Sl H' A' n' c' (expand cols vals w).1 ∧ r = (expand cols vals w).2) := by
  refine con_of_vc (an := an23) (fn := Try.f23) mix tabOK Try.func23 (by kernel_rfl) (extra := 1) ?_
  rw [vc23]
  have b1 := hs.bn; have b2 := hs.len; have c1 := ht.bn; have c2 := ht.len
  unfold expand
  refine ⟨fun h => ?_, fun h => ⟨fun h' => ?_, fun h' => ?_⟩⟩
  · have h : ¬ (m : Int) = n := by simpa using h
    rw [if_pos (.inl (by omega))]; exact ⟨Sl.nil, rfl⟩
  · rw [if_pos (.inr (of_decide_eq_true h'))]; exact ⟨Sl.nil, rfl⟩
  have h : (m : Int) = n := by simpa using h
  have h' := of_decide_eq_false h'
  rw [if_neg (by omega)]
  refine ⟨fun i _ => 0 ≤ i ∧ i ≤ n ∧ cols.any (badID w) = (cols.drop i.toNat).any (badID w), fun i => n - i.toNat, ⟨by omega, by omega, rfl⟩, ?_⟩
  rintro H2 L2 i ⟨i0, i1, g2⟩
  refine ⟨fun hlt => ?_, fun hge => ?_⟩
  · have hlt := of_decide_eq_true hlt
    obtain ⟨hi, hA, _, hc, rfl, q1, q2, q3⟩ := hs.at L2 i0 hlt
    rw [drop_at i0 hi, List.any_cons] at g2
    refine ⟨hA, i0, hlt, _, hc.at1 (k := 0) rfl, fun h1 => ?_, fun h1 => ⟨hA, i0, hlt, _, hc.at1 (k := 0) rfl, fun h2 => ?_, fun h2 => ⟨by simp only [rng]; omega, ⟨by omega, by omega, ?_⟩, by dsimp only; omega⟩⟩⟩
    · rw [if_pos (by rw [g2, badID, h1]; rfl)]; exact ⟨Sl.nil, rfl⟩
    · rw [if_pos (by rw [g2, badID, h2]; simp)]; exact ⟨Sl.nil, rfl⟩
    · rw [g2, badID, h1, h2]; rfl
  rw [drop_end (of_decide_eq_false hge) b2, List.any_nil] at g2
  rw [if_neg (by simp [g2])]
  have hid : ∀ c ∈ cols, 1 ≤ c.id ∧ c.id ≤ w := fun c hc => by
    have := List.any_eq_false.1 g2 c hc
    simp [badID] at this; omega
  have ew : Int.toNat (max w 0) = w.toNat := by omega
  refine ⟨rfl, by omega, by have : max w 0 ≤ 12 := by omega
                            omega, ?_⟩
  rintro _ rfl
  rw [ew]
  refine ⟨fun n' xs i H' => 0 ≤ i ∧ i ≤ n ∧ n' = w.toNat ∧ ∃ o, Row H' xs o ∧ o.length = w.toNat ∧ expGo (List.replicate w.toNat val0) cols vals = expGo o (cols.drop i.toNat) (vals.drop i.toNat), fun _ _ i => n - i.toNat,
    ⟨by omega, by omega, rfl, _, Row.zeros rep_val0 _, by simp, rfl⟩, ?_⟩
  rintro H3 l3 n' xs i ⟨i0, i1, hn', o, hr, ho, g3⟩
  obtain rfl : w.toNat = n' := hn'.symm
  have L3 := hle_trans L2 l3
  have hxl : xs.length = w.toNat * 3 := by rw [hr.length, ho]; rfl
  refine ⟨fun hlt => ?_, fun hge => ?_⟩
  · have hlt := of_decide_eq_true hlt
    obtain ⟨hi, hA, _, hc, rfl, q1, q2, q3⟩ := hs.at L3 (i := i) i0 (by omega)
    obtain ⟨ki, kA, _, kc, rfl, p1, p2, p3⟩ := ht.at L3 (i := i) i0 (by omega)
    have hidc := hid _ (List.getElem_mem hi)
    rw [drop_at i0 hi, drop_at i0 ki, expGo] at g3
    refine ⟨kA, i0, by omega, _, _, _, kc, _, ref6_Valid, ?_⟩
    rintro H4 l4 _ rfl
    have step : valValid vals[i.toNat] = true → (vals[i.toNat].kind = 0 ∨ vals[i.toNat].kind = cols[i.toNat].kind) → someA A ∧ 0 ≤ i ∧ i < (n : Int) ∧ ∃ n45, Cells H4 A (Int.toNat i * 3 + 0) [.int .i64 n45] ∧ rng .i64 (n45 - 1) ∧ someA B ∧ 0 ≤ i ∧ i < (m : Int) ∧ ∃ n46 n47 s48, Cells H4 B (Int.toNat i * 3) [.int .i64 n46, .int .i64 n47, .string s48] ∧ 0 ≤ n45 - 1 ∧ n45 - 1 < (w.toNat : Int) ∧
        Int.toNat (n45 - 1) * 3 + 3 ≤ xs.length ∧ rng .i64 (i + 1) ∧ (0 ≤ i + 1 ∧ i + 1 ≤ n ∧ w.toNat = w.toNat ∧ ∃ o, Row H4 (splice xs (Int.toNat (n45 - 1) * 3) [.int .i64 n46, .int .i64 n47, .string s48]) o ∧ o.length = w.toNat ∧
          expGo (List.replicate w.toNat val0) cols vals = expGo o (cols.drop (i + 1).toNat) (vals.drop (i + 1).toNat)) ∧ n - (i + 1).toNat < n - i.toNat := by
      intro hv hk
      rw [if_pos ⟨hv, hk⟩] at g3
      exact ⟨hA, i0, by omega, _, (hc.mono l4).at1 (k := 0) rfl, by simp only [rng]; omega, kA, i0, by omega, _, _, _, kc.mono l4, by omega, by omega, by omega, by simp only [rng]; omega, ⟨by omega, by omega, rfl, _, (hr.mono l4).setw (i := (cols[i.toNat].id - 1).toNat) (by omega) (t := vals[i.toNat]) ⟨rfl, p1, p2, p3⟩, by simpa using ho, g3⟩, by omega⟩
    refine ⟨fun hf => ?_, fun hv => ⟨kA, i0, by omega, _, (kc.mono l4).at1 (k := 0) rfl, ?_⟩⟩
    · simp only [Bool.not_eq_true'] at hf
      rw [if_neg (fun hh => by have := hh.1; rw [show valValid vals[i.toNat] = false from hf] at this; simp at this)] at g3
      rw [g3]; exact ⟨Sl.nil, rfl⟩
    simp only [Bool.not_eq_false'] at hv
    refine ⟨fun h0 => ⟨kA, i0, by omega, _, (kc.mono l4).at1 (k := 0) rfl, hA, i0, by omega, _, (hc.mono l4).at1 (k := 2) rfl, fun h1 => ?_, fun h1 => step hv (.inr (by simpa using h1))⟩, fun h0 => step hv (.inl (by simpa using h0))⟩
    have h0 : ¬ vals[i.toNat].kind = 0 := by simpa using h0
    have h1 : ¬ vals[i.toNat].kind = cols[i.toNat].kind := by simpa using h1
    rw [if_neg (fun hh => by rcases hh.2 with h | h <;> contradiction)] at g3
    rw [g3]; exact ⟨Sl.nil, rfl⟩
  · rw [List.drop_eq_nil_of_le (by have := of_decide_eq_false hge; omega : cols.length ≤ i.toNat), expGo] at g3
    rw [g3]
    intro A' c' H' l' g' hc'
    exact ⟨hr.sl l' g' ho hc' (by show _ * 32 ≤ _; omega) (by omega), rfl⟩
theorem getD_set_ne'' {T : Type} {l : List T} {a b : Nat} {x d : T} (h : a ≠ b) : (l.set a x).getD b d = l.getD b d := by
  simp [List.getD, List.getElem?_set_ne h]
theorem getD_set_eq'' {T : Type} {l : List T} {a : Nat} {x d : T} (h : a < l.length) : (l.set a x).getD a d = x := by
  simp [List.getD, h]
theorem expGo_spec (w : Int) : ∀ (cols : List Col) (vals o o' : List Val), vals.length = cols.length → o.length = w.toNat → (∀ c ∈ cols, 1 ≤ c.id ∧ c.id ≤ w) → cols.Pairwise (fun a b => a.id ≠ b.id) → expGo o cols vals = some o' →
    o'.length = w.toNat ∧ (∀ x : Int, 1 ≤ x → (∀ c ∈ cols, c.id ≠ x) → o'.getD (x - 1).toNat val0 = o.getD (x - 1).toNat val0) ∧ project cols o' = vals
  | [], [], o, o', _, ho, _, _, h => by
    simp [expGo] at h; subst h
    exact ⟨ho, fun _ _ _ => rfl, rfl⟩
  | c :: cs, v :: vs, o, o', hl, ho, hid, hp, h => by
    rw [expGo] at h
    split at h
    · obtain ⟨hp1, hp2⟩ := List.pairwise_cons.1 hp
      obtain ⟨c1, c2⟩ := hid c (by simp)
      obtain ⟨h1, h2, h3⟩ := expGo_spec w cs vs _ o' (by simpa using hl) (by simpa using ho) (fun x hx => hid x (by simp [hx])) hp2 h
      refine ⟨h1, fun x x1 hx => ?_, ?_⟩
      · rw [h2 x x1 fun d hd => hx d (by simp [hd])]
        have := hx c (by simp)
        exact getD_set_ne'' (by omega)
      · rw [project, List.map_cons, ← project, h3]
        congr 1
        unfold proj1
        rw [if_pos ⟨c1, by omega⟩, h2 c.id c1 fun d hd => Ne.symm (hp1 d hd), getD_set_eq'' (by omega)]
    · simp at h
  | [], v :: vs, _, _, hl, _, _, _, _ => by simp at hl
  | c :: cs, [], _, _, hl, _, _, _, _ => by simp at hl
theorem project_expand {cols : List Col} {vals : List Val} {w : Int} (h : (expand cols vals w).2 = 0) (hp : cols.Pairwise (fun a b => a.id ≠ b.id)) : project cols (expand cols vals w).1 = vals := by
  unfold expand at h ⊢
  split at h
  · simp at h
  rename_i h1
  split at h
  · simp at h
  rename_i h2
  rw [if_neg h1, if_neg h2]
  split at h
  · simp at h
  rename_i o ho
  have hid : ∀ c ∈ cols, 1 ≤ c.id ∧ c.id ≤ w := fun c hc => by
    have := List.any_eq_false.1 (by simpa using h2 : cols.any (badID w) = false) c hc
    simp [badID] at this; omega
  exact (expGo_spec w cols vals _ o (by omega) (by simp) hid hp ho).2.2
end Go.Vc
