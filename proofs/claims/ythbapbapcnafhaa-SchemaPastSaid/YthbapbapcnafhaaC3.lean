/- Validity of a schema, as the program decides it. -/
import Derived.Test.YthbapbapcnafhaaC2
set_option linter.unusedSectionVars false
set_option linter.unusedSimpArgs false
set_option linter.unusedVariables false
namespace Go.Vc
open Go Go.Proofs
def hasID (l : List Col) (x : Int) : Bool := l.any fun c => decide (c.id = x)
theorem idxOf_lt {T : Type} (p : T → Bool) (l : List T) : (idxOf p 0 l < 0) ↔ l.any p = false := by
  rw [← Int.not_le, idxOf_ge p l 0 (by omega), Bool.not_eq_true]
def permanent (l : List Ver) (ids : List Int) : Bool := l.all fun v => ids.all fun x => hasID v.cols x
def an46 : Ann where
  res := fun _ => none
  lend := fun | 23 => true | _ => false
  sch := fun _ => .done
  lt := fun | 2 => [.slot 11 false [.int .i64]] | 5 => [.slot 17 false [.int .i64]] | _ => []
  tup := tups

theorem vc46 (P : Program) (H : Heap) (versionsA : Option Addr) (versionsN versionsC : Nat) (idsA : Option Addr) (idsN idsC : Nat) (post : Bool → Heap → Prop) :
  vcFn P tab an46 Try.f46 [.slice versionsA versionsN versionsC, .slice idsA idsN idsC] 0 H ⟨false, [(false, [.bool])]⟩ post =
  (  ∃ (inv0 : Int → Heap → Prop), ∃ (m1 : Int → Nat), inv0 (0 : Int) H ∧ ∀ (H2 : Heap), Heap.le H H2 → ∀ (n4 : Int), inv0 n4 H2 → (decide (n4 < (↑versionsN : Int)) = true → someA versionsA ∧ (0
  : Int) ≤ n4 ∧ n4 < (↑versionsN : Int) ∧ ∃ (n7 : Int), ∃ (n8 : Int), ∃ (A9 : Option Addr), ∃ (n10 : Nat), ∃ (c11 : Nat), Cells H2 versionsA (Int.toNat n4 * 3) [.int .i64 n7, .int .i64 n8,
  .slice A9 n10 c11] ∧ ∃ (inv12 : Int → Heap → Prop), ∃ (m13 : Int → Nat), inv12 (0 : Int) H2 ∧ ∀ (H14 : Heap), Heap.le H2 H14 → ∀ (n16 : Int), inv12 n16 H14 → (decide (n16 < (↑idsN : Int)) =
  true → someA idsA ∧ (0 : Int) ≤ n16 ∧ n16 < (↑idsN : Int) ∧ ∃ (n19 : Int), Cells H14 idsA (Int.toNat n16 * 1) [.int .i64 n19] ∧ ∃ (post20 : Int → Heap → Prop), ConT P 65 [.agg ⟨[.int .i64
  n7, .int .i64 n8, .slice A9 n10 c11]⟩, .int .i64 n19] H14 ⟨false, [(false, [.int .i64])]⟩ post20 ∧ ∀ (H21 : Heap), Heap.le H14 H21 → ∀ (n23 : Int), post20 n23 H21 → (decide (n23 < (0 :
  Int)) = true → post false H21) ∧ (decide (n23 < (0 : Int)) = false → rng .i64 (n16 + (1 : Int)) ∧ inv12 (n16 + (1 : Int)) H21 ∧ m13 (n16 + (1 : Int)) < m13 n16)) ∧ (decide (n16 < (↑idsN :
  Int)) = false → rng .i64 (n4 + (1 : Int)) ∧ inv0 (n4 + (1 : Int)) H14 ∧ m1 (n4 + (1 : Int)) < m1 n4)) ∧ (decide (n4 < (↑versionsN : Int)) = false → post true H2)) := by kernel_rfl
theorem schema_permanent {H : Heap} {A B : Option Addr} {n c m d : Nat} {l : List Ver} {ids : List Int} (hs : Sl H A n c l) (ht : Sl H B m d ids) :
    ConT Try.prog 46 [.slice A n c, .slice B m d] H shB (fun r _ => r = permanent l ids) := by
  refine con_of_vc (an := an46) (fn := Try.f46) mix tabOK Try.func46 (by kernel_rfl) (extra := 0) ?_
  rw [vc46]
  have b1 := hs.bn; have b2 := hs.len; have b3 := ht.bn; have b4 := ht.len
  unfold permanent
  refine ⟨fun i _ => 0 ≤ i ∧ i ≤ n ∧ (l.all fun v => ids.all fun x => hasID v.cols x) = ((l.drop i.toNat).all fun v => ids.all fun x => hasID v.cols x), fun i => n - i.toNat, ⟨by omega, by omega, rfl⟩, ?_⟩
  rintro H2 hle i ⟨h0, h1, h2⟩
  refine ⟨fun hlt => ?_, fun hge => ?_⟩
  · have hlt := of_decide_eq_true hlt
    obtain ⟨hi, hA, _, hc, ⟨A', n', c', rfl, r1, r2, hv⟩⟩ := hs.at hle h0 hlt
    rw [drop_at h0 hi, List.all_cons] at h2
    refine ⟨hA, h0, hlt, _, _, _, _, _, hc, fun k _ => 0 ≤ k ∧ k ≤ m ∧ (ids.all fun x => hasID l[i.toNat].cols x) = ((ids.drop k.toNat).all fun x => hasID l[i.toNat].cols x), fun k => m - k.toNat, ⟨by omega, by omega, rfl⟩, ?_⟩
    rintro H3 hle3 k ⟨k0, k1, k2⟩
    refine ⟨fun klt => ?_, fun kge => ?_⟩
    · have klt := of_decide_eq_true klt
      obtain ⟨ki, kA, _, kc, rfl, r⟩ := ht.at (hle_trans hle hle3) k0 klt
      rw [drop_at k0 ki, List.all_cons] at k2
      refine ⟨kA, k0, klt, _, kc, _, schema_find (hv.mono hle3), ?_⟩
      rintro H4 hle4 r rfl
      have := idxOf_lt (fun c => decide (c.id = ids[k.toNat])) l[i.toNat].cols
      rw [decide_eq_true_eq, decide_eq_false_iff_not, this, ← hasID]
      refine ⟨fun hf => ?_, fun ht => ⟨by simp only [rng]; omega, ⟨by omega, by omega, ?_⟩, by dsimp only; omega⟩⟩
      · rw [h2, k2, hf]; simp
      · rw [k2]; simp at ht; simp [ht]
    · rw [drop_end (of_decide_eq_false kge) b4] at k2
      refine ⟨by simp only [rng]; omega, ⟨by omega, by omega, ?_⟩, by dsimp only; omega⟩
      rw [h2, k2]; simp
  · rw [drop_end (of_decide_eq_false hge) b2] at h2
    rw [h2]; rfl

def distGo : List Bool → List Int → Bool
  | _, [] => true
  | s, x :: r => columnID x && !s.getD x.toNat false && distGo (s.set x.toNat true) r
def distinctIDs (l : List Int) : Bool := distGo (List.replicate 13 false) l
def an45 : Ann where
  res := fun _ => none
  lend := fun | 13 => true | _ => false
  sch := fun _ => .done
  lt := fun | 3 => [.slot 8 false [.int .i64], .arr 3 108] | _ => []
  tup := tups

theorem vc45 (P : Program) (H : Heap) (idsA : Option Addr) (idsN idsC : Nat) (post : Bool → Heap → Prop) :
  vcFn P tab an45 Try.f45 [.slice idsA idsN idsC] 0 H ⟨false, [(false, [.bool])]⟩ post =
  (  ∃ (inv0 : Int → List Value → Heap → Prop), ∃ (m1 : Int → List Value → Nat), inv0 (0 : Int) [.bool false, .bool false, .bool false, .bool false, .bool false, .bool false, .bool false, .bool
  false, .bool false, .bool false, .bool false, .bool false, .bool false] H ∧ ∀ (H2 : Heap), Heap.le H H2 → ∀ (n4 : Int) (xs5 : List Value), inv0 n4 xs5 H2 → (decide (n4 < (↑idsN : Int)) =
  true → someA idsA ∧ (0 : Int) ≤ n4 ∧ n4 < (↑idsN : Int) ∧ ∃ (n8 : Int), Cells H2 idsA (Int.toNat n4 * 1) [.int .i64 n8] ∧ ∃ (post9 : Bool → Heap → Prop), ConT P 77 [.int .i64 n8] H2 ⟨false,
  [(false, [.bool])]⟩ post9 ∧ ∀ (H10 : Heap), Heap.le H2 H10 → ∀ (b12 : Bool), post9 b12 H10 → ((!b12) = true → post false H10) ∧ ((!b12) = false → (0 : Int) ≤ n8 ∧ n8 < (↑13 : Int) ∧ ∃ (b16
  : Bool), win xs5 (Int.toNat n8 * 1) 1 = [.bool b16] ∧ (b16 = true → post false H10) ∧ (b16 = false → (0 : Int) ≤ n8 ∧ n8 < (↑13 : Int) ∧ Int.toNat n8 * 1 + 1 ≤ List.length xs5 ∧ rng .i64
  (n4 + (1 : Int)) ∧ inv0 (n4 + (1 : Int)) (splice xs5 (Int.toNat n8 * 1) [.bool true]) H10 ∧ m1 (n4 + (1 : Int)) (splice xs5 (Int.toNat n8 * 1) [.bool true]) < m1 n4 xs5))) ∧ (decide (n4 <
  (↑idsN : Int)) = false → post true H2)) := by kernel_rfl
theorem schema_distinctIDs {H : Heap} {A : Option Addr} {n c : Nat} {l : List Int} (hs : Sl H A n c l) :
    ConT Try.prog 45 [.slice A n c] H shB (fun r _ => r = distinctIDs l) := by
  refine con_of_vc (an := an45) (fn := Try.f45) mix tabOK Try.func45 (by kernel_rfl) (extra := 0) ?_
  rw [vc45]
  have b1 := hs.bn; have b2 := hs.len
  unfold distinctIDs
  refine ⟨fun i xs _ => 0 ≤ i ∧ i ≤ n ∧ ∃ s, Row H xs s ∧ s.length = 13 ∧ distGo (List.replicate 13 false) l = distGo s (l.drop i.toNat), fun i _ => n - i.toNat, ⟨by omega, by omega, _, Row.zeros (T := Bool) rfl 13, rfl, rfl⟩, ?_⟩
  rintro H2 hle i xs ⟨h0, h1, s, hr, hl, h2⟩
  refine ⟨fun hlt => ?_, fun hge => ?_⟩
  · have hlt := of_decide_eq_true hlt
    obtain ⟨hi, hA, _, hc, rfl, r⟩ := hs.at hle h0 hlt
    rw [drop_at h0 hi, distGo] at h2
    refine ⟨hA, h0, hlt, _, hc, _, schema_columnID, ?_⟩
    rintro H3 hle3 b rfl
    refine ⟨fun hf => ?_, fun ht => ?_⟩
    · rw [h2]; simp at hf; simp [hf]
    · have ht : columnID l[i.toNat] = true := by simpa using ht
      have hb : 1 ≤ l[i.toNat] ∧ l[i.toNat] ≤ 12 := by simpa [columnID] using ht
      have hx : l[i.toNat].toNat < s.length := by omega
      have hw := hr.getw hx
      refine ⟨by omega, by omega, s[l[i.toNat].toNat], hw, fun hf => ?_, fun hn => ⟨by omega, by omega, ?_, by simp only [rng]; omega, ⟨by omega, by omega, _, hr.setw hx (us := [.bool true]) (t := true) rfl, by simpa using hl, ?_⟩, by dsimp only; omega⟩⟩
      · rw [h2, ht]; simp [List.getD, hx, hf]
      · have := hr.length; rw [this, hl]; show _ ≤ 13 * 1; omega
      · rw [h2, ht]; simp [List.getD, hx, hn]
  · rw [drop_end (of_decide_eq_false hge) b2] at h2
    rw [h2]; rfl

def vcols : Int → List Col → List Col → Bool
  | _, _, [] => true
  | last, pre, c :: r => !(decide (c.id ≤ last) || decide (12 < c.id) || !columnName c.name || !columnKind c.kind || pre.any fun o => decide (o.name = c.name)) && vcols c.id (pre ++ [c]) r
def validColumns (l : List Col) : Bool := decide (1 ≤ l.length) && decide (l.length ≤ 12) && vcols 0 [] l
def an43 : Ann where
  res := fun _ => none
  lend := fun | 33 => true | 39 => true | 46 => true | _ => false
  sch := fun _ => .done
  lt := fun | 5 => [.slot 3 false [.int .i64], .slot 16 false [.int .i64]] | _ => []
  tup := tups

theorem vc43 (P : Program) (H : Heap) (lA : Option Addr) (lN lC : Nat) (post : Bool → Heap → Prop) :
  vcFn P tab an43 Try.f43 [.slice lA lN lC] 0 H ⟨false, [(false, [.bool])]⟩ post =
  (  (decide ((↑lN : Int) < (1 : Int)) = true → post false H) ∧ (decide ((↑lN : Int) < (1 : Int)) = false → (decide ((12 : Int) < (↑lN : Int)) = true → post false H) ∧ (decide ((12 : Int) < (↑lN
  : Int)) = false → ∃ (inv4 : Int → Int → Heap → Prop), ∃ (m5 : Int → Int → Nat), inv4 (0 : Int) (0 : Int) H ∧ ∀ (H6 : Heap), Heap.le H H6 → ∀ (n8 n9 : Int), inv4 n8 n9 H6 → (decide (n9 <
  (↑lN : Int)) = true → someA lA ∧ (0 : Int) ≤ n9 ∧ n9 < (↑lN : Int) ∧ ∃ (n12 : Int), ∃ (s13 : ByteArray), ∃ (n14 : Int), Cells H6 lA (Int.toNat n9 * 3) [.int .i64 n12, .string s13, .int .i64
  n14] ∧ (decide (n12 ≤ n8) = true → post false H6) ∧ (decide (n12 ≤ n8) = false → (decide ((12 : Int) < n12) = true → post false H6) ∧ (decide ((12 : Int) < n12) = false → ∃ (post19 : Bool →
  Heap → Prop), ConT P 58 [.string s13] H6 ⟨false, [(false, [.bool])]⟩ post19 ∧ ∀ (H20 : Heap), Heap.le H6 H20 → ∀ (b22 : Bool), post19 b22 H20 → ((!b22) = true → post false H20) ∧ ((!b22) =
  false → ∃ (post26 : Bool → Heap → Prop), ConT P 59 [.int .i64 n14] H20 ⟨false, [(false, [.bool])]⟩ post26 ∧ ∀ (H27 : Heap), Heap.le H20 H27 → ∀ (b29 : Bool), post26 b29 H27 → ((!b29) = true
  → post false H27) ∧ ((!b29) = false → (0 : Int) ≤ (0 : Int) ∧ (0 : Int) ≤ n9 ∧ n9 ≤ (↑lC : Int) ∧ ∀ (A33 : Option Addr), A33 = subA lA lC (Int.toNat (0 : Int)) 3 → ∃ (post35 : Bool → Heap →
  Prop), (∀ (g36 : Nat) (H37 : Heap), Heap.le H27 H37 → Cells H37 (some ⟨g36, 0, none⟩) 0 [.int .i64 n12, .string s13, .int .i64 n14] → ConT P 75 [.slice A33 (Int.toNat n9 - Int.toNat (0 :
  Int)) (lC - Int.toNat (0 : Int)), .func (.func 76) ⟨[]⟩ ⟨[.pointer (some ⟨g36, 0, none⟩)]⟩] H37 ⟨false, [(false, [.bool])]⟩ post35) ∧ ∀ (H40 : Heap) (b41 : Bool), post35 b41 H40 → (b41 =
  true → post false H27) ∧ (b41 = false → rng .i64 (n9 + (1 : Int)) ∧ inv4 n12 (n9 + (1 : Int)) H27 ∧ m5 n12 (n9 + (1 : Int)) < m5 n8 n9)))))) ∧ (decide (n9 < (↑lN : Int)) = false → post true
  H6)))) := by kernel_rfl
theorem schema_validColumns {H : Heap} {A : Option Addr} {n c : Nat} {l : List Col} (hs : Sl H A n c l) :
    ConT Try.prog 43 [.slice A n c] H shB (fun r _ => r = validColumns l) := by
  refine con_of_vc (an := an43) (fn := Try.f43) mix tabOK Try.func43 (by kernel_rfl) (extra := 0) ?_
  rw [vc43]
  have b1 := hs.bn; have b2 := hs.len; have b3 := hs.cap
  unfold validColumns
  refine ⟨fun h => ?_, fun h => ⟨fun h' => ?_, fun h' => ?_⟩⟩
  · have := of_decide_eq_true h; rw [b2, decide_eq_false (by omega)]; rfl
  · have := of_decide_eq_true h'; rw [b2, decide_eq_false (p := n ≤ 12) (by omega), Bool.and_false]; rfl
  have h := of_decide_eq_false h; have h' := of_decide_eq_false h'
  rw [b2, decide_eq_true (p := 1 ≤ n) (by omega), decide_eq_true (p := n ≤ 12) (by omega), Bool.true_and, Bool.true_and]
  refine ⟨fun last i _ => 0 ≤ i ∧ i ≤ n ∧ vcols 0 [] l = vcols last (l.take i.toNat) (l.drop i.toNat), fun _ i => n - i.toNat, ⟨by omega, by omega, rfl⟩, ?_⟩
  rintro H2 hle last i ⟨h0, h1, h2⟩
  refine ⟨fun hlt => ?_, fun hge => ?_⟩
  · have hlt := of_decide_eq_true hlt
    obtain ⟨hi, hA, _, hc, rfl, r1, r2, r3⟩ := hs.at hle h0 hlt
    rw [drop_at h0 hi, vcols] at h2
    have h2 := h2.symm
    refine ⟨hA, h0, hlt, _, _, _, hc, fun hf => ?_, fun ht => ⟨fun hf => ?_, fun ht' => ⟨_, schema_columnName, ?_⟩⟩⟩
    · rw [← h2, hf]; simp
    · rw [← h2, hf]; simp
    rintro H3 hle3 _ rfl
    refine ⟨fun hf => ?_, fun hn => ⟨_, schema_columnKind, ?_⟩⟩
    · rw [← h2, hf]; simp
    rintro H4 hle4 _ rfl
    refine ⟨fun hf => ?_, fun hn' => ⟨by omega, h0, by omega, ?_⟩⟩
    · rw [← h2, hf]; simp
    rintro A' rfl
    have hle' := hle_trans (hle_trans hle hle3) hle4
    refine ⟨_, fun g H5 hle5 hc5 => ContainsFunc_Col ((hs.sub (j := 0) (k := i.toNat) (by omega) (by omega)).mono (hle_trans hle' hle5)) fun H6 c hle6 => schema_validColumns1 (hc5.mono hle6), ?_⟩
    rintro H6 _ rfl
    rw [List.drop_zero]
    rw [ht, ht', hn, hn'] at h2
    refine ⟨fun hf => ?_, fun hf => ⟨by simp only [rng]; omega, ⟨by omega, by omega, ?_⟩, by dsimp only; omega⟩⟩
    · rw [← h2, hf]; simp
    · rw [← h2, hf]
      simp only [Bool.or_self, Bool.not_false, Bool.true_and]
      congr 1
      rw [show (i + 1).toNat = i.toNat + 1 by omega, List.take_succ_eq_append_getElem hi]
  · rw [drop_end (of_decide_eq_false hge) b2] at h2
    rw [h2]; rfl

def vperGo : Option Int → List Ver → Bool
  | _, [] => true
  | p, v :: r => perValid v.rc && (match p with | none => true | some h => decide (v.rc.lo = h)) && vperGo (some v.rc.hi) r
theorem vperGo_cons (p : Option Int) (v : Ver) (r : List Ver) : vperGo p (v :: r) = (perValid v.rc && (match p with | none => true | some h => decide (v.rc.lo = h)) && vperGo (some v.rc.hi) r) := by
  cases p <;> rfl
def lastHi (l : List Ver) : Bool := match l.getLast? with
  | none => false
  | some v => decide (v.rc.hi = 1099511627776)
def validPeriods (l : List Ver) : Bool := vperGo none l && lastHi l
def an42 : Ann where
  res := fun _ => none
  lend := fun | 14 => true | _ => false
  sch := fun | 4 => (tk [0, 1] (.alt 2 (tk [3, 4, 5, 6, 7, 8, 9, 10, 11, 12, 13, 14, 15, 16, 17, 18, 19, 20] .done) .fin)) | _ => .done
  lt := fun | 2 => [.slot 7 false [.int .i64]] | _ => []
  tup := tups

theorem vc42 (P : Program) (H : Heap) (lA : Option Addr) (lN lC : Nat) (post : Bool → Heap → Prop) :
  vcFn P tab an42 Try.f42 [.slice lA lN lC] 0 H ⟨false, [(false, [.bool])]⟩ post =
  (  ∃ (inv0 : Int → Heap → Prop), ∃ (m1 : Int → Nat), inv0 (0 : Int) H ∧ ∀ (H2 : Heap), Heap.le H H2 → ∀ (n4 : Int), inv0 n4 H2 → (decide (n4 < (↑lN : Int)) = true → someA lA ∧ (0 : Int) ≤ n4 ∧
  n4 < (↑lN : Int) ∧ ∃ (n7 : Int), ∃ (n8 : Int), ∃ (A9 : Option Addr), ∃ (n10 : Nat), ∃ (c11 : Nat), Cells H2 lA (Int.toNat n4 * 3) [.int .i64 n7, .int .i64 n8, .slice A9 n10 c11] ∧ ∃ (post12
  : Bool → Heap → Prop), ConT P 74 [.agg ⟨[.int .i64 n7, .int .i64 n8]⟩] H2 ⟨false, [(false, [.bool])]⟩ post12 ∧ ∀ (H13 : Heap), Heap.le H2 H13 → ∀ (b15 : Bool), post12 b15 H13 → ((!b15) =
  true → post false H13) ∧ ((!b15) = false → (decide ((0 : Int) < n4) = true → rng .i64 (n4 - (1 : Int)) ∧ someA lA ∧ (0 : Int) ≤ n4 - (1 : Int) ∧ n4 - (1 : Int) < (↑lN : Int) ∧ ∃ (n20 :
  Int), Cells H13 lA (Int.toNat (n4 - (1 : Int)) * 3 + 0 + 1) [.int .i64 n20] ∧ ((!decide (n7 = n20)) = true → post false H13) ∧ ((!decide (n7 = n20)) = false → rng .i64 (n4 + (1 : Int)) ∧
  inv0 (n4 + (1 : Int)) H13 ∧ m1 (n4 + (1 : Int)) < m1 n4)) ∧ (decide ((0 : Int) < n4) = false → rng .i64 (n4 + (1 : Int)) ∧ inv0 (n4 + (1 : Int)) H13 ∧ m1 (n4 + (1 : Int)) < m1 n4))) ∧
  (decide (n4 < (↑lN : Int)) = false → (decide ((0 : Int) < (↑lN : Int)) = true → rng .i64 ((↑lN : Int) - (1 : Int)) ∧ someA lA ∧ (0 : Int) ≤ (↑lN : Int) - (1 : Int) ∧ (↑lN : Int) - (1 : Int)
  < (↑lN : Int) ∧ ∃ (n26 : Int), Cells H2 lA (Int.toNat ((↑lN : Int) - (1 : Int)) * 3 + 0 + 1) [.int .i64 n26] ∧ post (decide (n26 = (1099511627776 : Int))) H2) ∧ (decide ((0 : Int) < (↑lN :
  Int)) = false → post false H2))) := by kernel_rfl
theorem schema_validPeriods {H : Heap} {A : Option Addr} {n c : Nat} {l : List Ver} (hs : Sl H A n c l) :
    ConT Try.prog 42 [.slice A n c] H shB (fun r _ => r = validPeriods l) := by
  refine con_of_vc (an := an42) (fn := Try.f42) mix tabOK Try.func42 (by kernel_rfl) (extra := 0) ?_
  rw [vc42]
  have b1 := hs.bn; have b2 := hs.len
  unfold validPeriods
  refine ⟨fun i _ => 0 ≤ i ∧ i ≤ n ∧ vperGo none l = vperGo (if i ≤ 0 then none else l[(i - 1).toNat]?.map (·.rc.hi)) (l.drop i.toNat), fun i => n - i.toNat, ⟨by omega, by omega, rfl⟩, ?_⟩
  rintro H2 hle i ⟨h0, h1, h2⟩
  refine ⟨fun hlt => ?_, fun hge => ?_⟩
  · have hlt := of_decide_eq_true hlt
    obtain ⟨hi, hA, _, hc, ⟨A', n', c', rfl, r1, r2, hv⟩⟩ := hs.at hle h0 hlt
    rw [drop_at h0 hi, vperGo_cons] at h2
    refine ⟨hA, h0, hlt, _, _, _, _, _, hc, _, period_Valid, ?_⟩
    rintro H3 hle3 _ rfl
    have e1 : (if i + 1 ≤ 0 then none else l[(i + 1 - 1).toNat]?.map (·.rc.hi)) = some l[i.toNat].rc.hi := by
      rw [if_neg (by omega), show (i + 1 - 1).toNat = i.toNat by omega, List.getElem?_eq_getElem hi]; rfl
    refine ⟨fun hf => ?_, fun ht => ⟨fun hp => ?_, fun hp => ?_⟩⟩
    · have hf : perValid l[i.toNat].rc = false := by simpa using hf
      have : false = (vperGo none l && lastHi l) := by rw [h2, hf]; simp
      exact this
    · have hp := of_decide_eq_true hp
      have ht : perValid l[i.toNat].rc = true := by simpa using ht
      obtain ⟨ji, jA, _, jc, ⟨A', n', c', rfl, q1, q2, hv⟩⟩ := hs.at (hle_trans hle hle3) (i := i - 1) (by omega) (by omega)
      rw [if_neg (by omega), List.getElem?_eq_getElem ji, ht] at h2
      refine ⟨by simp only [rng]; omega, jA, by omega, by omega, _, jc.at1 (k := 1) rfl, fun hf => ?_, fun hn => ⟨by simp only [rng]; omega, ⟨by omega, by omega, ?_⟩, by dsimp only; omega⟩⟩
      · have hf : decide (l[i.toNat].rc.lo = l[(i - 1).toNat].rc.hi) = false := by simpa using hf
        rw [h2]; simp only [Option.map_some, hf]; rfl
      · have hn : decide (l[i.toNat].rc.lo = l[(i - 1).toNat].rc.hi) = true := by simpa using hn
        rw [h2, e1]; simp only [Option.map_some, hn]; rfl
    · have hp := of_decide_eq_false hp
      have ht : perValid l[i.toNat].rc = true := by simpa using ht
      have key : rng .i64 (i + 1) ∧ (0 ≤ i + 1 ∧ i + 1 ≤ n ∧ vperGo none l = vperGo (if i + 1 ≤ 0 then none else l[(i + 1 - 1).toNat]?.map (·.rc.hi)) (l.drop (i + 1).toNat)) ∧ n - (i + 1).toNat < n - i.toNat := by
        refine ⟨by simp only [rng]; omega, ⟨by omega, by omega, ?_⟩, by omega⟩
        rw [e1, h2, if_pos (by omega), ht]; rfl
      exact key
  · rw [drop_end (of_decide_eq_false hge) b2] at h2
    rw [h2]
    refine ⟨fun hp => ?_, fun hp => ?_⟩
    · have hp := of_decide_eq_true hp
      obtain ⟨ji, jA, _, jc, ⟨A', n', c', rfl, q1, q2, hv⟩⟩ := hs.at hle (i := (n : Int) - 1) (by omega) (by omega)
      refine ⟨by simp only [rng]; omega, jA, by omega, by omega, _, jc.at1 (k := 1) rfl, ?_⟩
      rw [lastHi, List.getLast?_eq_getElem?, show l.length - 1 = ((n : Int) - 1).toNat by omega, List.getElem?_eq_getElem ji]
      rfl
    · have hp := of_decide_eq_false hp
      rw [List.eq_nil_of_length_eq_zero (by omega : l.length = 0)]; rfl
end Go.Vc
