/- Values and rows of values: valid, compared; rows of a version stored and read. -/
import Derived.Test.YthbapbapcnafhaaC7
set_option linter.unusedSectionVars false
set_option linter.unusedSimpArgs false
set_option linter.unusedVariables false
namespace Go.Vc
open Go Go.Proofs
def valValid (v : Val) : Bool :=
  if v.kind = 0 then decide (v.n = 0) && decide (v.s = empty)
  else if v.kind = 1 then decide (v.s = empty)
  else if v.kind = 2 then decide (v.n = 0) && decide (v.s.size ≤ 200)
  else if v.kind = 3 then (decide (v.n = 0) || decide (v.n = 1)) && decide (v.s = empty)
  else false
theorem valValid_vc {k n : Int} {s : ByteArray} : (decide (k = 0) = true → (decide (n = 0) = true → decide (s = empty) = valValid ⟨k, n, s⟩) ∧ (decide (n = 0) = false → false = valValid ⟨k, n, s⟩)) ∧
    (decide (k = 0) = false → (decide (k = 1) = true → decide (s = empty) = valValid ⟨k, n, s⟩) ∧ (decide (k = 1) = false →
      (decide (k = 2) = true → (decide (n = 0) = true → decide ((s.size : Int) ≤ 200) = valValid ⟨k, n, s⟩) ∧ (decide (n = 0) = false → false = valValid ⟨k, n, s⟩)) ∧
      (decide (k = 2) = false → (decide (k = 3) = true → (decide (n = 0) = true → decide (s = empty) = valValid ⟨k, n, s⟩) ∧ (decide (n = 0) = false → (decide (n = 1) = true → decide (s = empty) = valValid ⟨k, n, s⟩) ∧ (decide (n = 1) = false → false = valValid ⟨k, n, s⟩))) ∧
        (decide (k = 3) = false → false = valValid ⟨k, n, s⟩)))) := by
  generalize hp : decide (s = empty) = p
  have hz : decide ((s.size : Int) ≤ 200) = decide (s.size ≤ 200) := by rw [Bool.eq_iff_iff, decide_eq_true_eq, decide_eq_true_eq]; omega
  rw [hz]
  simp only [valValid, hp]
  generalize decide (s.size ≤ 200) = q
  by_cases h0 : k = 0 <;> by_cases h1 : k = 1 <;> by_cases h2 : k = 2 <;> by_cases h3 : k = 3 <;> by_cases n0 : n = 0 <;> by_cases n1 : n = 1 <;> simp_all
def an53 : Ann where
  res := fun _ => none
  lend := fun _ => false
  sch := fun _ => .done
  lt := fun _ => []
  tup := tups

theorem vc53 (P : Program) (H : Heap) (vKind : Int) (vN : Int) (vS : ByteArray) (post : Bool → Heap → Prop) :
  vcFn P tab an53 Try.f53 [.agg #[.int .i64 vKind, .int .i64 vN, .string vS]] 0 H ⟨false, [(false, [.bool])]⟩ post =
  (  (decide (vKind = (0 : Int)) = true → (decide (vN = (0 : Int)) = true → post (decide (vS = ⟨⟨[]⟩⟩)) H) ∧ (decide (vN = (0 : Int)) = false → post false H)) ∧ (decide (vKind = (0 : Int)) =
  false → (decide (vKind = (1 : Int)) = true → post (decide (vS = ⟨⟨[]⟩⟩)) H) ∧ (decide (vKind = (1 : Int)) = false → (decide (vKind = (2 : Int)) = true → (decide (vN = (0 : Int)) = true →
  post (decide ((↑(ByteArray.size vS) : Int) ≤ (200 : Int))) H) ∧ (decide (vN = (0 : Int)) = false → post false H)) ∧ (decide (vKind = (2 : Int)) = false → (decide (vKind = (3 : Int)) = true
  → (decide (vN = (0 : Int)) = true → post (decide (vS = ⟨⟨[]⟩⟩)) H) ∧ (decide (vN = (0 : Int)) = false → (decide (vN = (1 : Int)) = true → post (decide (vS = ⟨⟨[]⟩⟩)) H) ∧ (decide (vN = (1 :
  Int)) = false → post false H))) ∧ (decide (vKind = (3 : Int)) = false → post false H))))) := by kernel_rfl
theorem value_Valid {k n : Int} {s : ByteArray} {H : Heap} : ConT Try.prog 53 [.agg ⟨[.int .i64 k, .int .i64 n, .string s]⟩] H shB (fun r _ => r = valValid ⟨k, n, s⟩) := by
  refine con_of_vc (an := an53) (fn := Try.f53) mix tabOK Try.func53 (by kernel_rfl) (extra := 0) ?_
  rw [vc53]
  exact valValid_vc
def an54 : Ann where
  res := fun _ => none
  lend := fun _ => false
  sch := fun _ => .done
  lt := fun _ => []
  tup := tups

theorem vc54 (P : Program) (H : Heap) (vKind : Int) (vN : Int) (vS : ByteArray) (post : Bool → Heap → Prop) :
  vcFn P tab an54 Try.f54 [.agg #[.int .i64 vKind, .int .i64 vN, .string vS]] 0 H ⟨false, [(false, [.bool])]⟩ post =
  (  (decide (vKind = (0 : Int)) = true → (decide (vN = (0 : Int)) = true → post (decide (vS = ⟨⟨[]⟩⟩)) H) ∧ (decide (vN = (0 : Int)) = false → post false H)) ∧ (decide (vKind = (0 : Int)) =
  false → (decide (vKind = (1 : Int)) = true → post (decide (vS = ⟨⟨[]⟩⟩)) H) ∧ (decide (vKind = (1 : Int)) = false → (decide (vKind = (2 : Int)) = true → (decide (vN = (0 : Int)) = true →
  post (decide ((↑(ByteArray.size vS) : Int) ≤ (200 : Int))) H) ∧ (decide (vN = (0 : Int)) = false → post false H)) ∧ (decide (vKind = (2 : Int)) = false → (decide (vKind = (3 : Int)) = true
  → (decide (vN = (0 : Int)) = true → post (decide (vS = ⟨⟨[]⟩⟩)) H) ∧ (decide (vN = (0 : Int)) = false → (decide (vN = (1 : Int)) = true → post (decide (vS = ⟨⟨[]⟩⟩)) H) ∧ (decide (vN = (1 :
  Int)) = false → post false H))) ∧ (decide (vKind = (3 : Int)) = false → post false H))))) := by kernel_rfl
theorem ref6_Valid {k n : Int} {s : ByteArray} {H : Heap} : ConT Try.prog 54 [.agg ⟨[.int .i64 k, .int .i64 n, .string s]⟩] H shB (fun r _ => r = valValid ⟨k, n, s⟩) := by
  refine con_of_vc (an := an54) (fn := Try.f54) mix tabOK Try.func54 (by kernel_rfl) (extra := 0) ?_
  rw [vc54]
  exact valValid_vc
def cmpVal (a b : Val) : Int :=
  if a.kind < b.kind then -1 else if a.kind = b.kind ∧ a.n < b.n then -1
  else if a.kind = b.kind ∧ a.n = b.n ∧ Op.bytesLess a.s.toList b.s.toList = true then -1 else if a = b then 0 else 1
def cmpRows : List Val → List Val → Int
  | [], [] => 0
  | [], _ :: _ => -1
  | _ :: _, [] => 1
  | a :: l, b :: m => if cmpVal a b = 0 then cmpRows l m else cmpVal a b
theorem bytesLess_irrefl : ∀ l : List UInt8, Op.bytesLess l l = false
  | [] => rfl
  | x :: r => by
    have := bytesLess_irrefl r
    simp [Op.bytesLess, this]
theorem cmpVal_refl (a : Val) : cmpVal a a = 0 := by
  simp [cmpVal, bytesLess_irrefl]
theorem cmpRows_refl : ∀ l : List Val, cmpRows l l = 0
  | [] => rfl
  | a :: l => by simp [cmpRows, cmpVal_refl, cmpRows_refl l]
def an55 : Ann where
  res := fun _ => none
  lend := fun _ => false
  sch := fun _ => .done
  lt := fun _ => []
  tup := tups

theorem vc55 (P : Program) (H : Heap) (aKind : Int) (aN : Int) (aS : ByteArray) (bKind : Int) (bN : Int) (bS : ByteArray) (post : Int → Heap → Prop) :
  vcFn P tab an55 Try.f55 [.agg #[.int .i64 aKind, .int .i64 aN, .string aS], .agg #[.int .i64 bKind, .int .i64 bN, .string bS]] 0 H ⟨false, [(false, [.int .i64])]⟩ post =
  (  (decide (aKind < bKind) = true → post (-1 : Int) H) ∧ (decide (aKind < bKind) = false → (decide (aKind = bKind) = true → (decide (aN < bN) = true → post (-1 : Int) H) ∧ (decide (aN < bN) =
  false → (decide (aKind = bKind) = true → (decide (aN = bN) = true → (Op.bytesLess (ByteArray.toList aS) (ByteArray.toList bS) = true → post (-1 : Int) H) ∧ (Op.bytesLess (ByteArray.toList
  aS) (ByteArray.toList bS) = false → ((decide (aKind = bKind) && (decide (aN = bN) && decide (aS = bS))) = true → post (0 : Int) H) ∧ ((decide (aKind = bKind) && (decide (aN = bN) && decide
  (aS = bS))) = false → post (1 : Int) H))) ∧ (decide (aN = bN) = false → ((decide (aKind = bKind) && (decide (aN = bN) && decide (aS = bS))) = true → post (0 : Int) H) ∧ ((decide (aKind =
  bKind) && (decide (aN = bN) && decide (aS = bS))) = false → post (1 : Int) H))) ∧ (decide (aKind = bKind) = false → ((decide (aKind = bKind) && (decide (aN = bN) && decide (aS = bS))) =
  true → post (0 : Int) H) ∧ ((decide (aKind = bKind) && (decide (aN = bN) && decide (aS = bS))) = false → post (1 : Int) H)))) ∧ (decide (aKind = bKind) = false → (decide (aKind = bKind) =
  true → (decide (aN = bN) = true → (Op.bytesLess (ByteArray.toList aS) (ByteArray.toList bS) = true → post (-1 : Int) H) ∧ (Op.bytesLess (ByteArray.toList aS) (ByteArray.toList bS) = false →
  ((decide (aKind = bKind) && (decide (aN = bN) && decide (aS = bS))) = true → post (0 : Int) H) ∧ ((decide (aKind = bKind) && (decide (aN = bN) && decide (aS = bS))) = false → post (1 : Int)
  H))) ∧ (decide (aN = bN) = false → ((decide (aKind = bKind) && (decide (aN = bN) && decide (aS = bS))) = true → post (0 : Int) H) ∧ ((decide (aKind = bKind) && (decide (aN = bN) && decide
  (aS = bS))) = false → post (1 : Int) H))) ∧ (decide (aKind = bKind) = false → ((decide (aKind = bKind) && (decide (aN = bN) && decide (aS = bS))) = true → post (0 : Int) H) ∧ ((decide
  (aKind = bKind) && (decide (aN = bN) && decide (aS = bS))) = false → post (1 : Int) H))))) := by kernel_rfl
theorem ref6_Compare {k n k' n' : Int} {s s' : ByteArray} {H : Heap} : ConT Try.prog 55 [.agg ⟨[.int .i64 k, .int .i64 n, .string s]⟩, .agg ⟨[.int .i64 k', .int .i64 n', .string s']⟩] H shI (fun r _ => r = cmpVal ⟨k, n, s⟩ ⟨k', n', s'⟩) := by
  refine con_of_vc (an := an55) (fn := Try.f55) mix tabOK Try.func55 (by kernel_rfl) (extra := 0) ?_
  rw [vc55]
  unfold cmpVal
  simp only [Val.mk.injEq]
  generalize hp : Op.bytesLess s.toList s'.toList = p
  have hd : ∀ q : Prop, [Decidable q] → (decide (s = s') = decide q ↔ (s = s' ↔ q)) := fun q _ => by rw [decide_eq_decide]
  by_cases h1 : k < k' <;> by_cases h2 : k = k' <;> by_cases h3 : n < n' <;> by_cases h4 : n = n' <;> by_cases h5 : s = s' <;> cases p <;> simp_all
def an24 : Ann where
  res := fun _ => none
  lend := fun | 27 => true | _ => false
  sch := fun | 4 => (tk [0, 1, 2, 3, 4, 5, 6, 7] (.alt 8 (tk [9] .done) .fin)) | _ => .done
  lt := fun | 2 => [.slot 5 false [.int .i64]] | _ => []
  tup := tups

theorem vc24 (P : Program) (H : Heap) (aA : Option Addr) (aN aC : Nat) (bA : Option Addr) (bN bC : Nat) (post : Int → Heap → Prop) :
  vcFn P tab an24 Try.f24 [.slice aA aN aC, .slice bA bN bC] 0 H ⟨false, [(false, [.int .i64])]⟩ post =
  (  ∃ (inv0 : Int → Heap → Prop), ∃ (m1 : Int → Nat), inv0 (0 : Int) H ∧ ∀ (H2 : Heap), Heap.le H H2 → ∀ (n4 : Int), inv0 n4 H2 → (decide (n4 < (↑aN : Int)) = true → (decide (n4 < (↑bN : Int))
  = true → someA aA ∧ (0 : Int) ≤ n4 ∧ n4 < (↑aN : Int) ∧ ∃ (n8 : Int), ∃ (n9 : Int), ∃ (s10 : ByteArray), Cells H2 aA (Int.toNat n4 * 3) [.int .i64 n8, .int .i64 n9, .string s10] ∧ someA bA
  ∧ (0 : Int) ≤ n4 ∧ n4 < (↑bN : Int) ∧ ∃ (n11 : Int), ∃ (n12 : Int), ∃ (s13 : ByteArray), Cells H2 bA (Int.toNat n4 * 3) [.int .i64 n11, .int .i64 n12, .string s13] ∧ ∃ (post14 : Int → Heap
  → Prop), ConT P 55 [.agg ⟨[.int .i64 n8, .int .i64 n9, .string s10]⟩, .agg ⟨[.int .i64 n11, .int .i64 n12, .string s13]⟩] H2 ⟨false, [(false, [.int .i64])]⟩ post14 ∧ ∀ (H15 : Heap), Heap.le
  H2 H15 → ∀ (n17 : Int), post14 n17 H15 → ((!decide (n17 = (0 : Int))) = true → post n17 H15) ∧ ((!decide (n17 = (0 : Int))) = false → rng .i64 (n4 + (1 : Int)) ∧ inv0 (n4 + (1 : Int)) H15 ∧
  m1 (n4 + (1 : Int)) < m1 n4)) ∧ (decide (n4 < (↑bN : Int)) = false → (decide ((↑aN : Int) < (↑bN : Int)) = true → post (-1 : Int) H2) ∧ (decide ((↑aN : Int) < (↑bN : Int)) = false → (decide
  ((↑bN : Int) < (↑aN : Int)) = true → post (1 : Int) H2) ∧ (decide ((↑bN : Int) < (↑aN : Int)) = false → post (0 : Int) H2)))) ∧ (decide (n4 < (↑aN : Int)) = false → (decide ((↑aN : Int) <
  (↑bN : Int)) = true → post (-1 : Int) H2) ∧ (decide ((↑aN : Int) < (↑bN : Int)) = false → (decide ((↑bN : Int) < (↑aN : Int)) = true → post (1 : Int) H2) ∧ (decide ((↑bN : Int) < (↑aN :
  Int)) = false → post (0 : Int) H2)))) := by kernel_rfl
theorem ref6_CompareRows {H : Heap} {A B : Option Addr} {n c m d : Nat} {l l' : List Val} (hs : Sl H A n c l) (ht : Sl H B m d l') :
    ConT Try.prog 24 [.slice A n c, .slice B m d] H shI (fun r _ => r = cmpRows l l') := by
  refine con_of_vc (an := an24) (fn := Try.f24) mix tabOK Try.func24 (by kernel_rfl) (extra := 0) ?_
  rw [vc24]
  have b1 := hs.bn; have b2 := hs.len; have c1 := ht.bn; have c2 := ht.len
  refine ⟨fun i _ => 0 ≤ i ∧ i ≤ n ∧ i ≤ m ∧ cmpRows l l' = cmpRows (l.drop i.toNat) (l'.drop i.toNat), fun i => n - i.toNat, ⟨by omega, by omega, by omega, rfl⟩, ?_⟩
  rintro H2 hle i ⟨h0, h1, h1', h2⟩
  refine ⟨fun hlt => ⟨fun klt => ?_, fun kge => ?_⟩, fun hge => ?_⟩
  · have hlt := of_decide_eq_true hlt
    have klt := of_decide_eq_true klt
    obtain ⟨hi, hA, _, hc, rfl, -⟩ := hs.at hle h0 hlt
    obtain ⟨ki, kA, _, kc, rfl, -⟩ := ht.at hle h0 klt
    rw [drop_at h0 hi, drop_at h0 ki, cmpRows] at h2
    refine ⟨hA, h0, hlt, _, _, _, hc, kA, h0, klt, _, _, _, kc, _, ref6_Compare, ?_⟩
    rintro H3 l3 _ rfl
    refine ⟨fun h => ?_, fun h => ⟨by simp only [rng]; omega, ⟨by omega, by omega, by omega, ?_⟩, by dsimp only; omega⟩⟩
    · rw [h2, if_neg (by simpa using h)]
    · rw [h2, if_pos (by simpa using h)]
  · have hlt := of_decide_eq_true hlt
    rw [drop_end (of_decide_eq_false kge) c2, List.drop_eq_getElem_cons (by omega : i.toNat < l.length), cmpRows] at h2
    have kge := of_decide_eq_false kge
    exact ⟨fun h => by have := of_decide_eq_true h; omega, fun h => ⟨fun h' => h2.symm, fun h' => by have := of_decide_eq_false h'; omega⟩⟩
  · rw [drop_end (of_decide_eq_false hge) b2] at h2
    have hge := of_decide_eq_false hge
    refine ⟨fun h => ?_, fun h => ⟨fun h' => ?_, fun h' => ?_⟩⟩
    · have h := of_decide_eq_true h
      rw [List.drop_eq_getElem_cons (by omega : i.toNat < l'.length), cmpRows] at h2
      exact h2.symm
    · have := of_decide_eq_true h'; omega
    · have := of_decide_eq_false h; have := of_decide_eq_false h'
      rw [List.drop_eq_nil_of_le (by omega : l'.length ≤ i.toNat), cmpRows] at h2
      exact h2.symm
def val0 : Val := ⟨0, 0, empty⟩
theorem rep_val0 {H : Heap} : Rep.rel H [.int .i64 0, .int .i64 0, .string ⟨⟨[]⟩⟩] val0 := ⟨rfl, by simp [rng, val0], by simp [rng, val0], by simp [str, val0, empty, ByteArray.size]⟩
def proj1 (vals : List Val) (c : Col) : Val := if 1 ≤ c.id ∧ c.id ≤ vals.length then vals.getD (c.id - 1).toNat val0 else val0
def project (cols : List Col) (vals : List Val) : List Val := cols.map (proj1 vals)
theorem set_mid {T : Type} (A : List T) (x y : T) (B : List T) {k : Nat} (h : A.length = k) : (A ++ x :: B).set k y = A ++ y :: B := by
  subst h; simp
theorem fill_step {T S : Type} (f : S → T) (z : T) (l : List S) (i : Int) (n : Nat) (h0 : 0 ≤ i) (hi : i.toNat < l.length) (hn : l.length = n) :
    ((l.take i.toNat).map f ++ List.replicate (n - i.toNat) z).set i.toNat (f l[i.toNat]) = (l.take (i + 1).toNat).map f ++ List.replicate (n - (i + 1).toNat) z := by
  rw [take_at h0 hi, show n - i.toNat = (n - (i + 1).toNat) + 1 by omega, List.replicate_succ, set_mid _ _ _ _ (by simp; omega)]
  simp only [List.map_append, List.map_cons, List.map_nil, List.append_assoc, List.singleton_append]
def an25 : Ann where
  res := fun _ => none
  lend := fun _ => false
  sch := fun _ => .done
  lt := fun | 3 => [.slot 5 false [.row 41 91], .slot 15 false [.int .i64]] | _ => []
  tup := tups

theorem vc25 (P : Program) (H : Heap) (vRecordedFrom : Int) (vRecordedTo : Int) (vColumnsA : Option Addr) (vColumnsN vColumnsC : Nat) (valsA : Option Addr) (valsN valsC : Nat) (post : Option Addr → Nat → Nat → Heap → Prop) :
  vcFn P tab an25 Try.f25 [.agg #[.int .i64 vRecordedFrom, .int .i64 vRecordedTo, .slice vColumnsA vColumnsN vColumnsC], .slice valsA valsN valsC] 1 H ⟨false, [(false, [.sl])]⟩ post =
  (  (↑vColumnsN : Int) = (↑vColumnsN : Int) ∧ (0 : Int) ≤ (↑vColumnsN : Int) ∧ (↑vColumnsN : Int) * (↑32 : Int) ≤ (140737488355328 : Int) ∧ ∀ (xs0 : List Value), xs0 = repl [.int .i64 (0 :
  Int), .int .i64 (0 : Int), .string ⟨⟨[]⟩⟩] (Int.toNat (↑vColumnsN : Int)) → ∃ (inv2 : Nat → List Value → Int → Heap → Prop), ∃ (m3 : Nat → List Value → Int → Nat), inv2 (Int.toNat
  (↑vColumnsN : Int)) xs0 (0 : Int) H ∧ ∀ (H4 : Heap), Heap.le H H4 → ∀ (n6 : Nat) (xs7 : List Value) (n8 : Int), inv2 n6 xs7 n8 H4 → (decide (n8 < (↑vColumnsN : Int)) = true → someA
  vColumnsA ∧ (0 : Int) ≤ n8 ∧ n8 < (↑vColumnsN : Int) ∧ ∃ (n11 : Int), ∃ (s12 : ByteArray), ∃ (n13 : Int), Cells H4 vColumnsA (Int.toNat n8 * 3) [.int .i64 n11, .string s12, .int .i64 n13] ∧
  (decide ((1 : Int) ≤ n11) = true → (decide (n11 ≤ (↑valsN : Int)) = true → rng .i64 (n11 - (1 : Int)) ∧ someA valsA ∧ (0 : Int) ≤ n11 - (1 : Int) ∧ n11 - (1 : Int) < (↑valsN : Int) ∧ ∃ (n16
  : Int), ∃ (n17 : Int), ∃ (s18 : ByteArray), Cells H4 valsA (Int.toNat (n11 - (1 : Int)) * 3) [.int .i64 n16, .int .i64 n17, .string s18] ∧ (0 : Int) ≤ n8 ∧ n8 < (↑n6 : Int) ∧ Int.toNat n8 *
  3 + 3 ≤ List.length xs7 ∧ rng .i64 (n8 + (1 : Int)) ∧ inv2 n6 (splice xs7 (Int.toNat n8 * 3) [.int .i64 n16, .int .i64 n17, .string s18]) (n8 + (1 : Int)) H4 ∧ m3 n6 (splice xs7 (Int.toNat
  n8 * 3) [.int .i64 n16, .int .i64 n17, .string s18]) (n8 + (1 : Int)) < m3 n6 xs7 n8) ∧ (decide (n11 ≤ (↑valsN : Int)) = false → rng .i64 (n8 + (1 : Int)) ∧ inv2 n6 xs7 (n8 + (1 : Int)) H4
  ∧ m3 n6 xs7 (n8 + (1 : Int)) < m3 n6 xs7 n8)) ∧ (decide ((1 : Int) ≤ n11) = false → rng .i64 (n8 + (1 : Int)) ∧ inv2 n6 xs7 (n8 + (1 : Int)) H4 ∧ m3 n6 xs7 (n8 + (1 : Int)) < m3 n6 xs7 n8))
  ∧ (decide (n8 < (↑vColumnsN : Int)) = false → ∀ (A22 : Option Addr) (c23 : Nat) (H24 : Heap), Heap.le H4 H24 → Cells H24 A22 0 xs7 → n6 ≤ c23 → post A22 n6 c23 H24)) := by kernel_rfl
theorem schema_Project {H : Heap} {a b : Int} {A B : Option Addr} {n c m d : Nat} {cols : List Col} {vals : List Val} (hs : Sl H A n c cols) (ht : Sl H B m d vals) :
    ConT Try.prog 25 [.agg ⟨[.int .i64 a, .int .i64 b, .slice A n c]⟩, .slice B m d] H shS (fun A' n' c' H' => Sl H' A' n' c' (project cols vals)) := by
  refine con_of_vc (an := an25) (fn := Try.f25) mix tabOK Try.func25 (by kernel_rfl) (extra := 1) ?_
  rw [vc25]
  have b1 := hs.bn; have b2 := hs.len; have b3 := hs.bnd; have c1 := ht.bn; have c2 := ht.len
  have b4 : n * 32 ≤ 140737488355328 := b3
  refine ⟨rfl, by omega, by omega, ?_⟩
  rintro _ rfl
  rw [Int.toNat_natCast]
  refine ⟨fun n' xs i H' => 0 ≤ i ∧ i ≤ n ∧ n' = n ∧ Row H' xs ((cols.take i.toNat).map (proj1 vals) ++ List.replicate (n - i.toNat) val0), fun _ _ i => n - i.toNat, ⟨by omega, by omega, rfl, Row.zeros rep_val0 n⟩, ?_⟩
  rintro H2 hle n' xs i ⟨h0, h1, hn', hr⟩
  obtain rfl : n = n' := hn'.symm
  have hxl : xs.length = n * 3 := by
    rw [hr.length]; simp only [List.length_append, List.length_map, List.length_take, List.length_replicate]
    show _ * 3 = _; rw [Nat.min_eq_left (by omega)]; omega
  refine ⟨fun hlt => ?_, fun hge => ?_⟩
  · have hlt := of_decide_eq_true hlt
    obtain ⟨hi, hA, _, hc, rfl, q1, q2, q3⟩ := hs.at hle h0 hlt
    have hstep := fill_step (proj1 vals) val0 cols i n h0 hi b2
    have hskip : proj1 vals cols[i.toNat] = val0 → rng .i64 (i + 1) ∧ (0 ≤ i + 1 ∧ i + 1 ≤ n ∧ n = n ∧ Row H2 xs ((cols.take (i + 1).toNat).map (proj1 vals) ++ List.replicate (n - (i + 1).toNat) val0)) ∧ n - (i + 1).toNat < n - i.toNat := by
      intro hz
      refine ⟨by simp only [rng]; omega, ⟨by omega, by omega, rfl, ?_⟩, by omega⟩
      rw [← hstep, hz]
      rw [show n - i.toNat = (n - (i + 1).toNat) + 1 by omega, List.replicate_succ, set_mid _ _ _ _ (by simp; omega), ← List.replicate_succ, ← show n - i.toNat = (n - (i + 1).toNat) + 1 by omega]
      exact hr
    refine ⟨hA, h0, hlt, _, _, _, hc, fun h1 => ⟨fun h2 => ?_, fun h2 => ?_⟩, fun h1 => ?_⟩
    · have h1 := of_decide_eq_true h1
      have h2 := of_decide_eq_true h2
      obtain ⟨ki, kA, _, kc, rfl, p1, p2, p3⟩ := ht.at hle (i := cols[i.toNat].id - 1) (by omega) (by omega)
      have hv : proj1 vals cols[i.toNat] = vals[(cols[i.toNat].id - 1).toNat] := by
        unfold proj1; rw [if_pos ⟨h1, by omega⟩, List.getD_eq_getElem?_getD, List.getElem?_eq_getElem ki]; rfl
      refine ⟨by simp only [rng]; omega, kA, by omega, by omega, _, _, _, kc, h0, hlt, by omega, by simp only [rng]; omega, ⟨by omega, by omega, rfl, ?_⟩, by dsimp only; omega⟩
      rw [← hstep, hv]
      exact hr.setw (by simp; omega) ⟨rfl, p1, p2, p3⟩
    · have h2 := of_decide_eq_false h2
      exact hskip (by unfold proj1; rw [if_neg (by omega)])
    · have h1 := of_decide_eq_false h1
      exact hskip (by unfold proj1; rw [if_neg (by omega)])
  · rw [take_end (of_decide_eq_false hge) b2] at hr
    have hge := of_decide_eq_false hge
    rw [show n - i.toNat = 0 by omega, List.replicate_zero, List.append_nil] at hr
    intro A' c' H' l' g' hc'
    exact hr.sl l' g' (by simp [b2]) hc' (by show _ * 32 ≤ _; omega) (by omega)
def an26 : Ann where
  res := fun _ => none
  lend := fun _ => false
  sch := fun _ => .done
  lt := fun | 3 => [.slot 5 false [.row 42 91], .slot 6 false [.int .i64]] | _ => []
  tup := tups

theorem vc26 (P : Program) (H : Heap) (vRecordedFrom : Int) (vRecordedTo : Int) (vColumnsA : Option Addr) (vColumnsN vColumnsC : Nat) (valsA : Option Addr) (valsN valsC : Nat) (post : Option Addr → Nat → Nat → Heap → Prop) :
  vcFn P tab an26 Try.f26 [.agg #[.int .i64 vRecordedFrom, .int .i64 vRecordedTo, .slice vColumnsA vColumnsN vColumnsC], .slice valsA valsN valsC] 1 H ⟨false, [(false, [.sl])]⟩ post =
  (  ∃ (inv0 : Nat → List Value → Int → Heap → Prop), ∃ (m1 : Nat → List Value → Int → Nat), inv0 0 [] (0 : Int) H ∧ ∀ (H2 : Heap), Heap.le H H2 → ∀ (n4 : Nat) (xs5 : List Value) (n6 : Int),
  inv0 n4 xs5 n6 H2 → (decide (n6 < (↑vColumnsN : Int)) = true → someA vColumnsA ∧ (0 : Int) ≤ n6 ∧ n6 < (↑vColumnsN : Int) ∧ ∃ (n9 : Int), Cells H2 vColumnsA (Int.toNat n6 * 3 + 0) [.int
  .i64 n9] ∧ (decide ((1 : Int) ≤ n9) = true → (decide (n9 ≤ (↑valsN : Int)) = true → rng .i64 (n9 - (1 : Int)) ∧ someA valsA ∧ (0 : Int) ≤ n9 - (1 : Int) ∧ n9 - (1 : Int) < (↑valsN : Int) ∧
  ∃ (n12 : Int), ∃ (n13 : Int), ∃ (s14 : ByteArray), Cells H2 valsA (Int.toNat (n9 - (1 : Int)) * 3) [.int .i64 n12, .int .i64 n13, .string s14] ∧ (n4 + 1) * 32 ≤ 140737488355328 ∧ rng .i64
  (n6 + (1 : Int)) ∧ inv0 (n4 + 1) (xs5 ++ [.int .i64 n12, .int .i64 n13, .string s14]) (n6 + (1 : Int)) H2 ∧ m1 (n4 + 1) (xs5 ++ [.int .i64 n12, .int .i64 n13, .string s14]) (n6 + (1 : Int))
  < m1 n4 xs5 n6) ∧ (decide (n9 ≤ (↑valsN : Int)) = false → (n4 + 1) * 32 ≤ 140737488355328 ∧ rng .i64 (n6 + (1 : Int)) ∧ inv0 (n4 + 1) (xs5 ++ [.int .i64 (0 : Int), .int .i64 (0 : Int),
  .string ⟨⟨[]⟩⟩]) (n6 + (1 : Int)) H2 ∧ m1 (n4 + 1) (xs5 ++ [.int .i64 (0 : Int), .int .i64 (0 : Int), .string ⟨⟨[]⟩⟩]) (n6 + (1 : Int)) < m1 n4 xs5 n6)) ∧ (decide ((1 : Int) ≤ n9) = false →
  (n4 + 1) * 32 ≤ 140737488355328 ∧ rng .i64 (n6 + (1 : Int)) ∧ inv0 (n4 + 1) (xs5 ++ [.int .i64 (0 : Int), .int .i64 (0 : Int), .string ⟨⟨[]⟩⟩]) (n6 + (1 : Int)) H2 ∧ m1 (n4 + 1) (xs5 ++
  [.int .i64 (0 : Int), .int .i64 (0 : Int), .string ⟨⟨[]⟩⟩]) (n6 + (1 : Int)) < m1 n4 xs5 n6)) ∧ (decide (n6 < (↑vColumnsN : Int)) = false → ∀ (A18 : Option Addr) (c19 : Nat) (H20 : Heap),
  Heap.le H2 H20 → Cells H20 A18 0 xs5 → n4 ≤ c19 → post A18 n4 c19 H20)) := by kernel_rfl
theorem ref21_Project {H : Heap} {a b : Int} {A B : Option Addr} {n c m d : Nat} {cols : List Col} {vals : List Val} (hs : Sl H A n c cols) (ht : Sl H B m d vals) :
    ConT Try.prog 26 [.agg ⟨[.int .i64 a, .int .i64 b, .slice A n c]⟩, .slice B m d] H shS (fun A' n' c' H' => Sl H' A' n' c' (project cols vals)) := by
  refine con_of_vc (an := an26) (fn := Try.f26) mix tabOK Try.func26 (by kernel_rfl) (extra := 1) ?_
  rw [vc26]
  have b1 := hs.bn; have b2 := hs.len; have b3 := hs.bnd; have c1 := ht.bn; have c2 := ht.len
  have b4 : n * 32 ≤ 140737488355328 := b3
  refine ⟨fun n' xs i H' => 0 ≤ i ∧ i ≤ n ∧ n' = i.toNat ∧ Row H' xs (project (cols.take i.toNat) vals), fun _ _ i => n - i.toNat, ⟨by omega, by omega, rfl, rfl⟩, ?_⟩
  rintro H2 hle _ xs i ⟨h0, h1, rfl, hr⟩
  refine ⟨fun hlt => ?_, fun hge => ?_⟩
  · have hlt := of_decide_eq_true hlt
    obtain ⟨hi, hA, _, hc, rfl, q1, q2, q3⟩ := hs.at hle h0 hlt
    have hstep : ∀ vs, Rep.rel H2 vs (proj1 vals cols[i.toNat]) → (i.toNat + 1) * 32 ≤ 140737488355328 ∧ rng .i64 (i + 1) ∧ (0 ≤ i + 1 ∧ i + 1 ≤ n ∧ i.toNat + 1 = (i + 1).toNat ∧ Row H2 (xs ++ vs) (project (cols.take (i + 1).toNat) vals)) ∧ n - (i + 1).toNat < n - i.toNat := by
      intro vs hz
      refine ⟨by omega, by simp only [rng]; omega, ⟨by omega, by omega, by omega, ?_⟩, by omega⟩
      rw [take_at h0 hi, project, List.map_append]
      exact hr.append (Row.one hz)
    refine ⟨hA, h0, hlt, _, hc.at1 (k := 0) rfl, fun h1 => ⟨fun h2 => ?_, fun h2 => ?_⟩, fun h1 => ?_⟩
    · have h1 := of_decide_eq_true h1
      have h2 := of_decide_eq_true h2
      obtain ⟨ki, kA, _, kc, rfl, p1, p2, p3⟩ := ht.at hle (i := cols[i.toNat].id - 1) (by omega) (by omega)
      have hv : proj1 vals cols[i.toNat] = vals[(cols[i.toNat].id - 1).toNat] := by
        unfold proj1; rw [if_pos ⟨h1, by omega⟩, List.getD_eq_getElem?_getD, List.getElem?_eq_getElem ki]; rfl
      exact ⟨by simp only [rng]; omega, kA, by omega, by omega, _, _, _, kc, hstep _ (by rw [hv]; exact ⟨rfl, p1, p2, p3⟩)⟩
    · have h2 := of_decide_eq_false h2
      exact hstep _ (by unfold proj1; rw [if_neg (by omega)]; exact rep_val0)
    · have h1 := of_decide_eq_false h1
      exact hstep _ (by unfold proj1; rw [if_neg (by omega)]; exact rep_val0)
  · rw [take_end (of_decide_eq_false hge) b2] at hr
    have hge := of_decide_eq_false hge
    intro A' c' H' l' g' hc'
    exact hr.sl l' g' (by simp [project]; omega) hc' (by show _ * 32 ≤ _; omega) (by omega)
end Go.Vc
