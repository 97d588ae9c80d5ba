/- Comparing lists of values; the values at columns; periods. -/
import Derived.Test.YtkfbbnagniolcaaB0
import Derived.Test.YtkfbbnagniolcaaN1
set_option linter.unusedSectionVars false
set_option linter.unusedSimpArgs false
set_option linter.unusedVariables false
namespace Go.Vc
open Go Go.Proofs Go.Shelf
theorem lexI_step {T : Type} {f : T → T → Int} {a b : List T} {i : Nat} (ha : i < a.length) (hb : i < b.length) : lexI f (a.drop i) (b.drop i) = if f a[i] b[i] ≠ 0 then f a[i] b[i] else lexI f (a.drop (i + 1)) (b.drop (i + 1)) := by
  rw [List.drop_eq_getElem_cons ha, List.drop_eq_getElem_cons hb, lexI]
theorem lexI_enda {T : Type} {f : T → T → Int} {a b : List T} {i : Nat} (ha : a.length ≤ i) : lexI f (a.drop i) (b.drop i) = if i < b.length then -1 else 0 := by
  rw [List.drop_eq_nil_of_le ha]
  split
  · rename_i hb; rw [List.drop_eq_getElem_cons hb]; rfl
  · rename_i hb; rw [List.drop_eq_nil_of_le (by omega)]; rfl
theorem lexI_endb {T : Type} {f : T → T → Int} {a b : List T} {i : Nat} (ha : i < a.length) (hb : b.length ≤ i) : lexI f (a.drop i) (b.drop i) = 1 := by
  rw [List.drop_eq_getElem_cons ha, List.drop_eq_nil_of_le hb]; rfl
def an52 : Ann where
  res := fun _ => none
  lend := fun | 29 => true | _ => false
  sch := fun _ => .done
  lt := fun | 2 => [.slot 13 false [.int .i64]] | _ => []
  tup := tups

theorem vc52 (P : Program) (H : Heap) (s1A : Option Addr) (s1N s1C : Nat) (s2A : Option Addr) (s2N s2C : Nat) (cmpF : FuncId) (post : Int → Heap → Prop) :
  vcFn P tab an52 Try.f52 [.slice s1A s1N s1C, .slice s2A s2N s2C, .func (.func cmpF) #[] #[]] 0 H ⟨false, [(false, [.int .i64])]⟩ post =
  (  ∃ (inv0 : Int → Heap → Prop), ∃ (m1 : Int → Nat), inv0 (0 : Int) H ∧ ∀ (H2 : Heap), Heap.le H H2 → ∀ (n4 : Int), inv0 n4 H2 → (decide (n4 < (↑s1N : Int)) = true → someA s1A ∧ (0 : Int) ≤ n4
  ∧ n4 < (↑s1N : Int) ∧ ∃ (n7 : Int), ∃ (n8 : Int), ∃ (s9 : ByteArray), Cells H2 s1A (Int.toNat n4 * 3) [.int .i64 n7, .int .i64 n8, .string s9] ∧ (decide ((↑s2N : Int) ≤ n4) = true → post (1
  : Int) H2) ∧ (decide ((↑s2N : Int) ≤ n4) = false → someA s2A ∧ (0 : Int) ≤ n4 ∧ n4 < (↑s2N : Int) ∧ ∃ (n12 : Int), ∃ (n13 : Int), ∃ (s14 : ByteArray), Cells H2 s2A (Int.toNat n4 * 3) [.int
  .i64 n12, .int .i64 n13, .string s14] ∧ ∃ (post15 : Int → Heap → Prop), ConT P cmpF [.agg ⟨[.int .i64 n7, .int .i64 n8, .string s9]⟩, .agg ⟨[.int .i64 n12, .int .i64 n13, .string s14]⟩] H2
  ⟨false, [(false, [.int .i64])]⟩ post15 ∧ ∀ (H16 : Heap), Heap.le H2 H16 → ∀ (n18 : Int), post15 n18 H16 → ((!decide (n18 = (0 : Int))) = true → post n18 H16) ∧ ((!decide (n18 = (0 : Int)))
  = false → rng .i64 (n4 + (1 : Int)) ∧ inv0 (n4 + (1 : Int)) H16 ∧ m1 (n4 + (1 : Int)) < m1 n4))) ∧ (decide (n4 < (↑s1N : Int)) = false → (decide ((↑s1N : Int) < (↑s2N : Int)) = true → post
  (-1 : Int) H2) ∧ (decide ((↑s1N : Int) < (↑s2N : Int)) = false → post (0 : Int) H2))) := by kernel_rfl
theorem CompareFunc_Val {H : Heap} {A B : Option Addr} {n c m d : Nat} {a b : List Val} {g : FuncId} {f : Val → Val → Int} (hs : Sl H A n c a) (ht : Sl H B m d b) (hf : CmpT Try.prog Val H g f) :
    ConT Try.prog 52 [.slice A n c, .slice B m d, .func (.func g) #[] #[]] H shI (fun r _ => r = lexI f a b) := by
  refine con_of_vc (an := an52) (fn := Try.f52) mix tabOK Try.func52 (by kernel_rfl) (extra := 0) ?_
  rw [vc52]
  refine ⟨fun i _ => 0 ≤ i ∧ i ≤ n ∧ lexI f a b = lexI f (a.drop i.toNat) (b.drop i.toNat), fun i => n - i.toNat, ⟨by omega, by omega, rfl⟩, ?_⟩
  rintro H2 hle i ⟨h0, h1, h2⟩
  have hb := hs.bn; have hl := hs.len; have hm := ht.len
  refine ⟨fun hlt => ?_, fun hge => ?_⟩
  · have hlt := of_decide_eq_true hlt
    obtain ⟨hi, hA, _, hc, hr⟩ := hs.at hle h0 hlt
    obtain ⟨rfl, q1, q2, q3⟩ := id hr
    refine ⟨hA, h0, hlt, _, _, _, hc, fun hmb => ?_, fun hmb => ?_⟩
    · have hmb := of_decide_eq_true hmb
      rw [h2, lexI_endb hi (by omega)]
    · have hmb := of_decide_eq_false hmb
      obtain ⟨hj, hB, _, hd, hr'⟩ := ht.at hle h0 (by omega)
      obtain ⟨rfl, p1, p2, p3⟩ := id hr'
      refine ⟨hB, h0, by omega, _, _, _, hd, _, hf H2 _ _ _ _ hle hr hr', ?_⟩
      rintro H3 l3 _ rfl
      rw [lexI_step hi hj] at h2
      refine ⟨fun hne => ?_, fun he => ⟨by simp only [rng]; omega, ⟨by omega, by omega, ?_⟩, by dsimp only; omega⟩⟩
      · rw [h2, if_pos (by simpa using hne)]
      · rw [h2, if_neg (by simpa using he), show (i + 1).toNat = i.toNat + 1 by omega]
  · have hge := of_decide_eq_false hge
    rw [lexI_enda (by omega)] at h2
    refine ⟨fun h => ?_, fun h => ?_⟩
    · have := of_decide_eq_true h
      rw [h2, if_pos (by omega)]
    · have := of_decide_eq_false h
      rw [h2, if_neg (by omega)]
def an32 : Ann where
  res := fun _ => none
  lend := fun | 7 => true | _ => false
  sch := fun _ => .done
  lt := fun _ => []
  tup := tups

theorem vc32 (P : Program) (H : Heap) (aA : Option Addr) (aN aC : Nat) (bA : Option Addr) (bN bC : Nat) (post : Int → Heap → Prop) :
  vcFn P tab an32 Try.f32 [.slice aA aN aC, .slice bA bN bC] 0 H ⟨false, [(false, [.int .i64])]⟩ post =
  (  ∃ (post0 : Int → Heap → Prop), ConT P 52 [.slice aA aN aC, .slice bA bN bC, .func (.func 53) ⟨[]⟩ ⟨[]⟩] H ⟨false, [(false, [.int .i64])]⟩ post0 ∧ ∀ (H1 : Heap), Heap.le H H1 → ∀ (n3 : Int),
  post0 n3 H1 → post n3 H1) := by kernel_rfl
theorem value_CompareRows {H : Heap} {A B : Option Addr} {n c m d : Nat} {a b : List Val} (hs : Sl H A n c a) (ht : Sl H B m d b) :
    ConT Try.prog 32 [.slice A n c, .slice B m d] H shI (fun r _ => r = cmpVs a b) := by
  refine con_of_vc (an := an32) (fn := Try.f32) mix tabOK Try.func32 (by kernel_rfl) (extra := 0) ?_
  rw [vc32]
  exact ⟨_, CompareFunc_Val hs ht (value_Compare_T H), fun _ _ _ h => h⟩
theorem bytesLess_cmpL : ∀ a b : List UInt8, Op.bytesLess a b = decide (Lib.compareBytes a b = -1)
  | [], [] => by simp [Op.bytesLess, Lib.compareBytes]
  | _ :: _, [] => by simp [Op.bytesLess, Lib.compareBytes]
  | [], _ :: _ => by simp [Op.bytesLess, Lib.compareBytes]
  | x :: a, y :: b => by
    simp only [Op.bytesLess, Lib.compareBytes]
    by_cases h1 : x < y
    · simp [h1]
    · by_cases h2 : y < x
      · have : ¬ x = y := fun e => by subst e; exact h1 h2
        simp [h1, h2, this]
      · have : x = y := by
          rw [UInt8.lt_iff_toNat_lt] at h1 h2
          exact UInt8.toNat_inj.1 (by omega)
        subst this
        simp [h1, bytesLess_cmpL a b]
theorem toList_data (a : ByteArray) : a.toList = a.data.toList := ByteArray.toList_eq a
theorem bytesLess_cmp (a b : ByteArray) : Op.bytesLess a.toList b.toList = decide (cmpB a b = -1) := by
  rw [toList_data, toList_data]
  exact bytesLess_cmpL _ _
theorem cmpI_self (x : Int) : cmpI x x = 0 := cmpI_ord.refl x
theorem cmpB_self (x : ByteArray) : cmpB x x = 0 := cmpB_ord.refl x
def an24 : Ann where
  res := fun _ => none
  lend := fun _ => false
  sch := fun _ => .done
  lt := fun _ => []
  tup := tups

theorem vc24 (P : Program) (H : Heap) (aKind : Int) (aN : Int) (aS : ByteArray) (bKind : Int) (bN : Int) (bS : ByteArray) (post : Int → Heap → Prop) :
  vcFn P tab an24 Try.f24 [.agg #[.int .i64 aKind, .int .i64 aN, .string aS], .agg #[.int .i64 bKind, .int .i64 bN, .string bS]] 0 H ⟨false, [(false, [.int .i64])]⟩ post =
  (  (decide (aKind < bKind) = true → post (-1 : Int) H) ∧ (decide (aKind < bKind) = false → (decide (aKind = bKind) = true → (decide (aN < bN) = true → post (-1 : Int) H) ∧ (decide (aN < bN) =
  false → (decide (aKind = bKind) = true → (decide (aN = bN) = true → (Op.bytesLess (ByteArray.toList aS) (ByteArray.toList bS) = true → post (-1 : Int) H) ∧ (Op.bytesLess (ByteArray.toList
  aS) (ByteArray.toList bS) = false → ((decide (aKind = bKind) && (decide (aN = bN) && decide (aS = bS))) = true → post (0 : Int) H) ∧ ((decide (aKind = bKind) && (decide (aN = bN) && decide
  (aS = bS))) = false → post (1 : Int) H))) ∧ (decide (aN = bN) = false → ((decide (aKind = bKind) && (decide (aN = bN) && decide (aS = bS))) = true → post (0 : Int) H) ∧ ((decide (aKind =
  bKind) && (decide (aN = bN) && decide (aS = bS))) = false → post (1 : Int) H))) ∧ (decide (aKind = bKind) = false → ((decide (aKind = bKind) && (decide (aN = bN) && decide (aS = bS))) =
  true → post (0 : Int) H) ∧ ((decide (aKind = bKind) && (decide (aN = bN) && decide (aS = bS))) = false → post (1 : Int) H)))) ∧ (decide (aKind = bKind) = false → (decide (aKind = bKind) =
  true → (decide (aN = bN) = true → (Op.bytesLess (ByteArray.toList aS) (ByteArray.toList bS) = true → post (-1 : Int) H) ∧ (Op.bytesLess (ByteArray.toList aS) (ByteArray.toList bS) = false →
  ((decide (aKind = bKind) && (decide (aN = bN) && decide (aS = bS))) = true → post (0 : Int) H) ∧ ((decide (aKind = bKind) && (decide (aN = bN) && decide (aS = bS))) = false → post (1 : Int)
  H))) ∧ (decide (aN = bN) = false → ((decide (aKind = bKind) && (decide (aN = bN) && decide (aS = bS))) = true → post (0 : Int) H) ∧ ((decide (aKind = bKind) && (decide (aN = bN) && decide
  (aS = bS))) = false → post (1 : Int) H))) ∧ (decide (aKind = bKind) = false → ((decide (aKind = bKind) && (decide (aN = bN) && decide (aS = bS))) = true → post (0 : Int) H) ∧ ((decide
  (aKind = bKind) && (decide (aN = bN) && decide (aS = bS))) = false → post (1 : Int) H))))) := by kernel_rfl
theorem ref6_Compare {a b : Val} {H : Heap} : ConT Try.prog 24 [.agg ⟨[.int .i64 a.kind, .int .i64 a.n, .string a.s]⟩, .agg ⟨[.int .i64 b.kind, .int .i64 b.n, .string b.s]⟩] H shI (fun r _ => r = cmpV a b) := by
  refine con_of_vc (an := an24) (fn := Try.f24) mix tabOK Try.func24 (by kernel_rfl) (extra := 0) ?_
  rw [vc24]
  simp only [bytesLess_cmp]
  have hB := cmpB_ord.sign a.s b.s
  have he := @Ord3.iff _ _ cmpB_ord a.s b.s
  simp only [cmpV, orI]
  rcases Int.lt_trichotomy a.kind b.kind with h | h | h
  · have h' : ¬ a.kind = b.kind := by omega
    have e1 : cmpI a.kind b.kind = -1 := by unfold cmpI; rw [if_pos h]
    simp [h, h', e1]
  · have h' : ¬ a.kind < b.kind := by omega
    have h'' : ¬ b.kind < a.kind := by omega
    have e1 : cmpI a.kind b.kind = 0 := by unfold cmpI; rw [if_neg h', if_neg h'']
    simp only [e1, h, decide_true, Bool.true_and, Int.lt_irrefl, decide_false]
    rcases Int.lt_trichotomy a.n b.n with k | k | k
    · have k' : ¬ a.n = b.n := by omega
      have e2 : cmpI a.n b.n = -1 := by unfold cmpI; rw [if_pos k]
      simp [k, k', e2, cmpI_self]
    · have k' : ¬ a.n < b.n := by omega
      have k'' : ¬ b.n < a.n := by omega
      have e2 : cmpI a.n b.n = 0 := by unfold cmpI; rw [if_neg k', if_neg k'']
      rcases hB with hB | hB | hB
      · have : ¬ a.s = b.s := fun e => by rw [he.2 e] at hB; cases hB
        simp [k, e2, hB, this, cmpI_self, cmpB_self]
      · have := he.1 hB
        simp [k, e2, hB, this, cmpI_self, cmpB_self]
      · have : ¬ a.s = b.s := fun e => by rw [he.2 e] at hB; cases hB
        simp [k, e2, hB, this, cmpI_self, cmpB_self]
    · have k' : ¬ a.n = b.n := by omega
      have k'' : ¬ a.n < b.n := by omega
      have e2 : cmpI a.n b.n = 1 := by unfold cmpI; rw [if_neg k'', if_pos k]
      simp [k', k'', e2, cmpI_self]
  · have h' : ¬ a.kind = b.kind := by omega
    have h'' : ¬ a.kind < b.kind := by omega
    have e1 : cmpI a.kind b.kind = 1 := by unfold cmpI; rw [if_neg h'', if_pos h]
    simp [h', h'', e1]
def an10 : Ann where
  res := fun _ => none
  lend := fun | 27 => true | _ => false
  sch := fun | 4 => (tk [0, 1, 2, 3, 4, 5, 6, 7] (.alt 8 (tk [9] .done) .fin)) | _ => .done
  lt := fun | 2 => [.slot 5 false [.int .i64]] | _ => []
  tup := tups

theorem vc10 (P : Program) (H : Heap) (aA : Option Addr) (aN aC : Nat) (bA : Option Addr) (bN bC : Nat) (post : Int → Heap → Prop) :
  vcFn P tab an10 Try.f10 [.slice aA aN aC, .slice bA bN bC] 0 H ⟨false, [(false, [.int .i64])]⟩ post =
  (  ∃ (inv0 : Int → Heap → Prop), ∃ (m1 : Int → Nat), inv0 (0 : Int) H ∧ ∀ (H2 : Heap), Heap.le H H2 → ∀ (n4 : Int), inv0 n4 H2 → (decide (n4 < (↑aN : Int)) = true → (decide (n4 < (↑bN : Int))
  = true → someA aA ∧ (0 : Int) ≤ n4 ∧ n4 < (↑aN : Int) ∧ ∃ (n8 : Int), ∃ (n9 : Int), ∃ (s10 : ByteArray), Cells H2 aA (Int.toNat n4 * 3) [.int .i64 n8, .int .i64 n9, .string s10] ∧ someA bA
  ∧ (0 : Int) ≤ n4 ∧ n4 < (↑bN : Int) ∧ ∃ (n11 : Int), ∃ (n12 : Int), ∃ (s13 : ByteArray), Cells H2 bA (Int.toNat n4 * 3) [.int .i64 n11, .int .i64 n12, .string s13] ∧ ∃ (post14 : Int → Heap
  → Prop), ConT P 24 [.agg ⟨[.int .i64 n8, .int .i64 n9, .string s10]⟩, .agg ⟨[.int .i64 n11, .int .i64 n12, .string s13]⟩] H2 ⟨false, [(false, [.int .i64])]⟩ post14 ∧ ∀ (H15 : Heap), Heap.le
  H2 H15 → ∀ (n17 : Int), post14 n17 H15 → ((!decide (n17 = (0 : Int))) = true → post n17 H15) ∧ ((!decide (n17 = (0 : Int))) = false → rng .i64 (n4 + (1 : Int)) ∧ inv0 (n4 + (1 : Int)) H15 ∧
  m1 (n4 + (1 : Int)) < m1 n4)) ∧ (decide (n4 < (↑bN : Int)) = false → (decide ((↑aN : Int) < (↑bN : Int)) = true → post (-1 : Int) H2) ∧ (decide ((↑aN : Int) < (↑bN : Int)) = false → (decide
  ((↑bN : Int) < (↑aN : Int)) = true → post (1 : Int) H2) ∧ (decide ((↑bN : Int) < (↑aN : Int)) = false → post (0 : Int) H2)))) ∧ (decide (n4 < (↑aN : Int)) = false → (decide ((↑aN : Int) <
  (↑bN : Int)) = true → post (-1 : Int) H2) ∧ (decide ((↑aN : Int) < (↑bN : Int)) = false → (decide ((↑bN : Int) < (↑aN : Int)) = true → post (1 : Int) H2) ∧ (decide ((↑bN : Int) < (↑aN :
  Int)) = false → post (0 : Int) H2)))) := by kernel_rfl
theorem ref6_CompareRows {H : Heap} {A B : Option Addr} {n c m d : Nat} {a b : List Val} (hs : Sl H A n c a) (ht : Sl H B m d b) :
    ConT Try.prog 10 [.slice A n c, .slice B m d] H shI (fun r _ => r = cmpVs a b) := by
  refine con_of_vc (an := an10) (fn := Try.f10) mix tabOK Try.func10 (by kernel_rfl) (extra := 0) ?_
  rw [vc10]
  refine ⟨fun i _ => 0 ≤ i ∧ i ≤ n ∧ i ≤ m ∧ cmpVs a b = lexI cmpV (a.drop i.toNat) (b.drop i.toNat), fun i => n - i.toNat, ⟨by omega, by omega, by omega, rfl⟩, ?_⟩
  rintro H2 hle i ⟨h0, h1, h1', h2⟩
  have hb := hs.bn; have hl := hs.len; have hm := ht.len
  refine ⟨fun hlt => ?_, fun hge => ?_⟩
  · have hlt := of_decide_eq_true hlt
    refine ⟨fun hmb => ?_, fun hmb => ?_⟩
    · have hmb := of_decide_eq_true hmb
      obtain ⟨hi, hA, _, hc, hr⟩ := hs.at hle h0 hlt
      obtain ⟨rfl, q1, q2, q3⟩ := id hr
      obtain ⟨hj, hB, _, hd, hr'⟩ := ht.at hle h0 (by omega)
      obtain ⟨rfl, p1, p2, p3⟩ := id hr'
      refine ⟨hA, h0, hlt, _, _, _, hc, hB, h0, by omega, _, _, _, hd, _, ref6_Compare, ?_⟩
      rintro H3 l3 _ rfl
      rw [lexI_step hi hj] at h2
      refine ⟨fun hne => ?_, fun he => ⟨by simp only [rng]; omega, ⟨by omega, by omega, by omega, ?_⟩, by dsimp only; omega⟩⟩
      · rw [h2, if_pos (by simpa using hne)]
      · rw [h2, if_neg (by simpa using he), show (i + 1).toNat = i.toNat + 1 by omega]
    · have hmb := of_decide_eq_false hmb
      rw [lexI_endb (by omega) (by omega)] at h2
      exact ⟨fun h => by have := of_decide_eq_true h; omega, fun h => ⟨fun _ => h2.symm, fun h => by have := of_decide_eq_false h; omega⟩⟩
  · have hge := of_decide_eq_false hge
    rw [lexI_enda (by omega)] at h2
    refine ⟨fun h => ?_, fun h => ⟨fun h' => ?_, fun h' => ?_⟩⟩
    · have := of_decide_eq_true h
      rw [h2, if_pos (by omega)]
    · have := of_decide_eq_false h; have := of_decide_eq_true h'; omega
    · have := of_decide_eq_false h; have := of_decide_eq_false h'
      rw [h2, if_neg (by omega)]
def val0 : Val := ⟨0, 0, ⟨#[]⟩⟩
def keyVal (vals : List Val) (c : Int) : Val := if 0 ≤ c then vals.getD c.toNat val0 else val0
def keyVals (vals : List Val) (cols : List Int) : List Val := cols.map (keyVal vals)
theorem kv_skip {vals : List Val} {cols : List Int} {m i : Nat} (hi : i < cols.length) (hm : cols.length = m) (hv : keyVal vals cols[i] = val0) :
    keyVals vals (cols.take i) ++ List.replicate (m - i) val0 = keyVals vals (cols.take (i + 1)) ++ List.replicate (m - (i + 1)) val0 := by
  rw [List.take_succ_eq_append_getElem hi, keyVals, keyVals, List.map_append, show m - i = (m - (i + 1)) + 1 by omega, List.replicate_succ]
  simp [hv]
theorem kv_set {vals : List Val} {cols : List Int} {m i : Nat} (hi : i < cols.length) (hm : cols.length = m) {v : Val} (hv : keyVal vals cols[i] = v) :
    (keyVals vals (cols.take i) ++ List.replicate (m - i) val0).set i v = keyVals vals (cols.take (i + 1)) ++ List.replicate (m - (i + 1)) val0 := by
  rw [List.take_succ_eq_append_getElem hi, keyVals, keyVals, List.map_append, show m - i = (m - (i + 1)) + 1 by omega, List.replicate_succ]
  have hl : ((cols.take i).map (keyVal vals)).length = i := by simp; omega
  rw [List.set_append_right _ _ (by omega), hl, Nat.sub_self]
  simp [hv]
def an11 : Ann where
  res := fun _ => none
  lend := fun _ => false
  sch := fun _ => .done
  lt := fun | 3 => [.slot 5 false [.row 35 57], .slot 13 false [.int .i64]] | _ => []
  tup := tups

theorem vc11 (P : Program) (H : Heap) (valsA : Option Addr) (valsN valsC : Nat) (colsA : Option Addr) (colsN colsC : Nat) (post : Option Addr → Nat → Nat → Heap → Prop) :
  vcFn P tab an11 Try.f11 [.slice valsA valsN valsC, .slice colsA colsN colsC] 1 H ⟨false, [(false, [.sl])]⟩ post =
  (  (↑colsN : Int) = (↑colsN : Int) ∧ (0 : Int) ≤ (↑colsN : Int) ∧ (↑colsN : Int) * (↑32 : Int) ≤ (140737488355328 : Int) ∧ ∀ (xs0 : List Value), xs0 = repl [.int .i64 (0 : Int), .int .i64 (0 :
  Int), .string ⟨⟨[]⟩⟩] (Int.toNat (↑colsN : Int)) → ∃ (inv2 : Nat → List Value → Int → Heap → Prop), ∃ (m3 : Nat → List Value → Int → Nat), inv2 (Int.toNat (↑colsN : Int)) xs0 (0 : Int) H ∧
  ∀ (H4 : Heap), Heap.le H H4 → ∀ (n6 : Nat) (xs7 : List Value) (n8 : Int), inv2 n6 xs7 n8 H4 → (decide (n8 < (↑colsN : Int)) = true → someA colsA ∧ (0 : Int) ≤ n8 ∧ n8 < (↑colsN : Int) ∧ ∃
  (n11 : Int), Cells H4 colsA (Int.toNat n8 * 1) [.int .i64 n11] ∧ (decide ((0 : Int) ≤ n11) = true → (decide (n11 < (↑valsN : Int)) = true → someA valsA ∧ (0 : Int) ≤ n11 ∧ n11 < (↑valsN :
  Int) ∧ ∃ (n14 : Int), ∃ (n15 : Int), ∃ (s16 : ByteArray), Cells H4 valsA (Int.toNat n11 * 3) [.int .i64 n14, .int .i64 n15, .string s16] ∧ (0 : Int) ≤ n8 ∧ n8 < (↑n6 : Int) ∧ Int.toNat n8 *
  3 + 3 ≤ List.length xs7 ∧ rng .i64 (n8 + (1 : Int)) ∧ inv2 n6 (splice xs7 (Int.toNat n8 * 3) [.int .i64 n14, .int .i64 n15, .string s16]) (n8 + (1 : Int)) H4 ∧ m3 n6 (splice xs7 (Int.toNat
  n8 * 3) [.int .i64 n14, .int .i64 n15, .string s16]) (n8 + (1 : Int)) < m3 n6 xs7 n8) ∧ (decide (n11 < (↑valsN : Int)) = false → rng .i64 (n8 + (1 : Int)) ∧ inv2 n6 xs7 (n8 + (1 : Int)) H4
  ∧ m3 n6 xs7 (n8 + (1 : Int)) < m3 n6 xs7 n8)) ∧ (decide ((0 : Int) ≤ n11) = false → rng .i64 (n8 + (1 : Int)) ∧ inv2 n6 xs7 (n8 + (1 : Int)) H4 ∧ m3 n6 xs7 (n8 + (1 : Int)) < m3 n6 xs7 n8))
  ∧ (decide (n8 < (↑colsN : Int)) = false → ∀ (A20 : Option Addr) (c21 : Nat) (H22 : Heap), Heap.le H4 H22 → Cells H22 A20 0 xs7 → n6 ≤ c21 → post A20 n6 c21 H22)) := by kernel_rfl
theorem keys_Values {H : Heap} {A B : Option Addr} {n c m d : Nat} {vals : List Val} {cols : List Int} (hs : Sl H A n c vals) (ht : Sl H B m d cols) (hb : m * 32 ≤ 140737488355328) :
    ConT Try.prog 11 [.slice A n c, .slice B m d] H shS (fun A' n' c' H' => Sl H' A' n' c' (keyVals vals cols)) := by
  refine con_of_vc (an := an11) (fn := Try.f11) mix tabOK Try.func11 (by kernel_rfl) (extra := 1) ?_
  rw [vc11]
  have hbn := ht.bn; have hl := hs.len; have hm := ht.len
  refine ⟨rfl, by omega, by simpa using (by omega : (m : Int) * 32 ≤ 140737488355328), ?_⟩
  rintro xs rfl
  refine ⟨fun k xs i H' => 0 ≤ i ∧ i ≤ m ∧ k = m ∧ Row H' xs (keyVals vals (cols.take i.toNat) ++ List.replicate (m - i.toNat) val0), fun _ _ i => m - i.toNat, ⟨by omega, by omega, by omega, ?_⟩, ?_⟩
  · simp only [Int.toNat_natCast, List.take_zero, keyVals, List.map_nil, List.nil_append, Int.toNat_zero, Nat.sub_zero]
    exact Row.zeros (H := H) (T := Val) (t := val0) (show Rep.rel H _ val0 from ⟨rfl, by decide, by decide, by unfold str val0; decide⟩) m
  rintro H2 hle k xs i ⟨h0, h1, rfl, hr⟩
  have hrl := hr.length
  have hlen : (keyVals vals (cols.take i.toNat) ++ List.replicate (k - i.toNat) val0).length = k := by simp [keyVals]; omega
  have e1 : (i + 1).toNat = i.toNat + 1 := by omega
  refine ⟨fun hlt => ?_, fun hge => ?_⟩
  · have hlt := of_decide_eq_true hlt
    obtain ⟨hi, hA, _, hc, ⟨rfl, -⟩⟩ := ht.at hle h0 hlt
    have skip : keyVal vals cols[i.toNat] = val0 → rng .i64 (i + 1) ∧ (0 ≤ i + 1 ∧ i + 1 ≤ k ∧ k = k ∧ Row H2 xs (keyVals vals (cols.take (i + 1).toNat) ++ List.replicate (k - (i + 1).toNat) val0)) ∧ k - (i + 1).toNat < k - i.toNat := fun hv =>
      ⟨by simp only [rng]; omega, ⟨by omega, by omega, rfl, by rw [e1, ← kv_skip hi hm hv]; exact hr⟩, by omega⟩
    refine ⟨hA, h0, hlt, _, hc, fun hp => ⟨fun hq => ?_, fun hq => ?_⟩, fun hp => ?_⟩
    · have hp := of_decide_eq_true hp; have hq := of_decide_eq_true hq
      obtain ⟨hj, hB, _, hd, hv⟩ := hs.at hle hp hq
      have hset := hr.setw (i := i.toNat) (by omega) hv
      obtain ⟨rfl, q1, q2, q3⟩ := hv
      refine ⟨hB, hp, hq, _, _, _, hd, h0, by omega, ?_, by simp only [rng]; omega, ⟨by omega, by omega, rfl, ?_⟩, by dsimp only; omega⟩
      · rw [hrl, hlen]
        show i.toNat * 3 + 3 ≤ k * 3
        omega
      · rw [kv_set hi hm (v := vals[cols[i.toNat].toNat]) (by unfold keyVal; rw [if_pos hp, List.getD_eq_getElem?_getD, List.getElem?_eq_getElem hj]; rfl), ← e1] at hset
        exact hset
    · have hp := of_decide_eq_true hp; have hq := of_decide_eq_false hq
      exact skip (by unfold keyVal; rw [if_pos hp, List.getD_eq_getElem?_getD, List.getElem?_eq_none (by omega)]; rfl)
    · have hp := of_decide_eq_false hp
      exact skip (by unfold keyVal; rw [if_neg hp])
  · have hge := of_decide_eq_false hge
    intro A2 c2 H3 l3 hc2 hn2
    have : keyVals vals (cols.take i.toNat) ++ List.replicate (k - i.toNat) val0 = keyVals vals cols := by
      rw [show k - i.toNat = 0 by omega, List.take_of_length_le (by omega)]; simp
    rw [this] at hr
    exact hr.sl l3 hc2 (by simp [keyVals]; omega) hn2 hb hbn
def an37 : Ann where
  res := fun _ => none
  lend := fun _ => false
  sch := fun _ => .done
  lt := fun _ => []
  tup := tups

theorem vc37 (P : Program) (H : Heap) (pFrom : Int) (pTo : Int) (post : Bool → Heap → Prop) :
  vcFn P tab an37 Try.f37 [.agg #[.int .i64 pFrom, .int .i64 pTo]] 0 H ⟨false, [(false, [.bool])]⟩ post =
  (  (decide ((0 : Int) ≤ pFrom) = true → (decide (pFrom < pTo) = true → post (decide (pTo ≤ (1099511627776 : Int))) H) ∧ (decide (pFrom < pTo) = false → post false H)) ∧ (decide ((0 : Int) ≤
  pFrom) = false → post false H)) := by kernel_rfl
theorem period_Valid {a b : Int} {H : Heap} : ConT Try.prog 37 [.agg ⟨[.int .i64 a, .int .i64 b]⟩] H shB (fun r _ => r = pOk ⟨a, b⟩) := by
  refine con_of_vc (an := an37) (fn := Try.f37) mix tabOK Try.func37 (by kernel_rfl) (extra := 0) ?_
  rw [vc37]
  grind [pOk]
end Go.Vc
