/- The reference's MergeLineage. -/
import Derived.Test.YtkfbbnagniolcaaGH715
import Derived.Test.YtkfbbnagniolcaaGH72
set_option linter.unusedSectionVars false
set_option linter.unusedSimpArgs false
set_option linter.unusedVariables false
namespace Go.Vc
open Go Go.Proofs Go.Shelf
/- ascending without duplicates, the members of p -/
structure InsP (out p : List Int) : Prop where
  asc : out.Pairwise (fun a b => a < b)
  mem : ∀ y, y ∈ out ↔ y ∈ p
  len : out.length ≤ p.length
theorem InsP.nil : InsP [] [] := ⟨List.Pairwise.nil, fun _ => Iff.rfl, Nat.le_refl _⟩
theorem InsP.old {out p : List Int} {x : Int} (h : InsP out p) (hx : x ∈ out) : InsP out (p ++ [x]) := by
  refine ⟨h.asc, fun y => ?_, by have := h.len; simp; omega⟩
  rw [List.mem_append, List.mem_singleton, ← h.mem]
  exact ⟨.inl, fun h => h.elim id (fun e => e ▸ hx)⟩
theorem InsP.ins {out p : List Int} {x : Int} {k : Nat} (h : InsP out p) (hk : k ≤ out.length) (hlt : ∀ y ∈ out.take k, y < x) (hge : ∀ z, out[k]? = some z → x < z) :
    InsP (out.take k ++ [x] ++ out.drop k) (p ++ [x]) := by
  have hall : ∀ y ∈ out.drop k, x < y := by
    intro y hy
    by_cases hk' : k < out.length
    · have hd : out.drop k = out[k] :: out.drop (k + 1) := List.drop_eq_getElem_cons hk'
      have hs := List.Pairwise.sublist (List.drop_sublist k out) h.asc
      rw [hd] at hy hs
      have := hge _ (List.getElem?_eq_getElem hk')
      rcases List.mem_cons.1 hy with rfl | hy
      · exact this
      · have := (List.pairwise_cons.1 hs).1 y hy
        omega
    · rw [List.drop_eq_nil_of_le (by omega)] at hy; cases hy
  refine ⟨?_, fun y => ?_, ?_⟩
  · refine List.pairwise_append.2 ⟨List.pairwise_append.2 ⟨List.Pairwise.sublist (List.take_sublist k out) h.asc, by simp, fun a ha b hb => ?_⟩, List.Pairwise.sublist (List.drop_sublist k out) h.asc, fun a ha b hb => ?_⟩
    · simp at hb; subst hb; exact hlt a ha
    · have := hall b hb
      rcases List.mem_append.1 ha with ha | ha
      · have := hlt a ha; omega
      · simp at ha; subst ha; omega
  · rw [List.mem_append, List.mem_append, List.mem_append, ← h.mem y]
    conv => rhs; rw [← List.take_append_drop k out, List.mem_append]
    constructor
    · rintro ((h | h) | h)
      · exact .inl (.inl h)
      · exact .inr h
      · exact .inl (.inr h)
    · rintro ((h | h) | h)
      · exact .inl (.inl h)
      · exact .inr h
      · exact .inl (.inr h)
  · have := h.len
    simp only [List.length_append, List.length_take, List.length_drop, List.length_cons, List.length_nil]; omega
theorem asc_unique {l m : List Int} (hl : l.Pairwise (fun a b => a < b)) (hm : m.Pairwise (fun a b => a < b)) (h : ∀ y, y ∈ l ↔ y ∈ m) : l = m := by
  have n1 : l.Nodup := hl.imp (fun h => by omega)
  have n2 : m.Nodup := hm.imp (fun h => by omega)
  exact List.Perm.eq_of_pairwise (le := fun a b : Int => a < b) (fun a b _ _ h h' => by omega) hl hm ((List.perm_ext_iff_of_nodup n1 n2).2 h)
theorem mergeLin_asc (a b : List Int) : (mergeLin a b).Pairwise (fun a b => a < b) := compact_asc _ (sortI_asc _)
theorem mergeLin_mem (a b : List Int) (y : Int) : y ∈ mergeLin a b ↔ y ∈ a ∨ y ∈ b := by
  rw [mergeLin, compact_mem, sortI, List.mem_mergeSort, List.mem_append]
theorem InsP.eq {out a b : List Int} (h : InsP out (a ++ b)) : out = mergeLin a b :=
  asc_unique h.asc (mergeLin_asc a b) fun y => by rw [h.mem, mergeLin_mem, List.mem_append]
def mlInv (p : List Int) (A : Option Addr) (n c : Nat) (H : Heap) : Prop := ∃ out, Sl H A n c out ∧ InsP out p
def InsAlt (H24 : Heap) (A33 A35 : Option Addr) (n26 : Int) (n16 : Nat) (n21 : Int) (R : Prop) (K : Option Addr → Nat → Nat → Heap → Prop) : Prop :=
  ∃ (ys37 : List Value), Cells H24 A33 0 ys37 ∧ List.length ys37 = (Int.toNat n26 - Int.toNat (0 : Int)) * 1 ∧ (Int.toNat n26 - Int.toNat (0 : Int)) * 8 ≤ 140737488355328 ∧ (Int.toNat n26 - Int.toNat (0 : Int) + 1) * 8 ≤ 140737488355328 ∧
    ∃ (ys38 : List Value), Cells H24 A35 0 ys38 ∧ List.length ys38 = (Int.toNat (↑n16 : Int) - Int.toNat n26) * 1 ∧ (Int.toNat n26 - Int.toNat (0 : Int) + 1 + (Int.toNat (↑n16 : Int) - Int.toNat n26)) * 8 ≤ 140737488355328 ∧ R ∧
    ∀ (A39 : Option Addr) (c40 : Nat) (H41 : Heap), Heap.le H24 H41 → Cells H41 A39 0 (ys37 ++ [.int .i64 n21] ++ ys38) → Int.toNat n26 - Int.toNat (0 : Int) + 1 + (Int.toNat (↑n16 : Int) - Int.toNat n26) ≤ c40 →
      K A39 (Int.toNat n26 - Int.toNat (0 : Int) + 1 + (Int.toNat (↑n16 : Int) - Int.toNat n26)) c40 H41
def InsF (H : Heap) (A : Option Addr) (n c : Nat) (k x : Int) (R : Prop) (K : Option Addr → Nat → Nat → Heap → Prop) : Prop :=
  (0 : Int) ≤ (0 : Int) ∧ (0 : Int) ≤ k ∧ k ≤ (↑c : Int) ∧ ∀ (A33 : Option Addr), A33 = subA A c (Int.toNat (0 : Int)) 1 → (0 : Int) ≤ k ∧ k ≤ (↑n : Int) ∧ (↑n : Int) ≤ (↑c : Int) ∧ ∀ (A35 : Option Addr), A35 = subA A c (Int.toNat k) 1 →
    InsAlt H A33 A35 k n x R K ∧ InsAlt H A33 A35 k n x R K
theorem insF_ok {H : Heap} {A : Option Addr} {n c : Nat} {k x : Int} {R : Prop} {K : Option Addr → Nat → Nat → Heap → Prop} {out : List Int} (hs : Sl H A n c out) (h0 : 0 ≤ k) (hk : k ≤ n) (hb : (n + 1) * 8 ≤ 140737488355328) (hR : R) (hx : rng .i64 x)
    (hK : ∀ A' m c' H', m = n + 1 → Heap.le H H' → Sl H' A' m c' (out.take k.toNat ++ [x] ++ out.drop k.toNat) → K A' m c' H') : InsF H A n c k x R K := by
  have hl := hs.len; have hc := hs.cap
  refine ⟨by omega, h0, by omega, ?_⟩
  rintro _ rfl
  refine ⟨h0, hk, by omega, ?_⟩
  rintro _ rfl
  have s1 := hs.sub (j := 0) (k := k.toNat) (by omega) (by omega)
  have s2 := hs.sub (j := k.toNat) (k := n) (by omega) (by omega)
  rw [List.drop_zero] at s1
  rw [List.take_of_length_le (by omega)] at s2
  obtain ⟨ys1, u1, u2⟩ := s1.row
  obtain ⟨ys2, v1, v2⟩ := s2.row
  have e1 : Int.toNat k - Int.toNat (0 : Int) + 1 + (Int.toNat (↑n : Int) - Int.toNat k) = n + 1 := by simp; omega
  have key : InsAlt H (subA A c (Int.toNat (0 : Int)) 1) (subA A c (Int.toNat k) 1) k n x R K := by
    refine ⟨ys1, u1, ?_, ?_, ?_, ys2, v1, ?_, ?_, hR, fun A' c' H' l hc' hn' => hK _ _ _ _ e1 l ?_⟩
    · rw [u2.length, List.length_take]; simp; show _ * 1 = _; omega
    · simp; omega
    · simp; omega
    · rw [v2.length, List.length_drop]; simp; show _ * 1 = _; omega
    · rw [e1]; exact hb
    · refine Row.sl (H := H) ((u2.append (Row.one ⟨rfl, hx⟩)).append v2) l hc' ?_ hn' ?_ ?_
      · rw [e1]; simp; omega
      · rw [e1]; exact hb
      · rw [e1]; omega
  exact ⟨key, key⟩
def MLT (inv11 : Option Addr → Nat → Nat → Int → Heap → Prop) (m12 : Option Addr → Nat → Nat → Int → Nat) (H24 : Heap) (A15 : Option Addr) (n16 c17 : Nat) (n18 n21 n26 : Int) : Prop :=
  (decide (n26 = (↑n16 : Int)) = true → InsF H24 A15 n16 c17 n26 n21 (rng .i64 (n18 + 1)) fun A m c H' => inv11 A m c (n18 + 1) H' ∧ m12 A m c (n18 + 1) < m12 A15 n16 c17 n18) ∧
  (decide (n26 = (↑n16 : Int)) = false → someA A15 ∧ (0 : Int) ≤ n26 ∧ n26 < (↑n16 : Int) ∧ ∃ (n54 : Int), Cells H24 A15 (Int.toNat n26 * 1) [.int .i64 n54] ∧
    ((!decide (n54 = n21)) = true → InsF H24 A15 n16 c17 n26 n21 (rng .i64 (n18 + 1)) fun A m c H' => inv11 A m c (n18 + 1) H' ∧ m12 A m c (n18 + 1) < m12 A15 n16 c17 n18) ∧
    ((!decide (n54 = n21)) = false → rng .i64 (n18 + (1 : Int)) ∧ inv11 A15 n16 c17 (n18 + (1 : Int)) H24 ∧ m12 A15 n16 c17 (n18 + (1 : Int)) < m12 A15 n16 c17 n18))
def MLI (H2 : Heap) (aA : Option Addr) (aN : Nat) (A4 : Option Addr) (n5 c6 : Nat) (K : Option Addr → Nat → Nat → Heap → Prop) : Prop :=
  ∃ (inv11 : Option Addr → Nat → Nat → Int → Heap → Prop), ∃ (m12 : Option Addr → Nat → Nat → Int → Nat), inv11 A4 n5 c6 (0 : Int) H2 ∧ ∀ (H13 : Heap), Heap.le H2 H13 → ∀ (A15 : Option Addr) (n16 c17 : Nat) (n18 : Int), inv11 A15 n16 c17 n18 H13 →
    (decide (n18 < (↑aN : Int)) = true → someA aA ∧ (0 : Int) ≤ n18 ∧ n18 < (↑aN : Int) ∧ ∃ (n21 : Int), Cells H13 aA (Int.toNat n18 * 1) [.int .i64 n21] ∧ ∃ (inv22 : Int → Heap → Prop), ∃ (m23 : Int → Nat), inv22 (0 : Int) H13 ∧
      ∀ (H24 : Heap), Heap.le H13 H24 → ∀ (n26 : Int), inv22 n26 H24 →
        (decide (n26 < (↑n16 : Int)) = true → someA A15 ∧ (0 : Int) ≤ n26 ∧ n26 < (↑n16 : Int) ∧ ∃ (n29 : Int), Cells H24 A15 (Int.toNat n26 * 1) [.int .i64 n29] ∧
          (decide (n29 < n21) = true → rng .i64 (n26 + (1 : Int)) ∧ inv22 (n26 + (1 : Int)) H24 ∧ m23 (n26 + (1 : Int)) < m23 n26) ∧ (decide (n29 < n21) = false → MLT inv11 m12 H24 A15 n16 c17 n18 n21 n26)) ∧
        (decide (n26 < (↑n16 : Int)) = false → MLT inv11 m12 H24 A15 n16 c17 n18 n21 n26)) ∧
    (decide (n18 < (↑aN : Int)) = false → K A15 n16 c17 H13)
theorem mli {H H2 : Heap} {aA : Option Addr} {aN aC : Nat} {a p : List Int} (hs : Sl H aA aN aC a) (hle : Heap.le H H2) (hb : (p.length + aN) * 8 ≤ 140737488355328) {A4 : Option Addr} {n5 c6 : Nat} (h : mlInv p A4 n5 c6 H2)
    {K : Option Addr → Nat → Nat → Heap → Prop} (hK : ∀ A n c H', Heap.le H2 H' → mlInv (p ++ a) A n c H' → K A n c H') : MLI H2 aA aN A4 n5 c6 K := by
  have hal := hs.len
  refine ⟨fun A n c j H' => 0 ≤ j ∧ j ≤ aN ∧ mlInv (p ++ a.take j.toNat) A n c H', fun _ _ _ j => aN - j.toNat, ⟨by omega, by omega, by simpa using h⟩, ?_⟩
  rintro H13 l13 A15 n16 c17 j ⟨j0, j1, out, ho, hi⟩
  have hol := ho.len
  have hil := hi.len
  rw [List.length_append, List.length_take] at hil
  refine ⟨fun hlt => ?_, fun hge => ?_⟩
  · have hlt := of_decide_eq_true hlt
    obtain ⟨hj, hA, _, hc, ⟨rfl, hx⟩⟩ := hs.at (hle_trans hle l13) j0 hlt
    have hsu : p ++ a.take (j + 1).toNat = (p ++ a.take j.toNat) ++ [a[j.toNat]] := by
      rw [show (j + 1).toNat = j.toNat + 1 by omega, List.take_succ_eq_append_getElem hj, List.append_assoc]
    generalize a[j.toNat] = x at hc hx hsu
    refine ⟨hA, j0, hlt, x, hc, fun k _ => 0 ≤ k ∧ k ≤ n16 ∧ ∀ y ∈ out.take k.toNat, y < x, fun k => n16 - k.toNat, ⟨by omega, by omega, by simp⟩, ?_⟩
    rintro H24 l24 k ⟨k0, k1, hbel⟩
    have ho24 := ho.mono l24
    have ins : (∀ z, out[k.toNat]? = some z → x < z) → InsF H24 A15 n16 c17 k x (rng .i64 (j + 1)) fun A m c H' => (0 ≤ j + 1 ∧ j + 1 ≤ aN ∧ mlInv (p ++ a.take (j + 1).toNat) A m c H') ∧ aN - (j + 1).toNat < aN - j.toNat := by
      have hins := hi.ins (x := x) (k := k.toNat) (by omega) hbel
      intro hge
      have hins := hins hge
      clear hge
      refine insF_ok ho24 k0 k1 (by omega) (by simp only [rng]; omega) hx ?_
      rintro A' m c' H' - l' hs'
      refine ⟨⟨by omega, by omega, _, hs', ?_⟩, by omega⟩
      rw [hsu]
      exact hins
    have tail : (∀ z, out[k.toNat]? = some z → x ≤ z) → MLT (fun A n c j H' => 0 ≤ j ∧ j ≤ aN ∧ mlInv (p ++ a.take j.toNat) A n c H') (fun _ _ _ j => aN - j.toNat) H24 A15 n16 c17 j x k := by
      intro hge
      refine ⟨fun he => ins fun z hz => ?_, fun he => ?_⟩
      · have he := of_decide_eq_true he
        rw [List.getElem?_eq_none (by omega)] at hz; cases hz
      · have he := of_decide_eq_false he
        have hkn0 : k < n16 := by omega
        obtain ⟨hk, hB, _, hd, ⟨rfl, hx'⟩⟩ := ho.at l24 k0 hkn0
        have hg := hge _ (List.getElem?_eq_getElem hk)
        have hkn : k < n16 := by omega
        refine ⟨hB, k0, hkn, _, hd, fun hne => ?_, fun heq => ⟨by simp only [rng]; omega, ⟨by omega, by omega, out, ho24, ?_⟩, by dsimp only; omega⟩⟩
        · have hne : ¬ out[k.toNat] = x := by simpa using hne
          have hlt' : x < out[k.toNat] := by omega
          exact ins fun z hz => by rw [List.getElem?_eq_getElem hk] at hz; cases hz; exact hlt'
        · have heq : out[k.toNat] = x := by simpa using heq
          rw [hsu]
          exact hi.old (heq ▸ List.getElem_mem hk)
    refine ⟨fun hlk => ?_, fun hgk => ?_⟩
    · have hlk := of_decide_eq_true hlk
      obtain ⟨hk, hB, _, hd, ⟨rfl, hx'⟩⟩ := ho.at l24 k0 hlk
      refine ⟨hB, k0, hlk, _, hd, fun h1 => ⟨by simp only [rng]; omega, ⟨by omega, by omega, ?_⟩, by dsimp only; omega⟩, fun h1 => ?_⟩
      · have h1 := of_decide_eq_true h1
        rw [show (k + 1).toNat = k.toNat + 1 by omega, List.take_succ_eq_append_getElem hk]
        intro y hy
        rcases List.mem_append.1 hy with hy | hy
        · exact hbel y hy
        · simp at hy; subst hy; exact h1
      · have h1 := of_decide_eq_false h1
        have h2 : x ≤ out[k.toNat] := by omega
        exact tail fun z hz => by rw [List.getElem?_eq_getElem hk] at hz; cases hz; exact h2
    · have hgk := of_decide_eq_false hgk
      have h2 : ¬ k.toNat < out.length := by omega
      exact tail fun z hz => by rw [List.getElem?_eq_none (by omega)] at hz; cases hz
  · have hge := of_decide_eq_false hge
    rw [List.take_of_length_le (by omega)] at hi
    exact hK _ _ _ _ l13 ⟨out, ho, hi⟩
def an46 : Ann where
  res := fun _ => none
  lend := fun _ => false
  sch := fun | 12 => (tk [0, 1, 2, 4, 7, 8, 9] (.alt 3 (.alt 5 (.alt 6 (.alt 10 (tk [11] .done) .fin) .fin) .fin) (.alt 5 (.alt 3 (.alt 6 (.alt 10 (tk [11] .done) .fin) .fin) .fin) .fin))) | _ => .done
  lt := fun | 3 => [.slot 5 false [.sl], .slot 14 false [.int .i64]] | 6 => [.slot 5 false [.sl], .slot 19 false [.int .i64]] | 9 => [.slot 10 false [.int .i64]] | _ => []
  tup := tups

theorem vc46 (P : Program) (H : Heap) (aA : Option Addr) (aN aC : Nat) (bA : Option Addr) (bN bC : Nat) (post : Option Addr → Nat → Nat → Heap → Prop) :
  vcFn P tab an46 Try.f46 [.slice aA aN aC, .slice bA bN bC] 0 H ⟨false, [(false, [.sl])]⟩ post =
  (  ∃ (inv0 : Option Addr → Nat → Nat → Int → Heap → Prop), ∃ (m1 : Option Addr → Nat → Nat → Int → Nat), inv0 none 0 0 (0 : Int) H ∧ ∀ (H2 : Heap), Heap.le H H2 → ∀ (A4 : Option Addr) (n5 c6 :
  Nat) (n7 : Int), inv0 A4 n5 c6 n7 H2 → (decide (n7 < (2 : Int)) = true → (0 : Int) ≤ n7 ∧ n7 < (↑2 : Int) ∧ (n7 = (↑0 : Int) → ∃ (inv11 : Option Addr → Nat → Nat → Int → Heap → Prop), ∃
  (m12 : Option Addr → Nat → Nat → Int → Nat), inv11 A4 n5 c6 (0 : Int) H2 ∧ ∀ (H13 : Heap), Heap.le H2 H13 → ∀ (A15 : Option Addr) (n16 c17 : Nat) (n18 : Int), inv11 A15 n16 c17 n18 H13 →
  (decide (n18 < (↑aN : Int)) = true → someA aA ∧ (0 : Int) ≤ n18 ∧ n18 < (↑aN : Int) ∧ ∃ (n21 : Int), Cells H13 aA (Int.toNat n18 * 1) [.int .i64 n21] ∧ ∃ (inv22 : Int → Heap → Prop), ∃ (m23
  : Int → Nat), inv22 (0 : Int) H13 ∧ ∀ (H24 : Heap), Heap.le H13 H24 → ∀ (n26 : Int), inv22 n26 H24 → (decide (n26 < (↑n16 : Int)) = true → someA A15 ∧ (0 : Int) ≤ n26 ∧ n26 < (↑n16 : Int) ∧
  ∃ (n29 : Int), Cells H24 A15 (Int.toNat n26 * 1) [.int .i64 n29] ∧ (decide (n29 < n21) = true → rng .i64 (n26 + (1 : Int)) ∧ inv22 (n26 + (1 : Int)) H24 ∧ m23 (n26 + (1 : Int)) < m23 n26) ∧
  (decide (n29 < n21) = false → (decide (n26 = (↑n16 : Int)) = true → (0 : Int) ≤ (0 : Int) ∧ (0 : Int) ≤ n26 ∧ n26 ≤ (↑c17 : Int) ∧ ∀ (A33 : Option Addr), A33 = subA A15 c17 (Int.toNat (0 :
  Int)) 1 → (0 : Int) ≤ n26 ∧ n26 ≤ (↑n16 : Int) ∧ (↑n16 : Int) ≤ (↑c17 : Int) ∧ ∀ (A35 : Option Addr), A35 = subA A15 c17 (Int.toNat n26) 1 → (∃ (ys37 : List Value), Cells H24 A33 0 ys37 ∧
  List.length ys37 = (Int.toNat n26 - Int.toNat (0 : Int)) * 1 ∧ (Int.toNat n26 - Int.toNat (0 : Int)) * 8 ≤ 140737488355328 ∧ (Int.toNat n26 - Int.toNat (0 : Int) + 1) * 8 ≤ 140737488355328
  ∧ ∃ (ys38 : List Value), Cells H24 A35 0 ys38 ∧ List.length ys38 = (Int.toNat (↑n16 : Int) - Int.toNat n26) * 1 ∧ (Int.toNat n26 - Int.toNat (0 : Int) + 1 + (Int.toNat (↑n16 : Int) -
  Int.toNat n26)) * 8 ≤ 140737488355328 ∧ rng .i64 (n18 + (1 : Int)) ∧ ∀ (A39 : Option Addr) (c40 : Nat) (H41 : Heap), Heap.le H24 H41 → Cells H41 A39 0 (ys37 ++ [.int .i64 n21] ++ ys38) →
  Int.toNat n26 - Int.toNat (0 : Int) + 1 + (Int.toNat (↑n16 : Int) - Int.toNat n26) ≤ c40 → inv11 A39 (Int.toNat n26 - Int.toNat (0 : Int) + 1 + (Int.toNat (↑n16 : Int) - Int.toNat n26)) c40
  (n18 + (1 : Int)) H41 ∧ m12 A39 (Int.toNat n26 - Int.toNat (0 : Int) + 1 + (Int.toNat (↑n16 : Int) - Int.toNat n26)) c40 (n18 + (1 : Int)) < m12 A15 n16 c17 n18) ∧ ∃ (ys45 : List Value),
  Cells H24 A33 0 ys45 ∧ List.length ys45 = (Int.toNat n26 - Int.toNat (0 : Int)) * 1 ∧ (Int.toNat n26 - Int.toNat (0 : Int)) * 8 ≤ 140737488355328 ∧ (Int.toNat n26 - Int.toNat (0 : Int) + 1)
  * 8 ≤ 140737488355328 ∧ ∃ (ys46 : List Value), Cells H24 A35 0 ys46 ∧ List.length ys46 = (Int.toNat (↑n16 : Int) - Int.toNat n26) * 1 ∧ (Int.toNat n26 - Int.toNat (0 : Int) + 1 + (Int.toNat
  (↑n16 : Int) - Int.toNat n26)) * 8 ≤ 140737488355328 ∧ rng .i64 (n18 + (1 : Int)) ∧ ∀ (A47 : Option Addr) (c48 : Nat) (H49 : Heap), Heap.le H24 H49 → Cells H49 A47 0 (ys45 ++ [.int .i64
  n21] ++ ys46) → Int.toNat n26 - Int.toNat (0 : Int) + 1 + (Int.toNat (↑n16 : Int) - Int.toNat n26) ≤ c48 → inv11 A47 (Int.toNat n26 - Int.toNat (0 : Int) + 1 + (Int.toNat (↑n16 : Int) -
  Int.toNat n26)) c48 (n18 + (1 : Int)) H49 ∧ m12 A47 (Int.toNat n26 - Int.toNat (0 : Int) + 1 + (Int.toNat (↑n16 : Int) - Int.toNat n26)) c48 (n18 + (1 : Int)) < m12 A15 n16 c17 n18) ∧
  (decide (n26 = (↑n16 : Int)) = false → someA A15 ∧ (0 : Int) ≤ n26 ∧ n26 < (↑n16 : Int) ∧ ∃ (n54 : Int), Cells H24 A15 (Int.toNat n26 * 1) [.int .i64 n54] ∧ ((!decide (n54 = n21)) = true →
  (0 : Int) ≤ (0 : Int) ∧ (0 : Int) ≤ n26 ∧ n26 ≤ (↑c17 : Int) ∧ ∀ (A56 : Option Addr), A56 = subA A15 c17 (Int.toNat (0 : Int)) 1 → (0 : Int) ≤ n26 ∧ n26 ≤ (↑n16 : Int) ∧ (↑n16 : Int) ≤
  (↑c17 : Int) ∧ ∀ (A58 : Option Addr), A58 = subA A15 c17 (Int.toNat n26) 1 → (∃ (ys60 : List Value), Cells H24 A56 0 ys60 ∧ List.length ys60 = (Int.toNat n26 - Int.toNat (0 : Int)) * 1 ∧
  (Int.toNat n26 - Int.toNat (0 : Int)) * 8 ≤ 140737488355328 ∧ (Int.toNat n26 - Int.toNat (0 : Int) + 1) * 8 ≤ 140737488355328 ∧ ∃ (ys61 : List Value), Cells H24 A58 0 ys61 ∧ List.length
  ys61 = (Int.toNat (↑n16 : Int) - Int.toNat n26) * 1 ∧ (Int.toNat n26 - Int.toNat (0 : Int) + 1 + (Int.toNat (↑n16 : Int) - Int.toNat n26)) * 8 ≤ 140737488355328 ∧ rng .i64 (n18 + (1 : Int))
  ∧ ∀ (A62 : Option Addr) (c63 : Nat) (H64 : Heap), Heap.le H24 H64 → Cells H64 A62 0 (ys60 ++ [.int .i64 n21] ++ ys61) → Int.toNat n26 - Int.toNat (0 : Int) + 1 + (Int.toNat (↑n16 : Int) -
  Int.toNat n26) ≤ c63 → inv11 A62 (Int.toNat n26 - Int.toNat (0 : Int) + 1 + (Int.toNat (↑n16 : Int) - Int.toNat n26)) c63 (n18 + (1 : Int)) H64 ∧ m12 A62 (Int.toNat n26 - Int.toNat (0 :
  Int) + 1 + (Int.toNat (↑n16 : Int) - Int.toNat n26)) c63 (n18 + (1 : Int)) < m12 A15 n16 c17 n18) ∧ ∃ (ys68 : List Value), Cells H24 A56 0 ys68 ∧ List.length ys68 = (Int.toNat n26 -
  Int.toNat (0 : Int)) * 1 ∧ (Int.toNat n26 - Int.toNat (0 : Int)) * 8 ≤ 140737488355328 ∧ (Int.toNat n26 - Int.toNat (0 : Int) + 1) * 8 ≤ 140737488355328 ∧ ∃ (ys69 : List Value), Cells H24
  A58 0 ys69 ∧ List.length ys69 = (Int.toNat (↑n16 : Int) - Int.toNat n26) * 1 ∧ (Int.toNat n26 - Int.toNat (0 : Int) + 1 + (Int.toNat (↑n16 : Int) - Int.toNat n26)) * 8 ≤ 140737488355328 ∧
  rng .i64 (n18 + (1 : Int)) ∧ ∀ (A70 : Option Addr) (c71 : Nat) (H72 : Heap), Heap.le H24 H72 → Cells H72 A70 0 (ys68 ++ [.int .i64 n21] ++ ys69) → Int.toNat n26 - Int.toNat (0 : Int) + 1 +
  (Int.toNat (↑n16 : Int) - Int.toNat n26) ≤ c71 → inv11 A70 (Int.toNat n26 - Int.toNat (0 : Int) + 1 + (Int.toNat (↑n16 : Int) - Int.toNat n26)) c71 (n18 + (1 : Int)) H72 ∧ m12 A70
  (Int.toNat n26 - Int.toNat (0 : Int) + 1 + (Int.toNat (↑n16 : Int) - Int.toNat n26)) c71 (n18 + (1 : Int)) < m12 A15 n16 c17 n18) ∧ ((!decide (n54 = n21)) = false → rng .i64 (n18 + (1 :
  Int)) ∧ inv11 A15 n16 c17 (n18 + (1 : Int)) H24 ∧ m12 A15 n16 c17 (n18 + (1 : Int)) < m12 A15 n16 c17 n18)))) ∧ (decide (n26 < (↑n16 : Int)) = false → (decide (n26 = (↑n16 : Int)) = true →
  (0 : Int) ≤ (0 : Int) ∧ (0 : Int) ≤ n26 ∧ n26 ≤ (↑c17 : Int) ∧ ∀ (A79 : Option Addr), A79 = subA A15 c17 (Int.toNat (0 : Int)) 1 → (0 : Int) ≤ n26 ∧ n26 ≤ (↑n16 : Int) ∧ (↑n16 : Int) ≤
  (↑c17 : Int) ∧ ∀ (A81 : Option Addr), A81 = subA A15 c17 (Int.toNat n26) 1 → (∃ (ys83 : List Value), Cells H24 A79 0 ys83 ∧ List.length ys83 = (Int.toNat n26 - Int.toNat (0 : Int)) * 1 ∧
  (Int.toNat n26 - Int.toNat (0 : Int)) * 8 ≤ 140737488355328 ∧ (Int.toNat n26 - Int.toNat (0 : Int) + 1) * 8 ≤ 140737488355328 ∧ ∃ (ys84 : List Value), Cells H24 A81 0 ys84 ∧ List.length
  ys84 = (Int.toNat (↑n16 : Int) - Int.toNat n26) * 1 ∧ (Int.toNat n26 - Int.toNat (0 : Int) + 1 + (Int.toNat (↑n16 : Int) - Int.toNat n26)) * 8 ≤ 140737488355328 ∧ rng .i64 (n18 + (1 : Int))
  ∧ ∀ (A85 : Option Addr) (c86 : Nat) (H87 : Heap), Heap.le H24 H87 → Cells H87 A85 0 (ys83 ++ [.int .i64 n21] ++ ys84) → Int.toNat n26 - Int.toNat (0 : Int) + 1 + (Int.toNat (↑n16 : Int) -
  Int.toNat n26) ≤ c86 → inv11 A85 (Int.toNat n26 - Int.toNat (0 : Int) + 1 + (Int.toNat (↑n16 : Int) - Int.toNat n26)) c86 (n18 + (1 : Int)) H87 ∧ m12 A85 (Int.toNat n26 - Int.toNat (0 :
  Int) + 1 + (Int.toNat (↑n16 : Int) - Int.toNat n26)) c86 (n18 + (1 : Int)) < m12 A15 n16 c17 n18) ∧ ∃ (ys91 : List Value), Cells H24 A79 0 ys91 ∧ List.length ys91 = (Int.toNat n26 -
  Int.toNat (0 : Int)) * 1 ∧ (Int.toNat n26 - Int.toNat (0 : Int)) * 8 ≤ 140737488355328 ∧ (Int.toNat n26 - Int.toNat (0 : Int) + 1) * 8 ≤ 140737488355328 ∧ ∃ (ys92 : List Value), Cells H24
  A81 0 ys92 ∧ List.length ys92 = (Int.toNat (↑n16 : Int) - Int.toNat n26) * 1 ∧ (Int.toNat n26 - Int.toNat (0 : Int) + 1 + (Int.toNat (↑n16 : Int) - Int.toNat n26)) * 8 ≤ 140737488355328 ∧
  rng .i64 (n18 + (1 : Int)) ∧ ∀ (A93 : Option Addr) (c94 : Nat) (H95 : Heap), Heap.le H24 H95 → Cells H95 A93 0 (ys91 ++ [.int .i64 n21] ++ ys92) → Int.toNat n26 - Int.toNat (0 : Int) + 1 +
  (Int.toNat (↑n16 : Int) - Int.toNat n26) ≤ c94 → inv11 A93 (Int.toNat n26 - Int.toNat (0 : Int) + 1 + (Int.toNat (↑n16 : Int) - Int.toNat n26)) c94 (n18 + (1 : Int)) H95 ∧ m12 A93
  (Int.toNat n26 - Int.toNat (0 : Int) + 1 + (Int.toNat (↑n16 : Int) - Int.toNat n26)) c94 (n18 + (1 : Int)) < m12 A15 n16 c17 n18) ∧ (decide (n26 = (↑n16 : Int)) = false → someA A15 ∧ (0 :
  Int) ≤ n26 ∧ n26 < (↑n16 : Int) ∧ ∃ (n100 : Int), Cells H24 A15 (Int.toNat n26 * 1) [.int .i64 n100] ∧ ((!decide (n100 = n21)) = true → (0 : Int) ≤ (0 : Int) ∧ (0 : Int) ≤ n26 ∧ n26 ≤ (↑c17
  : Int) ∧ ∀ (A102 : Option Addr), A102 = subA A15 c17 (Int.toNat (0 : Int)) 1 → (0 : Int) ≤ n26 ∧ n26 ≤ (↑n16 : Int) ∧ (↑n16 : Int) ≤ (↑c17 : Int) ∧ ∀ (A104 : Option Addr), A104 = subA A15
  c17 (Int.toNat n26) 1 → (∃ (ys106 : List Value), Cells H24 A102 0 ys106 ∧ List.length ys106 = (Int.toNat n26 - Int.toNat (0 : Int)) * 1 ∧ (Int.toNat n26 - Int.toNat (0 : Int)) * 8 ≤
  140737488355328 ∧ (Int.toNat n26 - Int.toNat (0 : Int) + 1) * 8 ≤ 140737488355328 ∧ ∃ (ys107 : List Value), Cells H24 A104 0 ys107 ∧ List.length ys107 = (Int.toNat (↑n16 : Int) - Int.toNat
  n26) * 1 ∧ (Int.toNat n26 - Int.toNat (0 : Int) + 1 + (Int.toNat (↑n16 : Int) - Int.toNat n26)) * 8 ≤ 140737488355328 ∧ rng .i64 (n18 + (1 : Int)) ∧ ∀ (A108 : Option Addr) (c109 : Nat)
  (H110 : Heap), Heap.le H24 H110 → Cells H110 A108 0 (ys106 ++ [.int .i64 n21] ++ ys107) → Int.toNat n26 - Int.toNat (0 : Int) + 1 + (Int.toNat (↑n16 : Int) - Int.toNat n26) ≤ c109 → inv11
  A108 (Int.toNat n26 - Int.toNat (0 : Int) + 1 + (Int.toNat (↑n16 : Int) - Int.toNat n26)) c109 (n18 + (1 : Int)) H110 ∧ m12 A108 (Int.toNat n26 - Int.toNat (0 : Int) + 1 + (Int.toNat (↑n16
  : Int) - Int.toNat n26)) c109 (n18 + (1 : Int)) < m12 A15 n16 c17 n18) ∧ ∃ (ys114 : List Value), Cells H24 A102 0 ys114 ∧ List.length ys114 = (Int.toNat n26 - Int.toNat (0 : Int)) * 1 ∧
  (Int.toNat n26 - Int.toNat (0 : Int)) * 8 ≤ 140737488355328 ∧ (Int.toNat n26 - Int.toNat (0 : Int) + 1) * 8 ≤ 140737488355328 ∧ ∃ (ys115 : List Value), Cells H24 A104 0 ys115 ∧ List.length
  ys115 = (Int.toNat (↑n16 : Int) - Int.toNat n26) * 1 ∧ (Int.toNat n26 - Int.toNat (0 : Int) + 1 + (Int.toNat (↑n16 : Int) - Int.toNat n26)) * 8 ≤ 140737488355328 ∧ rng .i64 (n18 + (1 :
  Int)) ∧ ∀ (A116 : Option Addr) (c117 : Nat) (H118 : Heap), Heap.le H24 H118 → Cells H118 A116 0 (ys114 ++ [.int .i64 n21] ++ ys115) → Int.toNat n26 - Int.toNat (0 : Int) + 1 + (Int.toNat
  (↑n16 : Int) - Int.toNat n26) ≤ c117 → inv11 A116 (Int.toNat n26 - Int.toNat (0 : Int) + 1 + (Int.toNat (↑n16 : Int) - Int.toNat n26)) c117 (n18 + (1 : Int)) H118 ∧ m12 A116 (Int.toNat n26
  - Int.toNat (0 : Int) + 1 + (Int.toNat (↑n16 : Int) - Int.toNat n26)) c117 (n18 + (1 : Int)) < m12 A15 n16 c17 n18) ∧ ((!decide (n100 = n21)) = false → rng .i64 (n18 + (1 : Int)) ∧ inv11
  A15 n16 c17 (n18 + (1 : Int)) H24 ∧ m12 A15 n16 c17 (n18 + (1 : Int)) < m12 A15 n16 c17 n18)))) ∧ (decide (n18 < (↑aN : Int)) = false → rng .i64 (n7 + (1 : Int)) ∧ inv0 A15 n16 c17 (n7 + (1
  : Int)) H13 ∧ m1 A15 n16 c17 (n7 + (1 : Int)) < m1 A4 n5 c6 n7)) ∧ (n7 = (↑1 : Int) → ∃ (inv125 : Option Addr → Nat → Nat → Int → Heap → Prop), ∃ (m126 : Option Addr → Nat → Nat → Int →
  Nat), inv125 A4 n5 c6 (0 : Int) H2 ∧ ∀ (H127 : Heap), Heap.le H2 H127 → ∀ (A129 : Option Addr) (n130 c131 : Nat) (n132 : Int), inv125 A129 n130 c131 n132 H127 → (decide (n132 < (↑bN : Int))
  = true → someA bA ∧ (0 : Int) ≤ n132 ∧ n132 < (↑bN : Int) ∧ ∃ (n135 : Int), Cells H127 bA (Int.toNat n132 * 1) [.int .i64 n135] ∧ ∃ (inv136 : Int → Heap → Prop), ∃ (m137 : Int → Nat),
  inv136 (0 : Int) H127 ∧ ∀ (H138 : Heap), Heap.le H127 H138 → ∀ (n140 : Int), inv136 n140 H138 → (decide (n140 < (↑n130 : Int)) = true → someA A129 ∧ (0 : Int) ≤ n140 ∧ n140 < (↑n130 : Int)
  ∧ ∃ (n143 : Int), Cells H138 A129 (Int.toNat n140 * 1) [.int .i64 n143] ∧ (decide (n143 < n135) = true → rng .i64 (n140 + (1 : Int)) ∧ inv136 (n140 + (1 : Int)) H138 ∧ m137 (n140 + (1 :
  Int)) < m137 n140) ∧ (decide (n143 < n135) = false → (decide (n140 = (↑n130 : Int)) = true → (0 : Int) ≤ (0 : Int) ∧ (0 : Int) ≤ n140 ∧ n140 ≤ (↑c131 : Int) ∧ ∀ (A147 : Option Addr), A147 =
  subA A129 c131 (Int.toNat (0 : Int)) 1 → (0 : Int) ≤ n140 ∧ n140 ≤ (↑n130 : Int) ∧ (↑n130 : Int) ≤ (↑c131 : Int) ∧ ∀ (A149 : Option Addr), A149 = subA A129 c131 (Int.toNat n140) 1 → (∃
  (ys151 : List Value), Cells H138 A147 0 ys151 ∧ List.length ys151 = (Int.toNat n140 - Int.toNat (0 : Int)) * 1 ∧ (Int.toNat n140 - Int.toNat (0 : Int)) * 8 ≤ 140737488355328 ∧ (Int.toNat
  n140 - Int.toNat (0 : Int) + 1) * 8 ≤ 140737488355328 ∧ ∃ (ys152 : List Value), Cells H138 A149 0 ys152 ∧ List.length ys152 = (Int.toNat (↑n130 : Int) - Int.toNat n140) * 1 ∧ (Int.toNat
  n140 - Int.toNat (0 : Int) + 1 + (Int.toNat (↑n130 : Int) - Int.toNat n140)) * 8 ≤ 140737488355328 ∧ rng .i64 (n132 + (1 : Int)) ∧ ∀ (A153 : Option Addr) (c154 : Nat) (H155 : Heap), Heap.le
  H138 H155 → Cells H155 A153 0 (ys151 ++ [.int .i64 n135] ++ ys152) → Int.toNat n140 - Int.toNat (0 : Int) + 1 + (Int.toNat (↑n130 : Int) - Int.toNat n140) ≤ c154 → inv125 A153 (Int.toNat
  n140 - Int.toNat (0 : Int) + 1 + (Int.toNat (↑n130 : Int) - Int.toNat n140)) c154 (n132 + (1 : Int)) H155 ∧ m126 A153 (Int.toNat n140 - Int.toNat (0 : Int) + 1 + (Int.toNat (↑n130 : Int) -
  Int.toNat n140)) c154 (n132 + (1 : Int)) < m126 A129 n130 c131 n132) ∧ ∃ (ys159 : List Value), Cells H138 A147 0 ys159 ∧ List.length ys159 = (Int.toNat n140 - Int.toNat (0 : Int)) * 1 ∧
  (Int.toNat n140 - Int.toNat (0 : Int)) * 8 ≤ 140737488355328 ∧ (Int.toNat n140 - Int.toNat (0 : Int) + 1) * 8 ≤ 140737488355328 ∧ ∃ (ys160 : List Value), Cells H138 A149 0 ys160 ∧
  List.length ys160 = (Int.toNat (↑n130 : Int) - Int.toNat n140) * 1 ∧ (Int.toNat n140 - Int.toNat (0 : Int) + 1 + (Int.toNat (↑n130 : Int) - Int.toNat n140)) * 8 ≤ 140737488355328 ∧ rng .i64
  (n132 + (1 : Int)) ∧ ∀ (A161 : Option Addr) (c162 : Nat) (H163 : Heap), Heap.le H138 H163 → Cells H163 A161 0 (ys159 ++ [.int .i64 n135] ++ ys160) → Int.toNat n140 - Int.toNat (0 : Int) + 1
  + (Int.toNat (↑n130 : Int) - Int.toNat n140) ≤ c162 → inv125 A161 (Int.toNat n140 - Int.toNat (0 : Int) + 1 + (Int.toNat (↑n130 : Int) - Int.toNat n140)) c162 (n132 + (1 : Int)) H163 ∧ m126
  A161 (Int.toNat n140 - Int.toNat (0 : Int) + 1 + (Int.toNat (↑n130 : Int) - Int.toNat n140)) c162 (n132 + (1 : Int)) < m126 A129 n130 c131 n132) ∧ (decide (n140 = (↑n130 : Int)) = false →
  someA A129 ∧ (0 : Int) ≤ n140 ∧ n140 < (↑n130 : Int) ∧ ∃ (n168 : Int), Cells H138 A129 (Int.toNat n140 * 1) [.int .i64 n168] ∧ ((!decide (n168 = n135)) = true → (0 : Int) ≤ (0 : Int) ∧ (0 :
  Int) ≤ n140 ∧ n140 ≤ (↑c131 : Int) ∧ ∀ (A170 : Option Addr), A170 = subA A129 c131 (Int.toNat (0 : Int)) 1 → (0 : Int) ≤ n140 ∧ n140 ≤ (↑n130 : Int) ∧ (↑n130 : Int) ≤ (↑c131 : Int) ∧ ∀
  (A172 : Option Addr), A172 = subA A129 c131 (Int.toNat n140) 1 → (∃ (ys174 : List Value), Cells H138 A170 0 ys174 ∧ List.length ys174 = (Int.toNat n140 - Int.toNat (0 : Int)) * 1 ∧
  (Int.toNat n140 - Int.toNat (0 : Int)) * 8 ≤ 140737488355328 ∧ (Int.toNat n140 - Int.toNat (0 : Int) + 1) * 8 ≤ 140737488355328 ∧ ∃ (ys175 : List Value), Cells H138 A172 0 ys175 ∧
  List.length ys175 = (Int.toNat (↑n130 : Int) - Int.toNat n140) * 1 ∧ (Int.toNat n140 - Int.toNat (0 : Int) + 1 + (Int.toNat (↑n130 : Int) - Int.toNat n140)) * 8 ≤ 140737488355328 ∧ rng .i64
  (n132 + (1 : Int)) ∧ ∀ (A176 : Option Addr) (c177 : Nat) (H178 : Heap), Heap.le H138 H178 → Cells H178 A176 0 (ys174 ++ [.int .i64 n135] ++ ys175) → Int.toNat n140 - Int.toNat (0 : Int) + 1
  + (Int.toNat (↑n130 : Int) - Int.toNat n140) ≤ c177 → inv125 A176 (Int.toNat n140 - Int.toNat (0 : Int) + 1 + (Int.toNat (↑n130 : Int) - Int.toNat n140)) c177 (n132 + (1 : Int)) H178 ∧ m126
  A176 (Int.toNat n140 - Int.toNat (0 : Int) + 1 + (Int.toNat (↑n130 : Int) - Int.toNat n140)) c177 (n132 + (1 : Int)) < m126 A129 n130 c131 n132) ∧ ∃ (ys182 : List Value), Cells H138 A170 0
  ys182 ∧ List.length ys182 = (Int.toNat n140 - Int.toNat (0 : Int)) * 1 ∧ (Int.toNat n140 - Int.toNat (0 : Int)) * 8 ≤ 140737488355328 ∧ (Int.toNat n140 - Int.toNat (0 : Int) + 1) * 8 ≤
  140737488355328 ∧ ∃ (ys183 : List Value), Cells H138 A172 0 ys183 ∧ List.length ys183 = (Int.toNat (↑n130 : Int) - Int.toNat n140) * 1 ∧ (Int.toNat n140 - Int.toNat (0 : Int) + 1 +
  (Int.toNat (↑n130 : Int) - Int.toNat n140)) * 8 ≤ 140737488355328 ∧ rng .i64 (n132 + (1 : Int)) ∧ ∀ (A184 : Option Addr) (c185 : Nat) (H186 : Heap), Heap.le H138 H186 → Cells H186 A184 0
  (ys182 ++ [.int .i64 n135] ++ ys183) → Int.toNat n140 - Int.toNat (0 : Int) + 1 + (Int.toNat (↑n130 : Int) - Int.toNat n140) ≤ c185 → inv125 A184 (Int.toNat n140 - Int.toNat (0 : Int) + 1 +
  (Int.toNat (↑n130 : Int) - Int.toNat n140)) c185 (n132 + (1 : Int)) H186 ∧ m126 A184 (Int.toNat n140 - Int.toNat (0 : Int) + 1 + (Int.toNat (↑n130 : Int) - Int.toNat n140)) c185 (n132 + (1
  : Int)) < m126 A129 n130 c131 n132) ∧ ((!decide (n168 = n135)) = false → rng .i64 (n132 + (1 : Int)) ∧ inv125 A129 n130 c131 (n132 + (1 : Int)) H138 ∧ m126 A129 n130 c131 (n132 + (1 : Int))
  < m126 A129 n130 c131 n132)))) ∧ (decide (n140 < (↑n130 : Int)) = false → (decide (n140 = (↑n130 : Int)) = true → (0 : Int) ≤ (0 : Int) ∧ (0 : Int) ≤ n140 ∧ n140 ≤ (↑c131 : Int) ∧ ∀ (A193 :
  Option Addr), A193 = subA A129 c131 (Int.toNat (0 : Int)) 1 → (0 : Int) ≤ n140 ∧ n140 ≤ (↑n130 : Int) ∧ (↑n130 : Int) ≤ (↑c131 : Int) ∧ ∀ (A195 : Option Addr), A195 = subA A129 c131
  (Int.toNat n140) 1 → (∃ (ys197 : List Value), Cells H138 A193 0 ys197 ∧ List.length ys197 = (Int.toNat n140 - Int.toNat (0 : Int)) * 1 ∧ (Int.toNat n140 - Int.toNat (0 : Int)) * 8 ≤
  140737488355328 ∧ (Int.toNat n140 - Int.toNat (0 : Int) + 1) * 8 ≤ 140737488355328 ∧ ∃ (ys198 : List Value), Cells H138 A195 0 ys198 ∧ List.length ys198 = (Int.toNat (↑n130 : Int) -
  Int.toNat n140) * 1 ∧ (Int.toNat n140 - Int.toNat (0 : Int) + 1 + (Int.toNat (↑n130 : Int) - Int.toNat n140)) * 8 ≤ 140737488355328 ∧ rng .i64 (n132 + (1 : Int)) ∧ ∀ (A199 : Option Addr)
  (c200 : Nat) (H201 : Heap), Heap.le H138 H201 → Cells H201 A199 0 (ys197 ++ [.int .i64 n135] ++ ys198) → Int.toNat n140 - Int.toNat (0 : Int) + 1 + (Int.toNat (↑n130 : Int) - Int.toNat
  n140) ≤ c200 → inv125 A199 (Int.toNat n140 - Int.toNat (0 : Int) + 1 + (Int.toNat (↑n130 : Int) - Int.toNat n140)) c200 (n132 + (1 : Int)) H201 ∧ m126 A199 (Int.toNat n140 - Int.toNat (0 :
  Int) + 1 + (Int.toNat (↑n130 : Int) - Int.toNat n140)) c200 (n132 + (1 : Int)) < m126 A129 n130 c131 n132) ∧ ∃ (ys205 : List Value), Cells H138 A193 0 ys205 ∧ List.length ys205 = (Int.toNat
  n140 - Int.toNat (0 : Int)) * 1 ∧ (Int.toNat n140 - Int.toNat (0 : Int)) * 8 ≤ 140737488355328 ∧ (Int.toNat n140 - Int.toNat (0 : Int) + 1) * 8 ≤ 140737488355328 ∧ ∃ (ys206 : List Value),
  Cells H138 A195 0 ys206 ∧ List.length ys206 = (Int.toNat (↑n130 : Int) - Int.toNat n140) * 1 ∧ (Int.toNat n140 - Int.toNat (0 : Int) + 1 + (Int.toNat (↑n130 : Int) - Int.toNat n140)) * 8 ≤
  140737488355328 ∧ rng .i64 (n132 + (1 : Int)) ∧ ∀ (A207 : Option Addr) (c208 : Nat) (H209 : Heap), Heap.le H138 H209 → Cells H209 A207 0 (ys205 ++ [.int .i64 n135] ++ ys206) → Int.toNat
  n140 - Int.toNat (0 : Int) + 1 + (Int.toNat (↑n130 : Int) - Int.toNat n140) ≤ c208 → inv125 A207 (Int.toNat n140 - Int.toNat (0 : Int) + 1 + (Int.toNat (↑n130 : Int) - Int.toNat n140)) c208
  (n132 + (1 : Int)) H209 ∧ m126 A207 (Int.toNat n140 - Int.toNat (0 : Int) + 1 + (Int.toNat (↑n130 : Int) - Int.toNat n140)) c208 (n132 + (1 : Int)) < m126 A129 n130 c131 n132) ∧ (decide
  (n140 = (↑n130 : Int)) = false → someA A129 ∧ (0 : Int) ≤ n140 ∧ n140 < (↑n130 : Int) ∧ ∃ (n214 : Int), Cells H138 A129 (Int.toNat n140 * 1) [.int .i64 n214] ∧ ((!decide (n214 = n135)) =
  true → (0 : Int) ≤ (0 : Int) ∧ (0 : Int) ≤ n140 ∧ n140 ≤ (↑c131 : Int) ∧ ∀ (A216 : Option Addr), A216 = subA A129 c131 (Int.toNat (0 : Int)) 1 → (0 : Int) ≤ n140 ∧ n140 ≤ (↑n130 : Int) ∧
  (↑n130 : Int) ≤ (↑c131 : Int) ∧ ∀ (A218 : Option Addr), A218 = subA A129 c131 (Int.toNat n140) 1 → (∃ (ys220 : List Value), Cells H138 A216 0 ys220 ∧ List.length ys220 = (Int.toNat n140 -
  Int.toNat (0 : Int)) * 1 ∧ (Int.toNat n140 - Int.toNat (0 : Int)) * 8 ≤ 140737488355328 ∧ (Int.toNat n140 - Int.toNat (0 : Int) + 1) * 8 ≤ 140737488355328 ∧ ∃ (ys221 : List Value), Cells
  H138 A218 0 ys221 ∧ List.length ys221 = (Int.toNat (↑n130 : Int) - Int.toNat n140) * 1 ∧ (Int.toNat n140 - Int.toNat (0 : Int) + 1 + (Int.toNat (↑n130 : Int) - Int.toNat n140)) * 8 ≤
  140737488355328 ∧ rng .i64 (n132 + (1 : Int)) ∧ ∀ (A222 : Option Addr) (c223 : Nat) (H224 : Heap), Heap.le H138 H224 → Cells H224 A222 0 (ys220 ++ [.int .i64 n135] ++ ys221) → Int.toNat
  n140 - Int.toNat (0 : Int) + 1 + (Int.toNat (↑n130 : Int) - Int.toNat n140) ≤ c223 → inv125 A222 (Int.toNat n140 - Int.toNat (0 : Int) + 1 + (Int.toNat (↑n130 : Int) - Int.toNat n140)) c223
  (n132 + (1 : Int)) H224 ∧ m126 A222 (Int.toNat n140 - Int.toNat (0 : Int) + 1 + (Int.toNat (↑n130 : Int) - Int.toNat n140)) c223 (n132 + (1 : Int)) < m126 A129 n130 c131 n132) ∧ ∃ (ys228 :
  List Value), Cells H138 A216 0 ys228 ∧ List.length ys228 = (Int.toNat n140 - Int.toNat (0 : Int)) * 1 ∧ (Int.toNat n140 - Int.toNat (0 : Int)) * 8 ≤ 140737488355328 ∧ (Int.toNat n140 -
  Int.toNat (0 : Int) + 1) * 8 ≤ 140737488355328 ∧ ∃ (ys229 : List Value), Cells H138 A218 0 ys229 ∧ List.length ys229 = (Int.toNat (↑n130 : Int) - Int.toNat n140) * 1 ∧ (Int.toNat n140 -
  Int.toNat (0 : Int) + 1 + (Int.toNat (↑n130 : Int) - Int.toNat n140)) * 8 ≤ 140737488355328 ∧ rng .i64 (n132 + (1 : Int)) ∧ ∀ (A230 : Option Addr) (c231 : Nat) (H232 : Heap), Heap.le H138
  H232 → Cells H232 A230 0 (ys228 ++ [.int .i64 n135] ++ ys229) → Int.toNat n140 - Int.toNat (0 : Int) + 1 + (Int.toNat (↑n130 : Int) - Int.toNat n140) ≤ c231 → inv125 A230 (Int.toNat n140 -
  Int.toNat (0 : Int) + 1 + (Int.toNat (↑n130 : Int) - Int.toNat n140)) c231 (n132 + (1 : Int)) H232 ∧ m126 A230 (Int.toNat n140 - Int.toNat (0 : Int) + 1 + (Int.toNat (↑n130 : Int) -
  Int.toNat n140)) c231 (n132 + (1 : Int)) < m126 A129 n130 c131 n132) ∧ ((!decide (n214 = n135)) = false → rng .i64 (n132 + (1 : Int)) ∧ inv125 A129 n130 c131 (n132 + (1 : Int)) H138 ∧ m126
  A129 n130 c131 (n132 + (1 : Int)) < m126 A129 n130 c131 n132)))) ∧ (decide (n132 < (↑bN : Int)) = false → rng .i64 (n7 + (1 : Int)) ∧ inv0 A129 n130 c131 (n7 + (1 : Int)) H127 ∧ m1 A129
  n130 c131 (n7 + (1 : Int)) < m1 A4 n5 c6 n7)) ∧ True) ∧ (decide (n7 < (2 : Int)) = false → post A4 n5 c6 H2)) := by kernel_rfl
set_option maxHeartbeats 1000000 in
theorem ref6_MergeLineage {H : Heap} {A B : Option Addr} {n c m d : Nat} {a b : List Int} (hs : Sl H A n c a) (ht : Sl H B m d b) (hb : (n + m) * 8 ≤ 140737488355328) :
    ConT Try.prog 46 [.slice A n c, .slice B m d] H shS (fun A' n' c' H' => Sl H' A' n' c' (mergeLin a b)) := by
  refine con_of_vc (an := an46) (fn := Try.f46) mix tabOK Try.func46 (by kernel_rfl) (extra := 0) ?_
  rw [vc46]
  have hal := hs.len; have hbl := ht.len
  refine ⟨fun A' n' c' i H' => 0 ≤ i ∧ i ≤ 2 ∧ mlInv ([a, b].take i.toNat).flatten A' n' c' H', fun _ _ _ i => 2 - i.toNat, ⟨by omega, by omega, [], Sl.nil, InsP.nil⟩, ?_⟩
  rintro H2 l2 A4 n5 c6 i ⟨i0, i1, hi⟩
  refine ⟨fun hlt => ⟨i0, of_decide_eq_true hlt, fun h0 => ?_, fun h1 => ?_, trivial⟩, fun hge => ?_⟩
  · have h0 : i = 0 := h0
    subst h0
    refine mli (p := []) hs l2 (by simp; omega) hi (K := fun A15 n16 c17 H13 => rng .i64 (0 + (1 : Int)) ∧ (0 ≤ (0 : Int) + 1 ∧ (0 : Int) + 1 ≤ 2 ∧ mlInv ([a, b].take ((0 : Int) + 1).toNat).flatten A15 n16 c17 H13) ∧ 2 - ((0 : Int) + 1).toNat < 2 - (0 : Int).toNat) ?_
    intro A' n' c' H' l' h'
    exact ⟨by decide, ⟨by decide, by decide, by simpa using h'⟩, by decide⟩
  · have h1 : i = 1 := h1
    subst h1
    refine mli (p := a) ht l2 (by omega) (by simpa using hi) (K := fun A15 n16 c17 H13 => rng .i64 (1 + (1 : Int)) ∧ (0 ≤ (1 : Int) + 1 ∧ (1 : Int) + 1 ≤ 2 ∧ mlInv ([a, b].take ((1 : Int) + 1).toNat).flatten A15 n16 c17 H13) ∧ 2 - ((1 : Int) + 1).toNat < 2 - (1 : Int).toNat) ?_
    intro A' n' c' H' l' h'
    exact ⟨by decide, ⟨by decide, by decide, by simpa using h'⟩, by decide⟩
  · have hge := of_decide_eq_false hge
    have : i = 2 := by omega
    subst this
    obtain ⟨out, ho, hp⟩ := hi
    have hp : InsP out (a ++ b) := by simpa using hp
    rw [← hp.eq]; exact ho
end Go.Vc
/- The reference's runs of equal rows: rows that grow in place. -/
namespace Go.Vc
open Go Go.Proofs Go.Shelf
structure RunR where
  vals : List Val
  B : Option Addr
  m : Nat
  d : Nat
  rows : List Rw
  lin : List Int
instance : Rep RunR where
  sz := 3
  byt := 72
  rel H vs r := ∃ A n c C k e, vs = [.slice A n c, .slice r.B r.m r.d, .slice C k e] ∧ Sl H A n c r.vals ∧ Sl H C k e r.lin
  mono := fun hle ⟨A, n, c, C, k, e, h1, h2, h3⟩ => ⟨A, n, c, C, k, e, h1, h2.mono hle, h3.mono hle⟩
  len := fun ⟨A, n, c, C, k, e, h1, _⟩ => by simp [h1]
  pos := by decide
  bpos := by decide
  one := fun ⟨A, n, c, C, k, e, h1, _⟩ => by rw [h1]; simp [Value.oneCell']
structure OpenR (O : OMap) (H : Heap) (r : RunR) : Prop where
  opn : isOpen O r.B 52 r.m r.d
  row : ∃ ys, Cells H r.B 0 ys ∧ Row H ys r.rows
  len : r.rows.length = r.m
structure RunsOK (O : OMap) (H : Heap) (xs : List Value) (rs : List RunR) : Prop where
  row : Row H xs rs
  opn : ∀ j (h : j < rs.length), OpenR O H rs[j]
  sep : ∀ j k (hj : j < rs.length) (hk : k < rs.length), j ≠ k → rs[j].B ≠ none → rs[j].B ≠ rs[k].B
  lin : ∀ j (h : j < rs.length), rs[j].lin = []
theorem RunsOK.mono {O : OMap} {H H' : Heap} {xs : List Value} {rs : List RunR} (h : RunsOK O H xs rs) (hle : Heap.le H H') : RunsOK O H' xs rs :=
  ⟨h.row.mono hle, fun j hj => let ⟨a, ⟨ys, b1, b2⟩, c⟩ := h.opn j hj; ⟨a, ⟨ys, b1.mono hle, b2.mono hle⟩, c⟩, h.sep, h.lin⟩
theorem RunsOK.new {O : OMap} {H : Heap} {xs : List Value} {rs : List RunR} (h : RunsOK O H xs rs) {A : Option Addr} {n c : Nat} {v : List Val} (hv : Sl H A n c v) :
    RunsOK O H (xs ++ [.slice A n c, .slice none 0 0, .slice none 0 0]) (rs ++ [⟨v, none, 0, 0, [], []⟩]) := by
  refine ⟨h.row.append (Row.one ⟨A, n, c, none, 0, 0, rfl, hv, Sl.nil⟩), fun j hj => ?_, fun j k hj hk hne h0 => ?_, fun j hj => ?_⟩
  · rw [List.getElem_append]
    split
    · exact h.opn j _
    · simp only [List.getElem_singleton]
      exact ⟨.inl ⟨rfl, rfl, rfl⟩, ⟨[], .inl rfl, rfl⟩, rfl⟩
  · simp only [List.length_append, List.length_singleton] at hj hk
    by_cases hj' : j < rs.length
    · rw [List.getElem_append_left hj'] at h0 ⊢
      by_cases hk' : k < rs.length
      · rw [List.getElem_append_left hk']
        exact h.sep j k hj' hk' hne h0
      · have : k = rs.length := by omega
        subst this
        simp only [List.getElem_concat_length]
        exact h0
    · have : j = rs.length := by omega
      subst this
      simp only [List.getElem_concat_length] at h0
      exact absurd rfl h0
  · rw [List.getElem_append]
    split
    · exact h.lin j _
    · simp only [List.getElem_singleton]
theorem mergeLin_nil : mergeLin [] [] = [] := List.eq_nil_iff_forall_not_mem.2 fun y hy => by
  rcases (mergeLin_mem [] [] y).1 hy with h | h <;> cases h
def RunX (P : Program) (H : Heap) (O : OMap) (N : Nat) (ZS : List Value) (e : Int) (A17 : Option Addr) (n18 c19 : Nat) (A20 : Option Addr) (n21 c22 : Nat) (R : List Value → Heap → OMap → Prop) : Prop :=
  ∃ (A24 : Option Addr), ∃ (n25 : Nat), ∃ (c26 : Nat), win ZS (Int.toNat e * 3 + 1) 1 = [.slice A24 n25 c26] ∧ ∃ (xs27 : List Value), isOpen O A24 52 n25 c26 ∧ Cells H A24 0 xs27 ∧ List.length xs27 = n25 * 2 ∧ (n25 + 1) * 48 ≤ 140737488355328 ∧
    ∀ (A28 : Option Addr) (c29 : Nat) (H30 : Heap) (O31 : OMap), Heap.le H H30 → Cells H30 A28 0 (xs27 ++ [.slice A17 n18 c19, .slice A20 n21 c22]) → n25 + 1 ≤ c29 → isOpen O31 A28 52 (n25 + 1) c29 → keepO O O31 A24 A28 →
      (0 : Int) ≤ e ∧ e < (↑N : Int) ∧ Int.toNat e * 3 + 1 + 1 ≤ List.length ZS ∧ (0 : Int) ≤ e ∧ e < (↑N : Int) ∧ ∃ (A37 : Option Addr), ∃ (n38 : Nat), ∃ (c39 : Nat), win (splice ZS (Int.toNat e * 3 + 1) [.slice A28 (n25 + 1) c29]) (Int.toNat e * 3 + 2) 1 = [.slice A37 n38 c39] ∧
        ∃ (post40 : Option Addr → Nat → Nat → Heap → Prop), ConT P 46 [.slice A37 n38 c39, .slice A20 n21 c22] H30 ⟨false, [(false, [.sl])]⟩ post40 ∧ ∀ (H41 : Heap), Heap.le H30 H41 → ∀ (A43 : Option Addr) (n44 c45 : Nat), post40 A43 n44 c45 H41 →
          (0 : Int) ≤ e ∧ e < (↑N : Int) ∧ Int.toNat e * 3 + 2 + 1 ≤ List.length (splice ZS (Int.toNat e * 3 + 1) [.slice A28 (n25 + 1) c29]) ∧
            R (splice (splice ZS (Int.toNat e * 3 + 1) [.slice A28 (n25 + 1) c29]) (Int.toNat e * 3 + 2) [.slice A43 n44 c45]) H41 O31
def RunF (P : Program) (H : Heap) (O : OMap) (N : Nat) (ZS : List Value) (e : Int) (A17 : Option Addr) (n18 c19 : Nat) (A20 : Option Addr) (n21 c22 : Nat) (R : List Value → Heap → OMap → Prop) : Prop :=
  ((0 : Int) ≤ e ∧ e < (↑N : Int) ∧ RunX P H O N ZS e A17 n18 c19 A20 n21 c22 R ∧ RunX P H O N ZS e A17 n18 c19 A20 n21 c22 R) ∧ (0 : Int) ≤ e ∧ e < (↑N : Int) ∧ RunX P H O N ZS e A17 n18 c19 A20 n21 c22 R
set_option maxHeartbeats 1000000 in
theorem runF_ok {H : Heap} {O : OMap} {N : Nat} {ZS : List Value} {e : Int} {A17 : Option Addr} {n18 c19 : Nat} {A20 : Option Addr} {n21 c22 : Nat} {R : List Value → Heap → OMap → Prop} {rs : List RunR} {x : Rw}
    (h : RunsOK O H ZS rs) (hN : rs.length = N) (h0 : 0 ≤ e) (he : e < N) (hx1 : Sl H A17 n18 c19 x.vals) (hx2 : Sl H A20 n21 c22 x.lin) (hx3 : x.lin = []) (hm : ∀ j (hj : j < rs.length), (rs[j].m + 1) * 48 ≤ 140737488355328)
    (hR : ∀ xs' H' O' rs', Heap.le H H' → RunsOK O' H' xs' rs' → rs'.map (·.vals) = rs.map (·.vals) → (∀ j (hj : j < rs'.length) (hj' : j < rs.length), rs'[j].m ≤ rs[j].m + 1) → R xs' H' O') : RunF Try.prog H O N ZS e A17 n18 c19 A20 n21 c22 R := by
  have hi : e.toNat < rs.length := by omega
  obtain ⟨o1, ⟨ys, o2, o3⟩, o4⟩ := h.opn _ hi
  have hlen := h.row.length
  have hys := o3.length
  have key : RunX Try.prog H O N ZS e A17 n18 c19 A20 n21 c22 R := by
    obtain ⟨vs, ⟨A, n, c, C, k, ec, rfl, q1, q2⟩, hg, -⟩ := h.row.getf hi
    refine ⟨_, _, _, hg 1 1 (by decide), ys, o1, o2, by rw [hys, o4]; rfl, hm _ hi, ?_⟩
    intro A28 c29 H30 O31 l30 hc30 hn30 hop hkeep
    have hr30 := h.row.mono l30
    obtain ⟨vs', ⟨A', n', c', C', k', ec', rfl, q1', q2'⟩, hg', hs'⟩ := hr30.getf hi
    obtain ⟨r, hr⟩ : ∃ r, r = rs[e.toNat] := ⟨_, rfl⟩
    have hr1 := hs' 1 [.slice A28 (rs[e.toNat].m + 1) c29] ⟨rs[e.toNat].vals, A28, rs[e.toNat].m + 1, c29, rs[e.toNat].rows ++ [x], rs[e.toNat].lin⟩ (by show 1 + 1 ≤ 3; omega) ⟨A', n', c', C', k', ec', rfl, q1', q2'⟩
    have hlen1 := hr1.length
    have hi1 : e.toNat < (rs.set e.toNat ⟨rs[e.toNat].vals, A28, rs[e.toNat].m + 1, c29, rs[e.toNat].rows ++ [x], rs[e.toNat].lin⟩).length := by simpa using hi
    obtain ⟨vs2, hrel2, hg2, hs2⟩ := hr1.getf hi1
    rw [List.getElem_set_self] at hrel2
    obtain ⟨A2, n2, c2, C2, k2, ec2, rfl, p1, p2⟩ := hrel2
    have hl2 := p2.len
    rw [h.lin _ hi] at hl2 p2
    have hl2' := hx2.len
    rw [hx3] at hl2'
    simp at hl2 hl2'
    refine ⟨h0, he, ?_, h0, he, _, _, _, hg2 2 1 (by decide), _, ref6_MergeLineage p2 (hx2.mono l30) (by omega), ?_⟩
    · rw [hlen]; show _ ≤ rs.length * 3; omega
    · intro H41 l41 A43 n44 c45 hml
      rw [hx3, mergeLin_nil] at hml
      have hr41 := hr1.mono l41
      obtain ⟨vs3, hrel3, -, hs3⟩ := hr41.getf hi1
      rw [List.getElem_set_self] at hrel3
      obtain ⟨A3, n3, c3, C3, k3, ec3, rfl, r1, r2⟩ := hrel3
      have hr2 := hs3 2 [.slice A43 n44 c45] ⟨rs[e.toNat].vals, A28, rs[e.toNat].m + 1, c29, rs[e.toNat].rows ++ [x], []⟩ (by show 2 + 1 ≤ 3; omega) ⟨A3, n3, c3, A43, n44, c45, rfl, r1, hml⟩
      rw [List.set_set] at hr2
      refine ⟨h0, he, ?_, ?_⟩
      · refine Nat.le_trans ?_ (Nat.le_of_eq hlen1.symm)
        rw [List.length_set]
        show _ ≤ rs.length * 3
        omega
      · have l0 := hle_trans l30 l41
        have hrow : ∃ zs, Cells H41 A28 0 zs ∧ Row H41 zs (rs[e.toNat].rows ++ [x]) :=
          ⟨_, hc30.mono l41, (o3.mono l0).append (Row.one ⟨_, _, _, _, _, _, rfl, hx1.mono l0, hx2.mono l0⟩)⟩
        have hkp : ∀ j (hj : j < rs.length), j ≠ e.toNat → ∀ b, rs[j].B = some ⟨b, 0, none⟩ → (∃ z, O b = some z) → A28 ≠ some ⟨b, 0, none⟩ ∧ O31 b = O b := by
          rintro j hj hne b hb ⟨z, hz⟩
          refine hkeep b (by rw [hz]; simp) ?_
          rw [← hb]
          exact fun e' => h.sep j e.toNat hj hi hne (by rw [hb]; simp) e'.symm
        refine hR _ _ _ _ l0 ⟨hr2, fun j hj => ?_, fun j k hj hk hne hb => ?_, fun j hj => ?_⟩ ?_ ?_
        · rw [List.length_set] at hj
          rw [List.getElem_set]
          split
          · rename_i hje
            subst hje
            exact ⟨hop, hrow, by simp [o4]⟩
          · rename_i hne
            obtain ⟨a1, ⟨zs, a2, a3⟩, a4⟩ := h.opn j hj
            refine ⟨?_, ⟨zs, a2.mono l0, a3.mono l0⟩, a4⟩
            rcases a1 with a1 | ⟨b, b1, b2⟩
            · exact .inl a1
            · exact .inr ⟨b, b1, by rw [(hkp j hj (Ne.symm hne) b b1 ⟨_, b2⟩).2]; exact b2⟩
        · rw [List.length_set] at hj hk
          have sepA : ∀ j (hj : j < rs.length), j ≠ e.toNat → rs[j].B ≠ none → rs[j].B ≠ A28 := by
            intro j hj hne hb
            rcases (h.opn j hj).opn with ⟨b1, -⟩ | ⟨b, b1, b2⟩
            · exact absurd b1 hb
            · rw [b1]
              exact fun e' => (hkp j hj hne b b1 ⟨_, b2⟩).1 e'.symm
          rw [List.getElem_set] at hb ⊢
          rw [List.getElem_set]
          by_cases hje : e.toNat = j
          · rw [if_pos hje] at hb ⊢
            have hke : ¬ e.toNat = k := by omega
            rw [if_neg hke]
            by_cases hkn : rs[k].B = none
            · rw [hkn]; exact hb
            · exact fun e' => sepA k hk (by omega) hkn e'.symm
          · rw [if_neg hje] at hb ⊢
            by_cases hke : e.toNat = k
            · rw [if_pos hke]
              exact sepA j hj (by omega) hb
            · rw [if_neg hke]
              exact h.sep j k hj hk hne hb
        · rw [List.length_set] at hj
          rw [List.getElem_set]
          split
          · rfl
          · exact h.lin j hj
        · apply List.ext_getElem
          · simp
          · intro j h1 h2
            simp only [List.getElem_map, List.getElem_set]
            split
            · rename_i hje; subst hje; rfl
            · rfl
        · intro j hj hj'
          rw [List.getElem_set]
          split
          · rename_i hje; subst hje; exact Nat.le_refl _
          · omega
  exact ⟨⟨h0, he, key, key⟩, h0, he, key⟩
end Go.Vc
/- The reference's distinct key values. -/
namespace Go.Vc
open Go Go.Proofs Go.Shelf
def ascV (vs : List (List Val)) : Prop := vs.Pairwise (fun a b => cmpVs a b = -1)
structure GrpV (vs : List (List Val)) (p : List Rw) : Prop where
  asc : ascV vs
  mem : ∀ v, v ∈ vs ↔ ∃ r ∈ p, r.vals = v
  last : vs.getLast? = p.getLast?.map (·.vals)
theorem GrpV.nil : GrpV [] [] := ⟨List.Pairwise.nil, fun v => by simp, rfl⟩
theorem GrpV.old {vs : List (List Val)} {p : List Rw} {r : Rw} (h : GrpV vs p) (hl : vs.getLast? = some r.vals) : GrpV vs (p ++ [r]) := by
  refine ⟨h.asc, fun v => ?_, by rw [hl]; simp⟩
  rw [h.mem]
  constructor
  · rintro ⟨q, h1, h2⟩; exact ⟨q, by simp [h1], h2⟩
  · rintro ⟨q, h1, h2⟩
    rcases List.mem_append.1 h1 with h1 | h1
    · exact ⟨q, h1, h2⟩
    · simp at h1; subst h1
      have := (h.mem q.vals).1 (List.mem_of_getLast? hl)
      obtain ⟨z, z1, z2⟩ := this
      exact ⟨z, z1, by rw [z2, h2]⟩
theorem GrpV.new {vs : List (List Val)} {p : List Rw} {r : Rw} (h : GrpV vs p) (hl : vs.getLast? ≠ some r.vals) (hs : ∀ q ∈ p, leF cmpVs q.vals r.vals) : GrpV (vs ++ [r.vals]) (p ++ [r]) := by
  refine ⟨List.pairwise_append.2 ⟨h.asc, by simp, fun a ha b hb => ?_⟩, fun v => ?_, by simp⟩
  · simp at hb; subst hb
    cases hz : vs.getLast? with
    | none => rw [List.getLast?_eq_none_iff] at hz; rw [hz] at ha; cases ha
    | some z =>
      obtain ⟨q, q1, q2⟩ := (h.mem z).1 (List.mem_of_getLast? hz)
      have hle := hs q q1
      rw [q2] at hle
      have hne : z ≠ r.vals := fun e => hl (by rw [hz, e])
      have hzr : cmpVs z r.vals = -1 := by
        have s := cmpVs_ord.sign z r.vals; have a := cmpVs_ord.anti z r.vals
        have : cmpVs z r.vals ≠ 0 := fun e => hne (cmpVs_zero.1 e)
        unfold leF at hle
        omega
      obtain ⟨l', rfl⟩ := List.getLast?_eq_some_iff.1 hz
      rcases List.mem_append.1 ha with ha | ha
      · exact cmpVs_ord.trans _ _ _ ((List.pairwise_append.1 h.asc).2.2 a ha z (by simp)) hzr
      · simp at ha; subst ha; exact hzr
  · rw [List.mem_append, List.mem_singleton, h.mem]
    constructor
    · rintro (⟨q, h1, h2⟩ | rfl)
      · exact ⟨q, by simp [h1], h2⟩
      · exact ⟨r, by simp, rfl⟩
    · rintro ⟨q, h1, h2⟩
      rcases List.mem_append.1 h1 with h1 | h1
      · exact .inl ⟨q, h1, h2⟩
      · simp at h1; subst h1; exact .inr h2.symm
theorem leRw_vals {q r : Rw} (h : leF cmpRw q r) : leF cmpVs q.vals r.vals := by
  unfold leF at *
  intro h1
  apply h
  unfold cmpRw
  rw [if_pos (by omega)]
  exact h1
def an69 : Ann where
  res := fun _ => none
  lend := fun | 27 => true | _ => false
  sch := fun | 6 => (tk [0, 1, 2, 3, 4, 8, 9] (.alt 5 (tk [6] (.alt 7 (.alt 10 (tk [11, 12] .done) .fin) .fin)) .fin)) | 9 => (tk [0, 1, 2, 3, 7] (.alt 4 (tk [5] (.alt 6 (.alt 8 (.alt 9 (.alt 10 (tk [11] (.alt 12 .done .fin)) .fin) .fin) .fin) (.alt 8 (.alt 6 (.alt 9 (.alt 10 (tk [11] (.alt 12 .done .fin)) .fin) .fin) .fin) .fin))) (.alt 8 (.alt 4 (tk [5] (.alt 6 (.alt 9 (.alt 10 (tk [11] (.alt 12 .done .fin)) .fin) .fin) .fin)) .fin) .fin))) | 10 => (tk [0, 1, 2, 3, 7, 8] (.alt 4 (tk [5] (.alt 6 (.alt 9 (.alt 10 (tk [11] (.alt 12 .done .fin)) .fin) .fin) .fin)) .fin)) | _ => .done
  opn := true
  oap := fun | 47 => true | _ => false
  lt := fun | 3 => [.slot 3 false [.row 64 108], .slot 10 false [.int .i64]] | _ => []
  tup := tups

theorem vc69 (P : Program) (H : Heap) (rowsA : Option Addr) (rowsN rowsC : Nat) (post : Option Addr → Nat → Nat → Heap → Prop) :
  vcFn P tab an69 Try.f69 [.slice rowsA rowsN rowsC] 1 H ⟨false, [(false, [.sl])]⟩ post =
  (  ∃ (post0 : Option Addr → Nat → Nat → Heap → Prop), ConT P 85 [.slice rowsA rowsN rowsC] H ⟨false, [(false, [.sl])]⟩ post0 ∧ ∀ (H1 : Heap), Heap.le H H1 → ∀ (A3 : Option Addr) (n4 c5 : Nat),
  post0 A3 n4 c5 H1 → ∃ (inv7 : Nat → List Value → Int → Heap → OMap → Prop), ∃ (m8 : Nat → List Value → Int → Nat), inv7 0 [] (0 : Int) H1 noO ∧ ∀ (H9 : Heap), Heap.le H1 H9 → ∀ (O11 : Nat →
  Option XO) (n12 : Nat) (xs13 : List Value) (n14 : Int), inv7 n12 xs13 n14 H9 O11 → (decide (n14 < (↑n4 : Int)) = true → someA A3 ∧ (0 : Int) ≤ n14 ∧ n14 < (↑n4 : Int) ∧ ∃ (A17 : Option
  Addr), ∃ (n18 : Nat), ∃ (c19 : Nat), ∃ (A20 : Option Addr), ∃ (n21 : Nat), ∃ (c22 : Nat), Cells H9 A3 (Int.toNat n14 * 2) [.slice A17 n18 c19, .slice A20 n21 c22] ∧ rng .i64 ((↑n12 : Int) -
  (1 : Int)) ∧ (decide ((↑n12 : Int) - (1 : Int) < (0 : Int)) = true → (n12 + 1) * 72 ≤ 140737488355328 ∧ rng .i64 ((↑n12 : Int) - (1 : Int) + (1 : Int)) ∧ ((0 : Int) ≤ (↑n12 : Int) - (1 :
  Int) + (1 : Int) ∧ (↑n12 : Int) - (1 : Int) + (1 : Int) < (↑(n12 + 1) : Int) ∧ (∃ (A24 : Option Addr), ∃ (n25 : Nat), ∃ (c26 : Nat), win (xs13 ++ [.slice A17 n18 c19, .slice none 0 0,
  .slice none 0 0]) (Int.toNat ((↑n12 : Int) - (1 : Int) + (1 : Int)) * 3 + 1) 1 = [.slice A24 n25 c26] ∧ ∃ (xs27 : List Value), isOpen O11 A24 52 n25 c26 ∧ Cells H9 A24 0 xs27 ∧ List.length
  xs27 = n25 * 2 ∧ (n25 + 1) * 48 ≤ 140737488355328 ∧ ∀ (A28 : Option Addr) (c29 : Nat) (H30 : Heap) (O31 : Nat → Option XO), Heap.le H9 H30 → Cells H30 A28 0 (xs27 ++ [.slice A17 n18 c19,
  .slice A20 n21 c22]) → n25 + 1 ≤ c29 → isOpen O31 A28 52 (n25 + 1) c29 → keepO O11 O31 A24 A28 → (0 : Int) ≤ (↑n12 : Int) - (1 : Int) + (1 : Int) ∧ (↑n12 : Int) - (1 : Int) + (1 : Int) <
  (↑(n12 + 1) : Int) ∧ Int.toNat ((↑n12 : Int) - (1 : Int) + (1 : Int)) * 3 + 1 + 1 ≤ List.length (xs13 ++ [.slice A17 n18 c19, .slice none 0 0, .slice none 0 0]) ∧ (0 : Int) ≤ (↑n12 : Int) -
  (1 : Int) + (1 : Int) ∧ (↑n12 : Int) - (1 : Int) + (1 : Int) < (↑(n12 + 1) : Int) ∧ ∃ (A37 : Option Addr), ∃ (n38 : Nat), ∃ (c39 : Nat), win (splice (xs13 ++ [.slice A17 n18 c19, .slice
  none 0 0, .slice none 0 0]) (Int.toNat ((↑n12 : Int) - (1 : Int) + (1 : Int)) * 3 + 1) [.slice A28 (n25 + 1) c29]) (Int.toNat ((↑n12 : Int) - (1 : Int) + (1 : Int)) * 3 + 2) 1 = [.slice A37
  n38 c39] ∧ ∃ (post40 : Option Addr → Nat → Nat → Heap → Prop), ConT P 46 [.slice A37 n38 c39, .slice A20 n21 c22] H30 ⟨false, [(false, [.sl])]⟩ post40 ∧ ∀ (H41 : Heap), Heap.le H30 H41 → ∀
  (A43 : Option Addr) (n44 c45 : Nat), post40 A43 n44 c45 H41 → (0 : Int) ≤ (↑n12 : Int) - (1 : Int) + (1 : Int) ∧ (↑n12 : Int) - (1 : Int) + (1 : Int) < (↑(n12 + 1) : Int) ∧ Int.toNat ((↑n12
  : Int) - (1 : Int) + (1 : Int)) * 3 + 2 + 1 ≤ List.length (splice (xs13 ++ [.slice A17 n18 c19, .slice none 0 0, .slice none 0 0]) (Int.toNat ((↑n12 : Int) - (1 : Int) + (1 : Int)) * 3 + 1)
  [.slice A28 (n25 + 1) c29]) ∧ rng .i64 (n14 + (1 : Int)) ∧ inv7 (n12 + 1) (splice (splice (xs13 ++ [.slice A17 n18 c19, .slice none 0 0, .slice none 0 0]) (Int.toNat ((↑n12 : Int) - (1 :
  Int) + (1 : Int)) * 3 + 1) [.slice A28 (n25 + 1) c29]) (Int.toNat ((↑n12 : Int) - (1 : Int) + (1 : Int)) * 3 + 2) [.slice A43 n44 c45]) (n14 + (1 : Int)) H41 O31 ∧ m8 (n12 + 1) (splice
  (splice (xs13 ++ [.slice A17 n18 c19, .slice none 0 0, .slice none 0 0]) (Int.toNat ((↑n12 : Int) - (1 : Int) + (1 : Int)) * 3 + 1) [.slice A28 (n25 + 1) c29]) (Int.toNat ((↑n12 : Int) - (1
  : Int) + (1 : Int)) * 3 + 2) [.slice A43 n44 c45]) (n14 + (1 : Int)) < m8 n12 xs13 n14) ∧ ∃ (A47 : Option Addr), ∃ (n48 : Nat), ∃ (c49 : Nat), win (xs13 ++ [.slice A17 n18 c19, .slice none
  0 0, .slice none 0 0]) (Int.toNat ((↑n12 : Int) - (1 : Int) + (1 : Int)) * 3 + 1) 1 = [.slice A47 n48 c49] ∧ ∃ (xs50 : List Value), isOpen O11 A47 52 n48 c49 ∧ Cells H9 A47 0 xs50 ∧
  List.length xs50 = n48 * 2 ∧ (n48 + 1) * 48 ≤ 140737488355328 ∧ ∀ (A51 : Option Addr) (c52 : Nat) (H53 : Heap) (O54 : Nat → Option XO), Heap.le H9 H53 → Cells H53 A51 0 (xs50 ++ [.slice A17
  n18 c19, .slice A20 n21 c22]) → n48 + 1 ≤ c52 → isOpen O54 A51 52 (n48 + 1) c52 → keepO O11 O54 A47 A51 → (0 : Int) ≤ (↑n12 : Int) - (1 : Int) + (1 : Int) ∧ (↑n12 : Int) - (1 : Int) + (1 :
  Int) < (↑(n12 + 1) : Int) ∧ Int.toNat ((↑n12 : Int) - (1 : Int) + (1 : Int)) * 3 + 1 + 1 ≤ List.length (xs13 ++ [.slice A17 n18 c19, .slice none 0 0, .slice none 0 0]) ∧ (0 : Int) ≤ (↑n12 :
  Int) - (1 : Int) + (1 : Int) ∧ (↑n12 : Int) - (1 : Int) + (1 : Int) < (↑(n12 + 1) : Int) ∧ ∃ (A60 : Option Addr), ∃ (n61 : Nat), ∃ (c62 : Nat), win (splice (xs13 ++ [.slice A17 n18 c19,
  .slice none 0 0, .slice none 0 0]) (Int.toNat ((↑n12 : Int) - (1 : Int) + (1 : Int)) * 3 + 1) [.slice A51 (n48 + 1) c52]) (Int.toNat ((↑n12 : Int) - (1 : Int) + (1 : Int)) * 3 + 2) 1 =
  [.slice A60 n61 c62] ∧ ∃ (post63 : Option Addr → Nat → Nat → Heap → Prop), ConT P 46 [.slice A60 n61 c62, .slice A20 n21 c22] H53 ⟨false, [(false, [.sl])]⟩ post63 ∧ ∀ (H64 : Heap), Heap.le
  H53 H64 → ∀ (A66 : Option Addr) (n67 c68 : Nat), post63 A66 n67 c68 H64 → (0 : Int) ≤ (↑n12 : Int) - (1 : Int) + (1 : Int) ∧ (↑n12 : Int) - (1 : Int) + (1 : Int) < (↑(n12 + 1) : Int) ∧
  Int.toNat ((↑n12 : Int) - (1 : Int) + (1 : Int)) * 3 + 2 + 1 ≤ List.length (splice (xs13 ++ [.slice A17 n18 c19, .slice none 0 0, .slice none 0 0]) (Int.toNat ((↑n12 : Int) - (1 : Int) + (1
  : Int)) * 3 + 1) [.slice A51 (n48 + 1) c52]) ∧ rng .i64 (n14 + (1 : Int)) ∧ inv7 (n12 + 1) (splice (splice (xs13 ++ [.slice A17 n18 c19, .slice none 0 0, .slice none 0 0]) (Int.toNat ((↑n12
  : Int) - (1 : Int) + (1 : Int)) * 3 + 1) [.slice A51 (n48 + 1) c52]) (Int.toNat ((↑n12 : Int) - (1 : Int) + (1 : Int)) * 3 + 2) [.slice A66 n67 c68]) (n14 + (1 : Int)) H64 O54 ∧ m8 (n12 +
  1) (splice (splice (xs13 ++ [.slice A17 n18 c19, .slice none 0 0, .slice none 0 0]) (Int.toNat ((↑n12 : Int) - (1 : Int) + (1 : Int)) * 3 + 1) [.slice A51 (n48 + 1) c52]) (Int.toNat ((↑n12
  : Int) - (1 : Int) + (1 : Int)) * 3 + 2) [.slice A66 n67 c68]) (n14 + (1 : Int)) < m8 n12 xs13 n14) ∧ (0 : Int) ≤ (↑n12 : Int) - (1 : Int) + (1 : Int) ∧ (↑n12 : Int) - (1 : Int) + (1 : Int)
  < (↑(n12 + 1) : Int) ∧ ∃ (A70 : Option Addr), ∃ (n71 : Nat), ∃ (c72 : Nat), win (xs13 ++ [.slice A17 n18 c19, .slice none 0 0, .slice none 0 0]) (Int.toNat ((↑n12 : Int) - (1 : Int) + (1 :
  Int)) * 3 + 1) 1 = [.slice A70 n71 c72] ∧ ∃ (xs73 : List Value), isOpen O11 A70 52 n71 c72 ∧ Cells H9 A70 0 xs73 ∧ List.length xs73 = n71 * 2 ∧ (n71 + 1) * 48 ≤ 140737488355328 ∧ ∀ (A74 :
  Option Addr) (c75 : Nat) (H76 : Heap) (O77 : Nat → Option XO), Heap.le H9 H76 → Cells H76 A74 0 (xs73 ++ [.slice A17 n18 c19, .slice A20 n21 c22]) → n71 + 1 ≤ c75 → isOpen O77 A74 52 (n71 +
  1) c75 → keepO O11 O77 A70 A74 → (0 : Int) ≤ (↑n12 : Int) - (1 : Int) + (1 : Int) ∧ (↑n12 : Int) - (1 : Int) + (1 : Int) < (↑(n12 + 1) : Int) ∧ Int.toNat ((↑n12 : Int) - (1 : Int) + (1 :
  Int)) * 3 + 1 + 1 ≤ List.length (xs13 ++ [.slice A17 n18 c19, .slice none 0 0, .slice none 0 0]) ∧ (0 : Int) ≤ (↑n12 : Int) - (1 : Int) + (1 : Int) ∧ (↑n12 : Int) - (1 : Int) + (1 : Int) <
  (↑(n12 + 1) : Int) ∧ ∃ (A83 : Option Addr), ∃ (n84 : Nat), ∃ (c85 : Nat), win (splice (xs13 ++ [.slice A17 n18 c19, .slice none 0 0, .slice none 0 0]) (Int.toNat ((↑n12 : Int) - (1 : Int) +
  (1 : Int)) * 3 + 1) [.slice A74 (n71 + 1) c75]) (Int.toNat ((↑n12 : Int) - (1 : Int) + (1 : Int)) * 3 + 2) 1 = [.slice A83 n84 c85] ∧ ∃ (post86 : Option Addr → Nat → Nat → Heap → Prop),
  ConT P 46 [.slice A83 n84 c85, .slice A20 n21 c22] H76 ⟨false, [(false, [.sl])]⟩ post86 ∧ ∀ (H87 : Heap), Heap.le H76 H87 → ∀ (A89 : Option Addr) (n90 c91 : Nat), post86 A89 n90 c91 H87 →
  (0 : Int) ≤ (↑n12 : Int) - (1 : Int) + (1 : Int) ∧ (↑n12 : Int) - (1 : Int) + (1 : Int) < (↑(n12 + 1) : Int) ∧ Int.toNat ((↑n12 : Int) - (1 : Int) + (1 : Int)) * 3 + 2 + 1 ≤ List.length
  (splice (xs13 ++ [.slice A17 n18 c19, .slice none 0 0, .slice none 0 0]) (Int.toNat ((↑n12 : Int) - (1 : Int) + (1 : Int)) * 3 + 1) [.slice A74 (n71 + 1) c75]) ∧ rng .i64 (n14 + (1 : Int))
  ∧ inv7 (n12 + 1) (splice (splice (xs13 ++ [.slice A17 n18 c19, .slice none 0 0, .slice none 0 0]) (Int.toNat ((↑n12 : Int) - (1 : Int) + (1 : Int)) * 3 + 1) [.slice A74 (n71 + 1) c75])
  (Int.toNat ((↑n12 : Int) - (1 : Int) + (1 : Int)) * 3 + 2) [.slice A89 n90 c91]) (n14 + (1 : Int)) H87 O77 ∧ m8 (n12 + 1) (splice (splice (xs13 ++ [.slice A17 n18 c19, .slice none 0 0,
  .slice none 0 0]) (Int.toNat ((↑n12 : Int) - (1 : Int) + (1 : Int)) * 3 + 1) [.slice A74 (n71 + 1) c75]) (Int.toNat ((↑n12 : Int) - (1 : Int) + (1 : Int)) * 3 + 2) [.slice A89 n90 c91])
  (n14 + (1 : Int)) < m8 n12 xs13 n14) ∧ (decide ((↑n12 : Int) - (1 : Int) < (0 : Int)) = false → (0 : Int) ≤ (↑n12 : Int) - (1 : Int) ∧ (↑n12 : Int) - (1 : Int) < (↑n12 : Int) ∧ ∃ (A94 :
  Option Addr), ∃ (n95 : Nat), ∃ (c96 : Nat), win xs13 (Int.toNat ((↑n12 : Int) - (1 : Int)) * 3 + 0) 1 = [.slice A94 n95 c96] ∧ ∃ (post97 : Int → Heap → Prop), ConT P 10 [.slice A94 n95 c96,
  .slice A17 n18 c19] H9 ⟨false, [(false, [.int .i64])]⟩ post97 ∧ ∀ (H98 : Heap), Heap.le H9 H98 → ∀ (n100 : Int), post97 n100 H98 → ((!decide (n100 = (0 : Int))) = true → (n12 + 1) * 72 ≤
  140737488355328 ∧ rng .i64 ((↑n12 : Int) - (1 : Int) + (1 : Int)) ∧ ((0 : Int) ≤ (↑n12 : Int) - (1 : Int) + (1 : Int) ∧ (↑n12 : Int) - (1 : Int) + (1 : Int) < (↑(n12 + 1) : Int) ∧ (∃ (A103
  : Option Addr), ∃ (n104 : Nat), ∃ (c105 : Nat), win (xs13 ++ [.slice A17 n18 c19, .slice none 0 0, .slice none 0 0]) (Int.toNat ((↑n12 : Int) - (1 : Int) + (1 : Int)) * 3 + 1) 1 = [.slice
  A103 n104 c105] ∧ ∃ (xs106 : List Value), isOpen O11 A103 52 n104 c105 ∧ Cells H98 A103 0 xs106 ∧ List.length xs106 = n104 * 2 ∧ (n104 + 1) * 48 ≤ 140737488355328 ∧ ∀ (A107 : Option Addr)
  (c108 : Nat) (H109 : Heap) (O110 : Nat → Option XO), Heap.le H98 H109 → Cells H109 A107 0 (xs106 ++ [.slice A17 n18 c19, .slice A20 n21 c22]) → n104 + 1 ≤ c108 → isOpen O110 A107 52 (n104 +
  1) c108 → keepO O11 O110 A103 A107 → (0 : Int) ≤ (↑n12 : Int) - (1 : Int) + (1 : Int) ∧ (↑n12 : Int) - (1 : Int) + (1 : Int) < (↑(n12 + 1) : Int) ∧ Int.toNat ((↑n12 : Int) - (1 : Int) + (1
  : Int)) * 3 + 1 + 1 ≤ List.length (xs13 ++ [.slice A17 n18 c19, .slice none 0 0, .slice none 0 0]) ∧ (0 : Int) ≤ (↑n12 : Int) - (1 : Int) + (1 : Int) ∧ (↑n12 : Int) - (1 : Int) + (1 : Int)
  < (↑(n12 + 1) : Int) ∧ ∃ (A116 : Option Addr), ∃ (n117 : Nat), ∃ (c118 : Nat), win (splice (xs13 ++ [.slice A17 n18 c19, .slice none 0 0, .slice none 0 0]) (Int.toNat ((↑n12 : Int) - (1 :
  Int) + (1 : Int)) * 3 + 1) [.slice A107 (n104 + 1) c108]) (Int.toNat ((↑n12 : Int) - (1 : Int) + (1 : Int)) * 3 + 2) 1 = [.slice A116 n117 c118] ∧ ∃ (post119 : Option Addr → Nat → Nat →
  Heap → Prop), ConT P 46 [.slice A116 n117 c118, .slice A20 n21 c22] H109 ⟨false, [(false, [.sl])]⟩ post119 ∧ ∀ (H120 : Heap), Heap.le H109 H120 → ∀ (A122 : Option Addr) (n123 c124 : Nat),
  post119 A122 n123 c124 H120 → (0 : Int) ≤ (↑n12 : Int) - (1 : Int) + (1 : Int) ∧ (↑n12 : Int) - (1 : Int) + (1 : Int) < (↑(n12 + 1) : Int) ∧ Int.toNat ((↑n12 : Int) - (1 : Int) + (1 : Int))
  * 3 + 2 + 1 ≤ List.length (splice (xs13 ++ [.slice A17 n18 c19, .slice none 0 0, .slice none 0 0]) (Int.toNat ((↑n12 : Int) - (1 : Int) + (1 : Int)) * 3 + 1) [.slice A107 (n104 + 1) c108])
  ∧ rng .i64 (n14 + (1 : Int)) ∧ inv7 (n12 + 1) (splice (splice (xs13 ++ [.slice A17 n18 c19, .slice none 0 0, .slice none 0 0]) (Int.toNat ((↑n12 : Int) - (1 : Int) + (1 : Int)) * 3 + 1)
  [.slice A107 (n104 + 1) c108]) (Int.toNat ((↑n12 : Int) - (1 : Int) + (1 : Int)) * 3 + 2) [.slice A122 n123 c124]) (n14 + (1 : Int)) H120 O110 ∧ m8 (n12 + 1) (splice (splice (xs13 ++
  [.slice A17 n18 c19, .slice none 0 0, .slice none 0 0]) (Int.toNat ((↑n12 : Int) - (1 : Int) + (1 : Int)) * 3 + 1) [.slice A107 (n104 + 1) c108]) (Int.toNat ((↑n12 : Int) - (1 : Int) + (1 :
  Int)) * 3 + 2) [.slice A122 n123 c124]) (n14 + (1 : Int)) < m8 n12 xs13 n14) ∧ ∃ (A126 : Option Addr), ∃ (n127 : Nat), ∃ (c128 : Nat), win (xs13 ++ [.slice A17 n18 c19, .slice none 0 0,
  .slice none 0 0]) (Int.toNat ((↑n12 : Int) - (1 : Int) + (1 : Int)) * 3 + 1) 1 = [.slice A126 n127 c128] ∧ ∃ (xs129 : List Value), isOpen O11 A126 52 n127 c128 ∧ Cells H98 A126 0 xs129 ∧
  List.length xs129 = n127 * 2 ∧ (n127 + 1) * 48 ≤ 140737488355328 ∧ ∀ (A130 : Option Addr) (c131 : Nat) (H132 : Heap) (O133 : Nat → Option XO), Heap.le H98 H132 → Cells H132 A130 0 (xs129 ++
  [.slice A17 n18 c19, .slice A20 n21 c22]) → n127 + 1 ≤ c131 → isOpen O133 A130 52 (n127 + 1) c131 → keepO O11 O133 A126 A130 → (0 : Int) ≤ (↑n12 : Int) - (1 : Int) + (1 : Int) ∧ (↑n12 :
  Int) - (1 : Int) + (1 : Int) < (↑(n12 + 1) : Int) ∧ Int.toNat ((↑n12 : Int) - (1 : Int) + (1 : Int)) * 3 + 1 + 1 ≤ List.length (xs13 ++ [.slice A17 n18 c19, .slice none 0 0, .slice none 0
  0]) ∧ (0 : Int) ≤ (↑n12 : Int) - (1 : Int) + (1 : Int) ∧ (↑n12 : Int) - (1 : Int) + (1 : Int) < (↑(n12 + 1) : Int) ∧ ∃ (A139 : Option Addr), ∃ (n140 : Nat), ∃ (c141 : Nat), win (splice
  (xs13 ++ [.slice A17 n18 c19, .slice none 0 0, .slice none 0 0]) (Int.toNat ((↑n12 : Int) - (1 : Int) + (1 : Int)) * 3 + 1) [.slice A130 (n127 + 1) c131]) (Int.toNat ((↑n12 : Int) - (1 :
  Int) + (1 : Int)) * 3 + 2) 1 = [.slice A139 n140 c141] ∧ ∃ (post142 : Option Addr → Nat → Nat → Heap → Prop), ConT P 46 [.slice A139 n140 c141, .slice A20 n21 c22] H132 ⟨false, [(false,
  [.sl])]⟩ post142 ∧ ∀ (H143 : Heap), Heap.le H132 H143 → ∀ (A145 : Option Addr) (n146 c147 : Nat), post142 A145 n146 c147 H143 → (0 : Int) ≤ (↑n12 : Int) - (1 : Int) + (1 : Int) ∧ (↑n12 :
  Int) - (1 : Int) + (1 : Int) < (↑(n12 + 1) : Int) ∧ Int.toNat ((↑n12 : Int) - (1 : Int) + (1 : Int)) * 3 + 2 + 1 ≤ List.length (splice (xs13 ++ [.slice A17 n18 c19, .slice none 0 0, .slice
  none 0 0]) (Int.toNat ((↑n12 : Int) - (1 : Int) + (1 : Int)) * 3 + 1) [.slice A130 (n127 + 1) c131]) ∧ rng .i64 (n14 + (1 : Int)) ∧ inv7 (n12 + 1) (splice (splice (xs13 ++ [.slice A17 n18
  c19, .slice none 0 0, .slice none 0 0]) (Int.toNat ((↑n12 : Int) - (1 : Int) + (1 : Int)) * 3 + 1) [.slice A130 (n127 + 1) c131]) (Int.toNat ((↑n12 : Int) - (1 : Int) + (1 : Int)) * 3 + 2)
  [.slice A145 n146 c147]) (n14 + (1 : Int)) H143 O133 ∧ m8 (n12 + 1) (splice (splice (xs13 ++ [.slice A17 n18 c19, .slice none 0 0, .slice none 0 0]) (Int.toNat ((↑n12 : Int) - (1 : Int) +
  (1 : Int)) * 3 + 1) [.slice A130 (n127 + 1) c131]) (Int.toNat ((↑n12 : Int) - (1 : Int) + (1 : Int)) * 3 + 2) [.slice A145 n146 c147]) (n14 + (1 : Int)) < m8 n12 xs13 n14) ∧ (0 : Int) ≤
  (↑n12 : Int) - (1 : Int) + (1 : Int) ∧ (↑n12 : Int) - (1 : Int) + (1 : Int) < (↑(n12 + 1) : Int) ∧ ∃ (A149 : Option Addr), ∃ (n150 : Nat), ∃ (c151 : Nat), win (xs13 ++ [.slice A17 n18 c19,
  .slice none 0 0, .slice none 0 0]) (Int.toNat ((↑n12 : Int) - (1 : Int) + (1 : Int)) * 3 + 1) 1 = [.slice A149 n150 c151] ∧ ∃ (xs152 : List Value), isOpen O11 A149 52 n150 c151 ∧ Cells H98
  A149 0 xs152 ∧ List.length xs152 = n150 * 2 ∧ (n150 + 1) * 48 ≤ 140737488355328 ∧ ∀ (A153 : Option Addr) (c154 : Nat) (H155 : Heap) (O156 : Nat → Option XO), Heap.le H98 H155 → Cells H155
  A153 0 (xs152 ++ [.slice A17 n18 c19, .slice A20 n21 c22]) → n150 + 1 ≤ c154 → isOpen O156 A153 52 (n150 + 1) c154 → keepO O11 O156 A149 A153 → (0 : Int) ≤ (↑n12 : Int) - (1 : Int) + (1 :
  Int) ∧ (↑n12 : Int) - (1 : Int) + (1 : Int) < (↑(n12 + 1) : Int) ∧ Int.toNat ((↑n12 : Int) - (1 : Int) + (1 : Int)) * 3 + 1 + 1 ≤ List.length (xs13 ++ [.slice A17 n18 c19, .slice none 0 0,
  .slice none 0 0]) ∧ (0 : Int) ≤ (↑n12 : Int) - (1 : Int) + (1 : Int) ∧ (↑n12 : Int) - (1 : Int) + (1 : Int) < (↑(n12 + 1) : Int) ∧ ∃ (A162 : Option Addr), ∃ (n163 : Nat), ∃ (c164 : Nat),
  win (splice (xs13 ++ [.slice A17 n18 c19, .slice none 0 0, .slice none 0 0]) (Int.toNat ((↑n12 : Int) - (1 : Int) + (1 : Int)) * 3 + 1) [.slice A153 (n150 + 1) c154]) (Int.toNat ((↑n12 :
  Int) - (1 : Int) + (1 : Int)) * 3 + 2) 1 = [.slice A162 n163 c164] ∧ ∃ (post165 : Option Addr → Nat → Nat → Heap → Prop), ConT P 46 [.slice A162 n163 c164, .slice A20 n21 c22] H155 ⟨false,
  [(false, [.sl])]⟩ post165 ∧ ∀ (H166 : Heap), Heap.le H155 H166 → ∀ (A168 : Option Addr) (n169 c170 : Nat), post165 A168 n169 c170 H166 → (0 : Int) ≤ (↑n12 : Int) - (1 : Int) + (1 : Int) ∧
  (↑n12 : Int) - (1 : Int) + (1 : Int) < (↑(n12 + 1) : Int) ∧ Int.toNat ((↑n12 : Int) - (1 : Int) + (1 : Int)) * 3 + 2 + 1 ≤ List.length (splice (xs13 ++ [.slice A17 n18 c19, .slice none 0 0,
  .slice none 0 0]) (Int.toNat ((↑n12 : Int) - (1 : Int) + (1 : Int)) * 3 + 1) [.slice A153 (n150 + 1) c154]) ∧ rng .i64 (n14 + (1 : Int)) ∧ inv7 (n12 + 1) (splice (splice (xs13 ++ [.slice
  A17 n18 c19, .slice none 0 0, .slice none 0 0]) (Int.toNat ((↑n12 : Int) - (1 : Int) + (1 : Int)) * 3 + 1) [.slice A153 (n150 + 1) c154]) (Int.toNat ((↑n12 : Int) - (1 : Int) + (1 : Int)) *
  3 + 2) [.slice A168 n169 c170]) (n14 + (1 : Int)) H166 O156 ∧ m8 (n12 + 1) (splice (splice (xs13 ++ [.slice A17 n18 c19, .slice none 0 0, .slice none 0 0]) (Int.toNat ((↑n12 : Int) - (1 :
  Int) + (1 : Int)) * 3 + 1) [.slice A153 (n150 + 1) c154]) (Int.toNat ((↑n12 : Int) - (1 : Int) + (1 : Int)) * 3 + 2) [.slice A168 n169 c170]) (n14 + (1 : Int)) < m8 n12 xs13 n14) ∧
  ((!decide (n100 = (0 : Int))) = false → ((0 : Int) ≤ (↑n12 : Int) - (1 : Int) ∧ (↑n12 : Int) - (1 : Int) < (↑n12 : Int) ∧ (∃ (A173 : Option Addr), ∃ (n174 : Nat), ∃ (c175 : Nat), win xs13
  (Int.toNat ((↑n12 : Int) - (1 : Int)) * 3 + 1) 1 = [.slice A173 n174 c175] ∧ ∃ (xs176 : List Value), isOpen O11 A173 52 n174 c175 ∧ Cells H98 A173 0 xs176 ∧ List.length xs176 = n174 * 2 ∧
  (n174 + 1) * 48 ≤ 140737488355328 ∧ ∀ (A177 : Option Addr) (c178 : Nat) (H179 : Heap) (O180 : Nat → Option XO), Heap.le H98 H179 → Cells H179 A177 0 (xs176 ++ [.slice A17 n18 c19, .slice
  A20 n21 c22]) → n174 + 1 ≤ c178 → isOpen O180 A177 52 (n174 + 1) c178 → keepO O11 O180 A173 A177 → (0 : Int) ≤ (↑n12 : Int) - (1 : Int) ∧ (↑n12 : Int) - (1 : Int) < (↑n12 : Int) ∧ Int.toNat
  ((↑n12 : Int) - (1 : Int)) * 3 + 1 + 1 ≤ List.length xs13 ∧ (0 : Int) ≤ (↑n12 : Int) - (1 : Int) ∧ (↑n12 : Int) - (1 : Int) < (↑n12 : Int) ∧ ∃ (A186 : Option Addr), ∃ (n187 : Nat), ∃ (c188
  : Nat), win (splice xs13 (Int.toNat ((↑n12 : Int) - (1 : Int)) * 3 + 1) [.slice A177 (n174 + 1) c178]) (Int.toNat ((↑n12 : Int) - (1 : Int)) * 3 + 2) 1 = [.slice A186 n187 c188] ∧ ∃
  (post189 : Option Addr → Nat → Nat → Heap → Prop), ConT P 46 [.slice A186 n187 c188, .slice A20 n21 c22] H179 ⟨false, [(false, [.sl])]⟩ post189 ∧ ∀ (H190 : Heap), Heap.le H179 H190 → ∀
  (A192 : Option Addr) (n193 c194 : Nat), post189 A192 n193 c194 H190 → (0 : Int) ≤ (↑n12 : Int) - (1 : Int) ∧ (↑n12 : Int) - (1 : Int) < (↑n12 : Int) ∧ Int.toNat ((↑n12 : Int) - (1 : Int)) *
  3 + 2 + 1 ≤ List.length (splice xs13 (Int.toNat ((↑n12 : Int) - (1 : Int)) * 3 + 1) [.slice A177 (n174 + 1) c178]) ∧ rng .i64 (n14 + (1 : Int)) ∧ inv7 n12 (splice (splice xs13 (Int.toNat
  ((↑n12 : Int) - (1 : Int)) * 3 + 1) [.slice A177 (n174 + 1) c178]) (Int.toNat ((↑n12 : Int) - (1 : Int)) * 3 + 2) [.slice A192 n193 c194]) (n14 + (1 : Int)) H190 O180 ∧ m8 n12 (splice
  (splice xs13 (Int.toNat ((↑n12 : Int) - (1 : Int)) * 3 + 1) [.slice A177 (n174 + 1) c178]) (Int.toNat ((↑n12 : Int) - (1 : Int)) * 3 + 2) [.slice A192 n193 c194]) (n14 + (1 : Int)) < m8 n12
  xs13 n14) ∧ ∃ (A196 : Option Addr), ∃ (n197 : Nat), ∃ (c198 : Nat), win xs13 (Int.toNat ((↑n12 : Int) - (1 : Int)) * 3 + 1) 1 = [.slice A196 n197 c198] ∧ ∃ (xs199 : List Value), isOpen O11
  A196 52 n197 c198 ∧ Cells H98 A196 0 xs199 ∧ List.length xs199 = n197 * 2 ∧ (n197 + 1) * 48 ≤ 140737488355328 ∧ ∀ (A200 : Option Addr) (c201 : Nat) (H202 : Heap) (O203 : Nat → Option XO),
  Heap.le H98 H202 → Cells H202 A200 0 (xs199 ++ [.slice A17 n18 c19, .slice A20 n21 c22]) → n197 + 1 ≤ c201 → isOpen O203 A200 52 (n197 + 1) c201 → keepO O11 O203 A196 A200 → (0 : Int) ≤
  (↑n12 : Int) - (1 : Int) ∧ (↑n12 : Int) - (1 : Int) < (↑n12 : Int) ∧ Int.toNat ((↑n12 : Int) - (1 : Int)) * 3 + 1 + 1 ≤ List.length xs13 ∧ (0 : Int) ≤ (↑n12 : Int) - (1 : Int) ∧ (↑n12 :
  Int) - (1 : Int) < (↑n12 : Int) ∧ ∃ (A209 : Option Addr), ∃ (n210 : Nat), ∃ (c211 : Nat), win (splice xs13 (Int.toNat ((↑n12 : Int) - (1 : Int)) * 3 + 1) [.slice A200 (n197 + 1) c201])
  (Int.toNat ((↑n12 : Int) - (1 : Int)) * 3 + 2) 1 = [.slice A209 n210 c211] ∧ ∃ (post212 : Option Addr → Nat → Nat → Heap → Prop), ConT P 46 [.slice A209 n210 c211, .slice A20 n21 c22] H202
  ⟨false, [(false, [.sl])]⟩ post212 ∧ ∀ (H213 : Heap), Heap.le H202 H213 → ∀ (A215 : Option Addr) (n216 c217 : Nat), post212 A215 n216 c217 H213 → (0 : Int) ≤ (↑n12 : Int) - (1 : Int) ∧ (↑n12
  : Int) - (1 : Int) < (↑n12 : Int) ∧ Int.toNat ((↑n12 : Int) - (1 : Int)) * 3 + 2 + 1 ≤ List.length (splice xs13 (Int.toNat ((↑n12 : Int) - (1 : Int)) * 3 + 1) [.slice A200 (n197 + 1) c201])
  ∧ rng .i64 (n14 + (1 : Int)) ∧ inv7 n12 (splice (splice xs13 (Int.toNat ((↑n12 : Int) - (1 : Int)) * 3 + 1) [.slice A200 (n197 + 1) c201]) (Int.toNat ((↑n12 : Int) - (1 : Int)) * 3 + 2)
  [.slice A215 n216 c217]) (n14 + (1 : Int)) H213 O203 ∧ m8 n12 (splice (splice xs13 (Int.toNat ((↑n12 : Int) - (1 : Int)) * 3 + 1) [.slice A200 (n197 + 1) c201]) (Int.toNat ((↑n12 : Int) -
  (1 : Int)) * 3 + 2) [.slice A215 n216 c217]) (n14 + (1 : Int)) < m8 n12 xs13 n14) ∧ (0 : Int) ≤ (↑n12 : Int) - (1 : Int) ∧ (↑n12 : Int) - (1 : Int) < (↑n12 : Int) ∧ ∃ (A219 : Option Addr),
  ∃ (n220 : Nat), ∃ (c221 : Nat), win xs13 (Int.toNat ((↑n12 : Int) - (1 : Int)) * 3 + 1) 1 = [.slice A219 n220 c221] ∧ ∃ (xs222 : List Value), isOpen O11 A219 52 n220 c221 ∧ Cells H98 A219 0
  xs222 ∧ List.length xs222 = n220 * 2 ∧ (n220 + 1) * 48 ≤ 140737488355328 ∧ ∀ (A223 : Option Addr) (c224 : Nat) (H225 : Heap) (O226 : Nat → Option XO), Heap.le H98 H225 → Cells H225 A223 0
  (xs222 ++ [.slice A17 n18 c19, .slice A20 n21 c22]) → n220 + 1 ≤ c224 → isOpen O226 A223 52 (n220 + 1) c224 → keepO O11 O226 A219 A223 → (0 : Int) ≤ (↑n12 : Int) - (1 : Int) ∧ (↑n12 : Int)
  - (1 : Int) < (↑n12 : Int) ∧ Int.toNat ((↑n12 : Int) - (1 : Int)) * 3 + 1 + 1 ≤ List.length xs13 ∧ (0 : Int) ≤ (↑n12 : Int) - (1 : Int) ∧ (↑n12 : Int) - (1 : Int) < (↑n12 : Int) ∧ ∃ (A232 :
  Option Addr), ∃ (n233 : Nat), ∃ (c234 : Nat), win (splice xs13 (Int.toNat ((↑n12 : Int) - (1 : Int)) * 3 + 1) [.slice A223 (n220 + 1) c224]) (Int.toNat ((↑n12 : Int) - (1 : Int)) * 3 + 2) 1
  = [.slice A232 n233 c234] ∧ ∃ (post235 : Option Addr → Nat → Nat → Heap → Prop), ConT P 46 [.slice A232 n233 c234, .slice A20 n21 c22] H225 ⟨false, [(false, [.sl])]⟩ post235 ∧ ∀ (H236 :
  Heap), Heap.le H225 H236 → ∀ (A238 : Option Addr) (n239 c240 : Nat), post235 A238 n239 c240 H236 → (0 : Int) ≤ (↑n12 : Int) - (1 : Int) ∧ (↑n12 : Int) - (1 : Int) < (↑n12 : Int) ∧ Int.toNat
  ((↑n12 : Int) - (1 : Int)) * 3 + 2 + 1 ≤ List.length (splice xs13 (Int.toNat ((↑n12 : Int) - (1 : Int)) * 3 + 1) [.slice A223 (n220 + 1) c224]) ∧ rng .i64 (n14 + (1 : Int)) ∧ inv7 n12
  (splice (splice xs13 (Int.toNat ((↑n12 : Int) - (1 : Int)) * 3 + 1) [.slice A223 (n220 + 1) c224]) (Int.toNat ((↑n12 : Int) - (1 : Int)) * 3 + 2) [.slice A238 n239 c240]) (n14 + (1 : Int))
  H236 O226 ∧ m8 n12 (splice (splice xs13 (Int.toNat ((↑n12 : Int) - (1 : Int)) * 3 + 1) [.slice A223 (n220 + 1) c224]) (Int.toNat ((↑n12 : Int) - (1 : Int)) * 3 + 2) [.slice A238 n239 c240])
  (n14 + (1 : Int)) < m8 n12 xs13 n14))) ∧ (decide (n14 < (↑n4 : Int)) = false → ∀ (A243 : Option Addr) (c244 : Nat) (H245 : Heap), Heap.le H9 H245 → Cells H245 A243 0 xs13 → n12 ≤ c244 →
  post A243 n12 c244 H245)) := by kernel_rfl
set_option maxHeartbeats 2000000 in
theorem ref9_runs {H : Heap} {A : Option Addr} {n c : Nat} {l : List Rw} (hs : Sl H A n c l) (hlin : ∀ r ∈ l, r.lin = []) (hb : n * 72 ≤ 140737488355328) :
    ConT Try.prog 69 [.slice A n c] H shS (fun A' n' c' H' => ∃ rs : List RunR, Sl H' A' n' c' rs ∧ (∀ r ∈ rs, r.lin = []) ∧ n' ≤ n ∧ ascV (rs.map (·.vals)) ∧ ∀ v, v ∈ rs.map (·.vals) ↔ ∃ r ∈ l, r.vals = v) := by
  refine con_of_vc (an := an69) (fn := Try.f69) mix tabOK Try.func69 (by kernel_rfl) (extra := 1) ?_
  rw [vc69]
  have hl := hs.len
  refine ⟨_, ref6_Sort hs, ?_⟩
  rintro H1 l1 A3 n4 c5 ⟨m, hm, hmp, hms⟩
  have hml := hm.len
  have hmn : n4 = n := by rw [← hml, hmp.length_eq, hl]
  subst hmn
  refine ⟨fun k xs i H' O => 0 ≤ i ∧ i ≤ n4 ∧ ∃ rs : List RunR, rs.length = k ∧ k ≤ i.toNat ∧ RunsOK O H' xs rs ∧ (∀ j (hj : j < rs.length), rs[j].m ≤ i.toNat) ∧ GrpV (rs.map (·.vals)) (m.take i.toNat), fun _ _ i => n4 - i.toNat,
    ⟨by omega, by omega, [], rfl, by omega, ⟨rfl, fun j h => by simp at h, fun j k h => by simp at h, fun j h => by simp at h⟩, fun j h => by simp at h, GrpV.nil⟩, ?_⟩
  rintro H9 l9 O k xs i ⟨i0, i1, rs, rfl, hki, hok, hmb, hgr⟩
  refine ⟨fun hlt => ?_, fun hge => ?_⟩
  · have hlt := of_decide_eq_true hlt
    obtain ⟨hi, hA, _, hc, hrel⟩ := hm.at l9 i0 hlt
    obtain ⟨A17, n18, c19, A20, n21, c22, rfl, q1, q2⟩ := hrel
    have hxl : m[i.toNat].lin = [] := hlin _ (hmp.mem_iff.1 (List.getElem_mem hi))
    have hsu : m.take (i + 1).toNat = m.take i.toNat ++ [m[i.toNat]] := by rw [show (i + 1).toNat = i.toNat + 1 by omega, List.take_succ_eq_append_getElem hi]
    have hbel : ∀ q ∈ m.take i.toNat, leF cmpVs q.vals m[i.toNat].vals := by
      intro q hq
      obtain ⟨j, hj, rfl⟩ := List.getElem_of_mem hq
      rw [List.length_take] at hj
      rw [List.getElem_take]
      exact leRw_vals (List.pairwise_iff_getElem.1 hms j i.toNat (by omega) hi (by omega))
    generalize m[i.toNat] = x at q1 q2 hxl hsu hbel
    have mb : ∀ {i' : Nat}, i' ≤ n4 → ∀ j, j ≤ i'.pred → (j + 1) * 48 ≤ 140737488355328 := fun {i'} h j hj => by
      cases i' with
      | zero => simp at hj; omega
      | succ i' => simp at hj; omega
    have newRun : ∀ {H' : Heap}, Heap.le H9 H' → (rs.map (·.vals)).getLast? ≠ some x.vals →
        RunF Try.prog H' O (rs.length + 1) (xs ++ [.slice A17 n18 c19, .slice none 0 0, .slice none 0 0]) ((rs.length : Int) - 1 + 1) A17 n18 c19 A20 n21 c22
          (fun xs' H' O' => rng .i64 (i + 1) ∧ (0 ≤ i + 1 ∧ i + 1 ≤ n4 ∧ ∃ rs' : List RunR, rs'.length = rs.length + 1 ∧ rs.length + 1 ≤ (i + 1).toNat ∧ RunsOK O' H' xs' rs' ∧ (∀ j (hj : j < rs'.length), rs'[j].m ≤ (i + 1).toNat) ∧ GrpV (rs'.map (·.vals)) (m.take (i + 1).toNat)) ∧ n4 - (i + 1).toNat < n4 - i.toNat) := by
      intro H' l' hlast
      refine runF_ok (x := x) ((hok.mono l').new (q1.mono l')) (by simp) (by omega) (by omega) (q1.mono l') (q2.mono l') hxl (fun j hj => ?_) ?_
      · have : (rs ++ [(⟨x.vals, none, 0, 0, [], []⟩ : RunR)])[j].m ≤ i.toNat := by
          rw [List.getElem_append]
          split
          · exact hmb j _
          · simp
        have : i.toNat < n4 := by omega
        omega
      · intro xs' H2 O' rs' l2 hok' hmap hm'
        have hrl : rs'.length = rs.length + 1 := by
          have := congrArg List.length hmap
          simpa using this
        refine ⟨by simp only [rng]; omega, ⟨by omega, by omega, rs', hrl, by omega, hok', fun j hj => ?_, ?_⟩, by omega⟩
        · have hj2 : j < (rs ++ [(⟨x.vals, none, 0, 0, [], []⟩ : RunR)]).length := by simp; omega
          have h1 := hm' j hj hj2
          have : (rs ++ [(⟨x.vals, none, 0, 0, [], []⟩ : RunR)])[j].m ≤ i.toNat := by
            rw [List.getElem_append]
            split
            · exact hmb j _
            · simp
          omega
        · rw [hmap, List.map_append, hsu]
          exact hgr.new hlast hbel
    refine ⟨hA, i0, hlt, _, _, _, _, _, _, hc, by simp only [rng]; omega, fun hk => ?_, fun hk => ?_⟩
    · have hk := of_decide_eq_true hk
      have : rs = [] := List.eq_nil_of_length_eq_zero (by omega)
      refine ⟨by omega, by simp only [rng]; omega, newRun (hle_refl _) ?_⟩
      rw [this]; simp
    · have hk := of_decide_eq_false hk
      have hj : ((rs.length : Int) - 1).toNat < rs.length := by omega
      obtain ⟨vs, ⟨A1, n1, c1, C1, k1, e1, rfl, p1, p2⟩, hg, -⟩ := hok.row.getf hj
      have hlast : (rs.map (·.vals)).getLast? = some rs[((rs.length : Int) - 1).toNat].vals := by
        rw [List.getLast?_eq_getElem?, List.length_map, List.getElem?_map, List.getElem?_eq_getElem (by omega)]
        simp only [Option.map_some]
        congr 3; omega
      refine ⟨by omega, by omega, _, _, _, hg 0 1 (by decide), _, ref6_CompareRows p1 q1, ?_⟩
      rintro H98 l98 _ rfl
      refine ⟨fun hne => ⟨by omega, by simp only [rng]; omega, newRun l98 ?_⟩, fun heq => ?_⟩
      · rw [hlast]
        intro e
        simp only [Option.some.injEq] at e
        rw [e, cmpVs_ord.refl] at hne
        simp at hne
      · have heq : rs[((rs.length : Int) - 1).toNat].vals = x.vals := by
          refine cmpVs_zero.1 ?_
          simpa using heq
        refine runF_ok (x := x) (R := fun xs' H' O' => rng .i64 (i + 1) ∧ (0 ≤ i + 1 ∧ i + 1 ≤ n4 ∧ ∃ rs' : List RunR, rs'.length = rs.length ∧ rs.length ≤ (i + 1).toNat ∧ RunsOK O' H' xs' rs' ∧ (∀ j (hj : j < rs'.length), rs'[j].m ≤ (i + 1).toNat) ∧ GrpV (rs'.map (·.vals)) (m.take (i + 1).toNat)) ∧ n4 - (i + 1).toNat < n4 - i.toNat)
          (hok.mono l98) rfl (by omega) (by omega) (q1.mono l98) (q2.mono l98) hxl (fun j hj => ?_) ?_
        · have := hmb j hj
          have : i.toNat < n4 := by omega
          omega
        · intro xs' H2 O' rs' l2 hok' hmap hm'
          have hrl : rs'.length = rs.length := by
            have := congrArg List.length hmap
            simpa using this
          refine ⟨by simp only [rng]; omega, ⟨by omega, by omega, rs', hrl, by omega, hok', fun j hj => ?_, ?_⟩, by omega⟩
          · have h1 := hm' j hj (by omega)
            have h2 := hmb j (by omega)
            omega
          · rw [hmap, hsu]
            exact hgr.old (by rw [hlast, heq])
  · have hge := of_decide_eq_false hge
    intro A2 c2 H2 l2 hc2 hn2
    have hall : m.take i.toNat = m := List.take_of_length_le (by omega)
    rw [hall] at hgr
    refine ⟨rs, hok.row.sl l2 hc2 rfl hn2 (by show rs.length * 72 ≤ _; omega) (by omega), fun r hr => ?_, by omega, hgr.asc, fun v => ?_⟩
    · obtain ⟨j, hj, rfl⟩ := List.getElem_of_mem hr
      exact hok.lin j hj
    · rw [hgr.mem]
      constructor
      · rintro ⟨r, h1, h2⟩; exact ⟨r, hmp.mem_iff.1 h1, h2⟩
      · rintro ⟨r, h1, h2⟩; exact ⟨r, hmp.mem_iff.2 h1, h2⟩
end Go.Vc
/- The reference's violations of keys: the distinct key values, the tuples of a key. -/
namespace Go.Vc
open Go Go.Proofs Go.Shelf
def an45 : Ann where
  res := fun _ => none
  lend := fun _ => false
  sch := fun _ => .done
  lt := fun | 3 => [.slot 3 false [.row 23 52], .slot 9 false [.int .i64]] | _ => []
  tup := tups

theorem vc45 (P : Program) (H : Heap) (rowsA : Option Addr) (rowsN rowsC : Nat) (post : Option Addr → Nat → Nat → Heap → Prop) :
  vcFn P tab an45 Try.f45 [.slice rowsA rowsN rowsC] 1 H ⟨false, [(false, [.sl])]⟩ post =
  (  ∃ (post0 : Option Addr → Nat → Nat → Heap → Prop), ConT P 69 [.slice rowsA rowsN rowsC] H ⟨false, [(false, [.sl])]⟩ post0 ∧ ∀ (H1 : Heap), Heap.le H H1 → ∀ (A3 : Option Addr) (n4 c5 : Nat),
  post0 A3 n4 c5 H1 → ∃ (inv7 : Nat → List Value → Int → Heap → Prop), ∃ (m8 : Nat → List Value → Int → Nat), inv7 0 [] (0 : Int) H1 ∧ ∀ (H9 : Heap), Heap.le H1 H9 → ∀ (n11 : Nat) (xs12 :
  List Value) (n13 : Int), inv7 n11 xs12 n13 H9 → (decide (n13 < (↑n4 : Int)) = true → someA A3 ∧ (0 : Int) ≤ n13 ∧ n13 < (↑n4 : Int) ∧ ∃ (A16 : Option Addr), ∃ (n17 : Nat), ∃ (c18 : Nat), ∃
  (A19 : Option Addr), ∃ (n20 : Nat), ∃ (c21 : Nat), ∃ (A22 : Option Addr), ∃ (n23 : Nat), ∃ (c24 : Nat), Cells H9 A3 (Int.toNat n13 * 3) [.slice A16 n17 c18, .slice A19 n20 c21, .slice A22
  n23 c24] ∧ (n11 + 1) * 48 ≤ 140737488355328 ∧ rng .i64 (n13 + (1 : Int)) ∧ inv7 (n11 + 1) (xs12 ++ [.slice A16 n17 c18, .slice A22 n23 c24]) (n13 + (1 : Int)) H9 ∧ m8 (n11 + 1) (xs12 ++
  [.slice A16 n17 c18, .slice A22 n23 c24]) (n13 + (1 : Int)) < m8 n11 xs12 n13) ∧ (decide (n13 < (↑n4 : Int)) = false → ∀ (A26 : Option Addr) (c27 : Nat) (H28 : Heap), Heap.le H9 H28 → Cells
  H28 A26 0 xs12 → n11 ≤ c27 → post A26 n11 c27 H28)) := by kernel_rfl
theorem ref9_Distinct {H : Heap} {A : Option Addr} {n c : Nat} {l : List Rw} (hs : Sl H A n c l) (hlin : ∀ r ∈ l, r.lin = []) (hb : n * 72 ≤ 140737488355328) :
    ConT Try.prog 45 [.slice A n c] H shS (fun A' n' c' H' => ∃ rs : List Rw, Sl H' A' n' c' rs ∧ n' ≤ n ∧ ascV (rs.map (·.vals)) ∧ ∀ v, v ∈ rs.map (·.vals) ↔ ∃ r ∈ l, r.vals = v) := by
  refine con_of_vc (an := an45) (fn := Try.f45) mix tabOK Try.func45 (by kernel_rfl) (extra := 1) ?_
  rw [vc45]
  refine ⟨_, ref9_runs hs hlin hb, ?_⟩
  rintro H1 l1 A3 n4 c5 ⟨rs, hr, -, hn, ha, hv⟩
  have hl := hr.len
  have hrl : (rs.map fun r => (⟨r.vals, r.lin⟩ : Rw)).map (·.vals) = rs.map (·.vals) := by rw [List.map_map]; rfl
  refine ⟨fun k xs i H' => 0 ≤ i ∧ i ≤ n4 ∧ k = i.toNat ∧ Row H' xs ((rs.take i.toNat).map fun r => (⟨r.vals, r.lin⟩ : Rw)), fun _ _ i => n4 - i.toNat, ⟨by omega, by omega, rfl, rfl⟩, ?_⟩
  rintro H9 l9 k xs i ⟨i0, i1, rfl, hrow⟩
  refine ⟨fun hlt => ?_, fun hge => ?_⟩
  · have hlt := of_decide_eq_true hlt
    obtain ⟨hi, hA, _, hc, ⟨A1, n1, c1, C1, k1, e1, rfl, p1, p2⟩⟩ := hr.at l9 i0 hlt
    refine ⟨hA, i0, hlt, _, _, _, _, _, _, _, _, _, hc, by omega, by simp only [rng]; omega, ⟨by omega, by omega, by omega, ?_⟩, by dsimp only; omega⟩
    rw [show (i + 1).toNat = i.toNat + 1 by omega, List.take_succ_eq_append_getElem hi, List.map_append]
    exact hrow.append (Row.one ⟨_, _, _, _, _, _, rfl, p1, p2⟩)
  · have hge := of_decide_eq_false hge
    intro A2 c2 H2 l2 hc2 hn2
    have hall : rs.take i.toNat = rs := List.take_of_length_le (by omega)
    rw [hall] at hrow
    refine ⟨_, hrow.sl l2 hc2 (by simp; omega) hn2 (by show i.toNat * 48 ≤ _; omega) (by omega), by omega, ?_, ?_⟩
    · rw [hrl]; exact ha
    · rw [hrl]; exact hv
def an12 : Ann where
  res := fun _ => none
  lend := fun _ => false
  sch := fun _ => .done
  lt := fun | 3 => [.slot 5 false [.row 42 57], .slot 6 false [.int .i64]] | _ => []
  tup := tups

theorem vc12 (P : Program) (H : Heap) (valsA : Option Addr) (valsN valsC : Nat) (colsA : Option Addr) (colsN colsC : Nat) (post : Option Addr → Nat → Nat → Heap → Prop) :
  vcFn P tab an12 Try.f12 [.slice valsA valsN valsC, .slice colsA colsN colsC] 1 H ⟨false, [(false, [.sl])]⟩ post =
  (  ∃ (inv0 : Nat → List Value → Int → Heap → Prop), ∃ (m1 : Nat → List Value → Int → Nat), inv0 0 [] (0 : Int) H ∧ ∀ (H2 : Heap), Heap.le H H2 → ∀ (n4 : Nat) (xs5 : List Value) (n6 : Int),
  inv0 n4 xs5 n6 H2 → (decide (n6 < (↑colsN : Int)) = true → someA colsA ∧ (0 : Int) ≤ n6 ∧ n6 < (↑colsN : Int) ∧ ∃ (n9 : Int), Cells H2 colsA (Int.toNat n6 * 1) [.int .i64 n9] ∧ (decide ((0
  : Int) ≤ n9) = true → someA colsA ∧ (0 : Int) ≤ n6 ∧ n6 < (↑colsN : Int) ∧ ∃ (n11 : Int), Cells H2 colsA (Int.toNat n6 * 1) [.int .i64 n11] ∧ (decide (n11 < (↑valsN : Int)) = true → someA
  colsA ∧ (0 : Int) ≤ n6 ∧ n6 < (↑colsN : Int) ∧ ∃ (n13 : Int), Cells H2 colsA (Int.toNat n6 * 1) [.int .i64 n13] ∧ someA valsA ∧ (0 : Int) ≤ n13 ∧ n13 < (↑valsN : Int) ∧ ∃ (n14 : Int), ∃
  (n15 : Int), ∃ (s16 : ByteArray), Cells H2 valsA (Int.toNat n13 * 3) [.int .i64 n14, .int .i64 n15, .string s16] ∧ (n4 + 1) * 32 ≤ 140737488355328 ∧ rng .i64 (n6 + (1 : Int)) ∧ inv0 (n4 +
  1) (xs5 ++ [.int .i64 n14, .int .i64 n15, .string s16]) (n6 + (1 : Int)) H2 ∧ m1 (n4 + 1) (xs5 ++ [.int .i64 n14, .int .i64 n15, .string s16]) (n6 + (1 : Int)) < m1 n4 xs5 n6) ∧ (decide
  (n11 < (↑valsN : Int)) = false → (n4 + 1) * 32 ≤ 140737488355328 ∧ rng .i64 (n6 + (1 : Int)) ∧ inv0 (n4 + 1) (xs5 ++ [.int .i64 (0 : Int), .int .i64 (0 : Int), .string ⟨⟨[]⟩⟩]) (n6 + (1 :
  Int)) H2 ∧ m1 (n4 + 1) (xs5 ++ [.int .i64 (0 : Int), .int .i64 (0 : Int), .string ⟨⟨[]⟩⟩]) (n6 + (1 : Int)) < m1 n4 xs5 n6)) ∧ (decide ((0 : Int) ≤ n9) = false → (n4 + 1) * 32 ≤
  140737488355328 ∧ rng .i64 (n6 + (1 : Int)) ∧ inv0 (n4 + 1) (xs5 ++ [.int .i64 (0 : Int), .int .i64 (0 : Int), .string ⟨⟨[]⟩⟩]) (n6 + (1 : Int)) H2 ∧ m1 (n4 + 1) (xs5 ++ [.int .i64 (0 :
  Int), .int .i64 (0 : Int), .string ⟨⟨[]⟩⟩]) (n6 + (1 : Int)) < m1 n4 xs5 n6)) ∧ (decide (n6 < (↑colsN : Int)) = false → ∀ (A20 : Option Addr) (c21 : Nat) (H22 : Heap), Heap.le H2 H22 →
  Cells H22 A20 0 xs5 → n4 ≤ c21 → post A20 n4 c21 H22)) := by kernel_rfl
theorem ref21_KeyValues {H : Heap} {A B : Option Addr} {n c m d : Nat} {vals : List Val} {cols : List Int} (hs : Sl H A n c vals) (ht : Sl H B m d cols) (hb : m * 32 ≤ 140737488355328) :
    ConT Try.prog 12 [.slice A n c, .slice B m d] H shS (fun A' n' c' H' => Sl H' A' n' c' (keyVals vals cols)) := by
  refine con_of_vc (an := an12) (fn := Try.f12) mix tabOK Try.func12 (by kernel_rfl) (extra := 1) ?_
  rw [vc12]
  have hbn := ht.bn; have hl := hs.len; have hm := ht.len
  refine ⟨fun k xs i H' => 0 ≤ i ∧ i ≤ m ∧ k = i.toNat ∧ Row H' xs (keyVals vals (cols.take i.toNat)), fun _ _ i => m - i.toNat, ⟨by omega, by omega, rfl, rfl⟩, ?_⟩
  rintro H2 hle k xs i ⟨h0, h1, rfl, hr⟩
  have e1 : (i + 1).toNat = i.toNat + 1 := by omega
  refine ⟨fun hlt => ?_, fun hge => ?_⟩
  · have hlt := of_decide_eq_true hlt
    obtain ⟨hi, hA, _, hc, ⟨rfl, -⟩⟩ := ht.at hle h0 hlt
    have hsu : keyVals vals (cols.take (i + 1).toNat) = keyVals vals (cols.take i.toNat) ++ [keyVal vals cols[i.toNat]] := by
      rw [e1, List.take_succ_eq_append_getElem hi, keyVals, List.map_append]; rfl
    have zero : keyVal vals cols[i.toNat] = val0 → (i.toNat + 1) * 32 ≤ 140737488355328 ∧ rng .i64 (i + 1) ∧ (0 ≤ i + 1 ∧ i + 1 ≤ m ∧ i.toNat + 1 = (i + 1).toNat ∧ Row H2 (xs ++ [.int .i64 0, .int .i64 0, .string ⟨#[]⟩]) (keyVals vals (cols.take (i + 1).toNat))) ∧ m - (i + 1).toNat < m - i.toNat := fun hv =>
      ⟨by omega, by simp only [rng]; omega, ⟨by omega, by omega, by omega, by rw [hsu, hv]; exact hr.append ⟨[.int .i64 0, .int .i64 0, .string ⟨#[]⟩], [], rfl, ⟨rfl, by decide, by decide, by unfold str val0; decide⟩, rfl⟩⟩, by omega⟩
    refine ⟨hA, h0, hlt, _, hc, fun hp => ⟨hA, h0, hlt, _, hc, fun hq => ⟨hA, h0, hlt, _, hc, ?_⟩, fun hq => ?_⟩, fun hp => ?_⟩
    · have hp := of_decide_eq_true hp; have hq := of_decide_eq_true hq
      obtain ⟨hj, hB, _, hd, hv⟩ := hs.at hle hp hq
      have hkv : keyVal vals cols[i.toNat] = vals[cols[i.toNat].toNat] := by unfold keyVal; rw [if_pos hp, List.getD_eq_getElem?_getD, List.getElem?_eq_getElem hj]; rfl
      obtain ⟨rfl, q⟩ := id hv
      exact ⟨hB, hp, hq, _, _, _, hd, by omega, by simp only [rng]; omega, ⟨by omega, by omega, by omega, by rw [hsu, hkv]; exact hr.append ⟨_, [], by simp, hv, rfl⟩⟩, by dsimp only; omega⟩
    · have hp := of_decide_eq_true hp; have hq := of_decide_eq_false hq
      exact zero (by unfold keyVal; rw [if_pos hp, List.getD_eq_getElem?_getD, List.getElem?_eq_none (by omega)]; rfl)
    · have hp := of_decide_eq_false hp
      exact zero (by unfold keyVal; rw [if_neg hp])
  · have hge := of_decide_eq_false hge
    intro A2 c2 H3 l3 hc2 hn2
    rw [List.take_of_length_le (by omega)] at hr
    exact hr.sl l3 hc2 (by simp [keyVals]; omega) hn2 (by show i.toNat * 32 ≤ _; omega) (by omega)
def an44 : Ann where
  res := fun _ => none
  lend := fun _ => false
  sch := fun _ => .done
  lt := fun _ => []
  tup := tups

theorem vc44 (P : Program) (H : Heap) (pFrom : Int) (pTo : Int) (post : Bool → Heap → Prop) :
  vcFn P tab an44 Try.f44 [.agg #[.int .i64 pFrom, .int .i64 pTo]] 0 H ⟨false, [(false, [.bool])]⟩ post =
  (  (decide ((0 : Int) ≤ pFrom) = true → (decide (pFrom < pTo) = true → post (decide (pTo ≤ (1099511627776 : Int))) H) ∧ (decide (pFrom < pTo) = false → post false H)) ∧ (decide ((0 : Int) ≤
  pFrom) = false → post false H)) := by kernel_rfl
theorem ref1_Valid {a b : Int} {H : Heap} : ConT Try.prog 44 [.agg ⟨[.int .i64 a, .int .i64 b]⟩] H shB (fun r _ => r = pOk ⟨a, b⟩) := by
  refine con_of_vc (an := an44) (fn := Try.f44) mix tabOK Try.func44 (by kernel_rfl) (extra := 0) ?_
  rw [vc44]
  grind [pOk]
def an47 : Ann where
  res := fun _ => none
  lend := fun | 6 => true | _ => false
  sch := fun _ => .done
  lt := fun _ => []
  tup := tups

theorem vc47 (P : Program) (H : Heap) (pFrom : Int) (pTo : Int) (t : Int) (post : Bool → Heap → Prop) :
  vcFn P tab an47 Try.f47 [.agg #[.int .i64 pFrom, .int .i64 pTo], .int .i64 t] 0 H ⟨false, [(false, [.bool])]⟩ post =
  (  ∃ (post0 : Bool → Heap → Prop), ConT P 44 [.agg ⟨[.int .i64 pFrom, .int .i64 pTo]⟩] H ⟨false, [(false, [.bool])]⟩ post0 ∧ ∀ (H1 : Heap), Heap.le H H1 → ∀ (b3 : Bool), post0 b3 H1 → (b3 =
  true → (decide (pFrom ≤ t) = true → post (decide (t < pTo)) H1) ∧ (decide (pFrom ≤ t) = false → post false H1)) ∧ (b3 = false → post false H1)) := by kernel_rfl
theorem ref1_Includes {a b t : Int} {H : Heap} : ConT Try.prog 47 [.agg ⟨[.int .i64 a, .int .i64 b]⟩, .int .i64 t] H shB (fun r _ => r = pIn ⟨a, b⟩ t) := by
  refine con_of_vc (an := an47) (fn := Try.f47) mix tabOK Try.func47 (by kernel_rfl) (extra := 0) ?_
  rw [vc47]
  refine ⟨_, ref1_Valid, ?_⟩
  rintro H1 _ _ rfl
  grind [pIn]
def keyRows (l : List Tup) (cols : List Int) : List Rw := (byKeyL l cols).map fun k => ⟨k.key, []⟩
theorem keyRows_succ {l : List Tup} {cols : List Int} {i : Nat} (hi : i < l.length) : keyRows (l.take (i + 1)) cols = keyRows (l.take i) cols ++ (if pOk l[i].p then [⟨keyVals l[i].vals cols, []⟩] else []) := by
  rw [keyRows, byKeyL_succ hi, List.map_append]
  split <;> rfl
def an25 : Ann where
  res := fun _ => none
  lend := fun | 18 => true | _ => false
  sch := fun _ => .done
  lt := fun | 3 => [.slot 5 false [.row 32 52], .slot 6 false [.int .i64]] | _ => []
  tup := tups

theorem vc25 (P : Program) (H : Heap) (lA : Option Addr) (lN lC : Nat) (colsA : Option Addr) (colsN colsC : Nat) (post : Option Addr → Nat → Nat → Heap → Prop) :
  vcFn P tab an25 Try.f25 [.slice lA lN lC, .slice colsA colsN colsC] 1 H ⟨false, [(false, [.sl])]⟩ post =
  (  ∃ (inv0 : Nat → List Value → Int → Heap → Prop), ∃ (m1 : Nat → List Value → Int → Nat), inv0 0 [] (0 : Int) H ∧ ∀ (H2 : Heap), Heap.le H H2 → ∀ (n4 : Nat) (xs5 : List Value) (n6 : Int),
  inv0 n4 xs5 n6 H2 → (decide (n6 < (↑lN : Int)) = true → someA lA ∧ (0 : Int) ≤ n6 ∧ n6 < (↑lN : Int) ∧ ∃ (n9 : Int), ∃ (n10 : Int), Cells H2 lA (Int.toNat n6 * 4 + 1) [.int .i64 n9, .int
  .i64 n10] ∧ ∃ (post11 : Bool → Heap → Prop), ConT P 44 [.agg ⟨[.int .i64 n9, .int .i64 n10]⟩] H2 ⟨false, [(false, [.bool])]⟩ post11 ∧ ∀ (H12 : Heap), Heap.le H2 H12 → ∀ (b14 : Bool), post11
  b14 H12 → (b14 = true → someA lA ∧ (0 : Int) ≤ n6 ∧ n6 < (↑lN : Int) ∧ ∃ (A17 : Option Addr), ∃ (n18 : Nat), ∃ (c19 : Nat), Cells H12 lA (Int.toNat n6 * 4 + 0) [.slice A17 n18 c19] ∧ ∃
  (post20 : Option Addr → Nat → Nat → Heap → Prop), ConT P 12 [.slice A17 n18 c19, .slice colsA colsN colsC] H12 ⟨false, [(false, [.sl])]⟩ post20 ∧ ∀ (H21 : Heap), Heap.le H12 H21 → ∀ (A23 :
  Option Addr) (n24 c25 : Nat), post20 A23 n24 c25 H21 → (n4 + 1) * 48 ≤ 140737488355328 ∧ rng .i64 (n6 + (1 : Int)) ∧ inv0 (n4 + 1) (xs5 ++ [.slice A23 n24 c25, .slice none 0 0]) (n6 + (1 :
  Int)) H21 ∧ m1 (n4 + 1) (xs5 ++ [.slice A23 n24 c25, .slice none 0 0]) (n6 + (1 : Int)) < m1 n4 xs5 n6) ∧ (b14 = false → rng .i64 (n6 + (1 : Int)) ∧ inv0 n4 xs5 (n6 + (1 : Int)) H12 ∧ m1 n4
  xs5 (n6 + (1 : Int)) < m1 n4 xs5 n6)) ∧ (decide (n6 < (↑lN : Int)) = false → ∀ (A29 : Option Addr) (c30 : Nat) (H31 : Heap), Heap.le H2 H31 → Cells H31 A29 0 xs5 → n4 ≤ c30 → ∃ (post35 :
  Option Addr → Nat → Nat → Heap → Prop), ConT P 45 [.slice A29 n4 c30] H31 ⟨false, [(false, [.sl])]⟩ post35 ∧ ∀ (H36 : Heap), Heap.le H31 H36 → ∀ (A38 : Option Addr) (n39 c40 : Nat), post35
  A38 n39 c40 H36 → post A38 n39 c40 H36)) := by kernel_rfl
theorem ref21_keysOf {H : Heap} {A B : Option Addr} {n c m d : Nat} {l : List Tup} {cols : List Int} (hs : Sl H A n c l) (ht : Sl H B m d cols) (hb : m * 32 ≤ 140737488355328) (hn : n * 72 ≤ 140737488355328) :
    ConT Try.prog 25 [.slice A n c, .slice B m d] H shS (fun A' n' c' H' => ∃ rs : List Rw, Sl H' A' n' c' rs ∧ n' ≤ n ∧ ascV (rs.map (·.vals)) ∧ ∀ v, v ∈ rs.map (·.vals) ↔ ∃ k ∈ byKeyL l cols, k.key = v) := by
  refine con_of_vc (an := an25) (fn := Try.f25) mix tabOK Try.func25 (by kernel_rfl) (extra := 1) ?_
  rw [vc25]
  have hl := hs.len
  refine ⟨fun k xs i H' => 0 ≤ i ∧ i ≤ n ∧ k = (keyRows (l.take i.toNat) cols).length ∧ Row H' xs (keyRows (l.take i.toNat) cols), fun _ _ i => n - i.toNat, ⟨by omega, by omega, rfl, rfl⟩, ?_⟩
  rintro H2 hle k xs i ⟨h0, h1, hk, hr⟩
  have hlen := byKeyL_len (l.take i.toNat) cols
  rw [List.length_take] at hlen
  have hkl : k ≤ i.toNat := by rw [hk, keyRows, List.length_map]; omega
  have e1 : (i + 1).toNat = i.toNat + 1 := by omega
  refine ⟨fun hlt => ?_, fun hge => ?_⟩
  · have hlt := of_decide_eq_true hlt
    obtain ⟨hi, hA, _, hc, ⟨A9, n9, c9, A14, n15, c16, rfl, q1, q2, q3, q4⟩⟩ := hs.at hle h0 hlt
    have hsu := keyRows_succ (cols := cols) hi
    refine ⟨hA, h0, hlt, _, _, hc.at2 (k := 1) rfl rfl, _, ref1_Valid, ?_⟩
    rintro H3 l3 _ rfl
    refine ⟨fun hp => ?_, fun hp => ?_⟩
    · have hp' : pOk l[i.toNat].p = true := hp
      rw [if_pos hp'] at hsu
      refine ⟨hA, h0, hlt, _, _, _, (hc.mono l3).at1 (k := 0) rfl, _, ref21_KeyValues (q1.mono l3) (ht.mono (hle_trans hle l3)) hb, ?_⟩
      intro H4 l4 A4 n4 c4 h4
      refine ⟨by omega, by simp only [rng]; omega, ⟨by omega, by omega, by rw [e1, hsu, List.length_append, ← hk]; rfl, ?_⟩, by dsimp only; omega⟩
      rw [e1, hsu]
      exact (hr.mono (hle_trans l3 l4)).append (Row.one ⟨_, _, _, _, _, _, rfl, h4, Sl.nil⟩)
    · have hp' : ¬ pOk l[i.toNat].p = true := by
        have hp : pOk ⟨l[i.toNat].p.lo, l[i.toNat].p.hi⟩ = false := hp
        intro h
        have h : pOk ⟨l[i.toNat].p.lo, l[i.toNat].p.hi⟩ = true := h
        rw [hp] at h; cases h
      rw [if_neg hp', List.append_nil] at hsu
      exact ⟨by simp only [rng]; omega, ⟨by omega, by omega, by rw [e1, hsu]; exact hk, by rw [e1, hsu]; exact hr.mono l3⟩, by dsimp only; omega⟩
  · have hge := of_decide_eq_false hge
    have hall : l.take i.toNat = l := List.take_of_length_le (by omega)
    rw [hall] at hk hr
    intro A4 c4 H4 l4 hc4 hn4
    refine ⟨_, ref9_Distinct (hr.sl l4 hc4 hk.symm hn4 (by show k * 48 ≤ _; omega) (by omega)) (fun r hr => ?_) (by omega), ?_⟩
    · obtain ⟨x, -, rfl⟩ := List.mem_map.1 hr; rfl
    · rintro H5 l5 A5 n5 c5 ⟨rs, r1, r2, r3, r4⟩
      refine ⟨rs, r1, by omega, r3, fun v => ?_⟩
      rw [r4]
      constructor
      · rintro ⟨r, h1, rfl⟩
        obtain ⟨x, hx, rfl⟩ := List.mem_map.1 h1
        exact ⟨x, hx, rfl⟩
      · rintro ⟨x, hx, rfl⟩
        exact ⟨_, List.mem_map.2 ⟨x, hx, rfl⟩, rfl⟩
def withK (l : List Tup) (cols : List Int) (key : List Val) : List Tup := l.filter fun t => pOk t.p && decide (cmpVs (keyVals t.vals cols) key = 0)
theorem withK_succ {l : List Tup} {cols : List Int} {key : List Val} {i : Nat} (hi : i < l.length) : withK (l.take (i + 1)) cols key = withK (l.take i) cols key ++ (if pOk l[i].p && decide (cmpVs (keyVals l[i].vals cols) key = 0) then [l[i]] else []) := by
  rw [List.take_succ_eq_append_getElem hi]
  simp only [withK, List.filter_append, List.filter_cons, List.filter_nil]
theorem withK_len (l : List Tup) (cols : List Int) (key : List Val) : (withK l cols key).length ≤ l.length := List.length_filter_le _ _
def an26 : Ann where
  res := fun _ => none
  lend := fun | 20 => true | 30 => true | _ => false
  sch := fun _ => .done
  lt := fun | 3 => [.slot 7 false [.row 41 42], .slot 8 false [.int .i64]] | _ => []
  tup := tups

theorem vc26 (P : Program) (H : Heap) (lA : Option Addr) (lN lC : Nat) (colsA : Option Addr) (colsN colsC : Nat) (keyA : Option Addr) (keyN keyC : Nat) (post : Option Addr → Nat → Nat → Heap → Prop) :
  vcFn P tab an26 Try.f26 [.slice lA lN lC, .slice colsA colsN colsC, .slice keyA keyN keyC] 1 H ⟨false, [(false, [.sl])]⟩ post =
  (  ∃ (inv0 : Nat → List Value → Int → Heap → Prop), ∃ (m1 : Nat → List Value → Int → Nat), inv0 0 [] (0 : Int) H ∧ ∀ (H2 : Heap), Heap.le H H2 → ∀ (n4 : Nat) (xs5 : List Value) (n6 : Int),
  inv0 n4 xs5 n6 H2 → (decide (n6 < (↑lN : Int)) = true → someA lA ∧ (0 : Int) ≤ n6 ∧ n6 < (↑lN : Int) ∧ ∃ (n9 : Int), ∃ (n10 : Int), Cells H2 lA (Int.toNat n6 * 4 + 1) [.int .i64 n9, .int
  .i64 n10] ∧ ∃ (post11 : Bool → Heap → Prop), ConT P 44 [.agg ⟨[.int .i64 n9, .int .i64 n10]⟩] H2 ⟨false, [(false, [.bool])]⟩ post11 ∧ ∀ (H12 : Heap), Heap.le H2 H12 → ∀ (b14 : Bool), post11
  b14 H12 → (b14 = true → someA lA ∧ (0 : Int) ≤ n6 ∧ n6 < (↑lN : Int) ∧ ∃ (A17 : Option Addr), ∃ (n18 : Nat), ∃ (c19 : Nat), Cells H12 lA (Int.toNat n6 * 4 + 0) [.slice A17 n18 c19] ∧ ∃
  (post20 : Option Addr → Nat → Nat → Heap → Prop), ConT P 12 [.slice A17 n18 c19, .slice colsA colsN colsC] H12 ⟨false, [(false, [.sl])]⟩ post20 ∧ ∀ (H21 : Heap), Heap.le H12 H21 → ∀ (A23 :
  Option Addr) (n24 c25 : Nat), post20 A23 n24 c25 H21 → ∃ (post27 : Int → Heap → Prop), ConT P 10 [.slice A23 n24 c25, .slice keyA keyN keyC] H21 ⟨false, [(false, [.int .i64])]⟩ post27 ∧ ∀
  (H28 : Heap), Heap.le H21 H28 → ∀ (n30 : Int), post27 n30 H28 → (decide (n30 = (0 : Int)) = true → someA lA ∧ (0 : Int) ≤ n6 ∧ n6 < (↑lN : Int) ∧ ∃ (A33 : Option Addr), ∃ (n34 : Nat), ∃
  (c35 : Nat), ∃ (n36 : Int), ∃ (n37 : Int), ∃ (A38 : Option Addr), ∃ (n39 : Nat), ∃ (c40 : Nat), Cells H28 lA (Int.toNat n6 * 4) [.slice A33 n34 c35, .int .i64 n36, .int .i64 n37, .slice A38
  n39 c40] ∧ (n4 + 1) * 64 ≤ 140737488355328 ∧ rng .i64 (n6 + (1 : Int)) ∧ inv0 (n4 + 1) (xs5 ++ [.slice A33 n34 c35, .int .i64 n36, .int .i64 n37, .slice A38 n39 c40]) (n6 + (1 : Int)) H28 ∧
  m1 (n4 + 1) (xs5 ++ [.slice A33 n34 c35, .int .i64 n36, .int .i64 n37, .slice A38 n39 c40]) (n6 + (1 : Int)) < m1 n4 xs5 n6) ∧ (decide (n30 = (0 : Int)) = false → rng .i64 (n6 + (1 : Int))
  ∧ inv0 n4 xs5 (n6 + (1 : Int)) H28 ∧ m1 n4 xs5 (n6 + (1 : Int)) < m1 n4 xs5 n6)) ∧ (b14 = false → rng .i64 (n6 + (1 : Int)) ∧ inv0 n4 xs5 (n6 + (1 : Int)) H12 ∧ m1 n4 xs5 (n6 + (1 : Int)) <
  m1 n4 xs5 n6)) ∧ (decide (n6 < (↑lN : Int)) = false → ∀ (A44 : Option Addr) (c45 : Nat) (H46 : Heap), Heap.le H2 H46 → Cells H46 A44 0 xs5 → n4 ≤ c45 → post A44 n4 c45 H46)) := by kernel_rfl
theorem ref21_withKey {H : Heap} {A B C : Option Addr} {n c m d k e : Nat} {l : List Tup} {cols : List Int} {key : List Val} (hs : Sl H A n c l) (ht : Sl H B m d cols) (hu : Sl H C k e key) (hb : m * 32 ≤ 140737488355328) :
    ConT Try.prog 26 [.slice A n c, .slice B m d, .slice C k e] H shS (fun A' n' c' H' => Sl H' A' n' c' (withK l cols key)) := by
  refine con_of_vc (an := an26) (fn := Try.f26) mix tabOK Try.func26 (by kernel_rfl) (extra := 1) ?_
  rw [vc26]
  have hl := hs.len
  have hbd : n * 64 ≤ 140737488355328 := hs.bnd
  refine ⟨fun k xs i H' => 0 ≤ i ∧ i ≤ n ∧ k = (withK (l.take i.toNat) cols key).length ∧ Row H' xs (withK (l.take i.toNat) cols key), fun _ _ i => n - i.toNat, ⟨by omega, by omega, rfl, rfl⟩, ?_⟩
  rintro H2 hle k xs i ⟨h0, h1, hk, hr⟩
  have hlen := withK_len (l.take i.toNat) cols key
  rw [List.length_take] at hlen
  have e1 : (i + 1).toNat = i.toNat + 1 := by omega
  refine ⟨fun hlt => ?_, fun hge => ?_⟩
  · have hlt := of_decide_eq_true hlt
    obtain ⟨hi, hA, _, hc, hrel⟩ := hs.at hle h0 hlt
    obtain ⟨A9, n9, c9, A14, n15, c16, rfl, q1, q2, q3, q4⟩ := id hrel
    have hsu := withK_succ (cols := cols) (key := key) hi
    have skip : (pOk l[i.toNat].p && decide (cmpVs (keyVals l[i.toNat].vals cols) key = 0)) = false → ∀ {H' : Heap}, Heap.le H2 H' → rng .i64 (i + 1) ∧ (0 ≤ i + 1 ∧ i + 1 ≤ n ∧ k = (withK (l.take (i + 1).toNat) cols key).length ∧ Row H' xs (withK (l.take (i + 1).toNat) cols key)) ∧ n - (i + 1).toNat < n - i.toNat := by
      intro hf H' l'
      rw [if_neg (by simp [hf]), List.append_nil] at hsu
      exact ⟨by simp only [rng]; omega, ⟨by omega, by omega, by rw [e1, hsu]; exact hk, by rw [e1, hsu]; exact hr.mono l'⟩, by omega⟩
    refine ⟨hA, h0, hlt, _, _, hc.at2 (k := 1) rfl rfl, _, ref1_Valid, ?_⟩
    rintro H3 l3 _ rfl
    refine ⟨fun hp => ?_, fun hp => ?_⟩
    · have hp' : pOk l[i.toNat].p = true := hp
      refine ⟨hA, h0, hlt, _, _, _, (hc.mono l3).at1 (k := 0) rfl, _, ref21_KeyValues (q1.mono l3) (ht.mono (hle_trans hle l3)) hb, ?_⟩
      intro H4 l4 A4 n4 c4 h4
      refine ⟨_, ref6_CompareRows h4 (hu.mono (hle_trans hle (hle_trans l3 l4))), ?_⟩
      rintro H5 l5 _ rfl
      have l35 := hle_trans l3 (hle_trans l4 l5)
      refine ⟨fun he => ?_, fun he => skip (by rw [hp', he]; rfl) l35⟩
      rw [if_pos (by rw [hp', he]; rfl)] at hsu
      refine ⟨hA, h0, hlt, _, _, _, _, _, _, _, _, hc.mono l35, by omega, by simp only [rng]; omega, ⟨by omega, by omega, by rw [e1, hsu, List.length_append, ← hk]; rfl, ?_⟩, by dsimp only; omega⟩
      rw [e1, hsu]
      exact (hr.mono l35).append (Row.one (Rep.mono l35 hrel))
    · have hp' : pOk l[i.toNat].p = false := hp
      exact skip (by rw [hp']; rfl) l3
  · have hge := of_decide_eq_false hge
    have hall : l.take i.toNat = l := List.take_of_length_le (by omega)
    have hlen := withK_len l cols key
    rw [hall] at hk hr
    intro A4 c4 H4 l4 hc4 hn4
    exact hr.sl l4 hc4 hk.symm hn4 (by show k * 64 ≤ _; omega) (by omega)
def canon (l : List Int) : List Int := Lib.compact (sortI l)
theorem canon_asc (l : List Int) : (canon l).Pairwise (fun a b => a < b) := compact_asc _ (sortI_asc _)
theorem canon_mem {l : List Int} {y : Int} : y ∈ canon l ↔ y ∈ l := by rw [canon, compact_mem, sortI, List.mem_mergeSort]
theorem canon_eq {l m : List Int} (h : ∀ y, y ∈ l ↔ y ∈ m) : canon l = canon m := asc_unique (canon_asc l) (canon_asc m) fun y => by rw [canon_mem, canon_mem, h]
theorem canon_nil : canon [] = [] := List.eq_nil_iff_forall_not_mem.2 fun y hy => by rw [canon_mem] at hy; cases hy
theorem canon_len (l : List Int) : (canon l).length ≤ l.length := by have := compact_len (sortI l); rw [sortI_len] at this; exact this
theorem mergeLin_canon (p q : List Int) : mergeLin (canon p) q = canon (p ++ q) := canon_eq fun y => by rw [List.mem_append, List.mem_append, canon_mem]
def tends (l : List Tup) : List Int := (l.filter fun t => pOk t.p).flatMap fun t => [t.p.lo, t.p.hi]
theorem tends_succ {l : List Tup} {i : Nat} (hi : i < l.length) : tends (l.take (i + 1)) = tends (l.take i) ++ (if pOk l[i].p then [l[i].p.lo, l[i].p.hi] else []) := by
  rw [List.take_succ_eq_append_getElem hi]
  simp only [tends, List.filter_append, List.flatMap_append, List.filter_cons, List.filter_nil]
  split <;> simp
theorem tends_len : ∀ l : List Tup, (tends l).length ≤ 2 * l.length
  | [] => by simp [tends]
  | t :: l => by
    have ih := tends_len l
    simp only [tends, List.filter_cons, List.length_cons] at ih ⊢
    split
    · simp only [List.flatMap_cons, List.length_append, List.length_cons, List.length_nil]; omega
    · omega
def an27 : Ann where
  res := fun _ => none
  lend := fun | 14 => true | _ => false
  sch := fun _ => .done
  lt := fun | 3 => [.slot 3 false [.sl], .slot 8 false [.int .i64]] | _ => []
  tup := tups

theorem vc27 (P : Program) (H : Heap) (tuplesA : Option Addr) (tuplesN tuplesC : Nat) (post : Option Addr → Nat → Nat → Heap → Prop) :
  vcFn P tab an27 Try.f27 [.slice tuplesA tuplesN tuplesC] 0 H ⟨false, [(false, [.sl])]⟩ post =
  (  ∃ (inv0 : Option Addr → Nat → Nat → Int → Heap → Prop), ∃ (m1 : Option Addr → Nat → Nat → Int → Nat), inv0 none 0 0 (0 : Int) H ∧ ∀ (H2 : Heap), Heap.le H H2 → ∀ (A4 : Option Addr) (n5 c6 :
  Nat) (n7 : Int), inv0 A4 n5 c6 n7 H2 → (decide (n7 < (↑tuplesN : Int)) = true → someA tuplesA ∧ (0 : Int) ≤ n7 ∧ n7 < (↑tuplesN : Int) ∧ ∃ (A10 : Option Addr), ∃ (n11 : Nat), ∃ (c12 : Nat),
  ∃ (n13 : Int), ∃ (n14 : Int), ∃ (A15 : Option Addr), ∃ (n16 : Nat), ∃ (c17 : Nat), Cells H2 tuplesA (Int.toNat n7 * 4) [.slice A10 n11 c12, .int .i64 n13, .int .i64 n14, .slice A15 n16 c17]
  ∧ ∃ (post18 : Bool → Heap → Prop), ConT P 44 [.agg ⟨[.int .i64 n13, .int .i64 n14]⟩] H2 ⟨false, [(false, [.bool])]⟩ post18 ∧ ∀ (H19 : Heap), Heap.le H2 H19 → ∀ (b21 : Bool), post18 b21 H19
  → (b21 = true → ∀ (A24 : Option Addr) (c25 : Nat) (H26 : Heap), Heap.le H19 H26 → Cells H26 A24 0 [.int .i64 n13, .int .i64 n14] → 2 ≤ c25 → ∃ (post30 : Option Addr → Nat → Nat → Heap →
  Prop), ConT P 46 [.slice A4 n5 c6, .slice A24 2 c25] H26 ⟨false, [(false, [.sl])]⟩ post30 ∧ ∀ (H31 : Heap), Heap.le H26 H31 → ∀ (A33 : Option Addr) (n34 c35 : Nat), post30 A33 n34 c35 H31 →
  rng .i64 (n7 + (1 : Int)) ∧ inv0 A33 n34 c35 (n7 + (1 : Int)) H31 ∧ m1 A33 n34 c35 (n7 + (1 : Int)) < m1 A4 n5 c6 n7) ∧ (b21 = false → rng .i64 (n7 + (1 : Int)) ∧ inv0 A4 n5 c6 (n7 + (1 :
  Int)) H19 ∧ m1 A4 n5 c6 (n7 + (1 : Int)) < m1 A4 n5 c6 n7)) ∧ (decide (n7 < (↑tuplesN : Int)) = false → post A4 n5 c6 H2)) := by kernel_rfl
theorem ref9_Boundaries {H : Heap} {A : Option Addr} {n c : Nat} {l : List Tup} (hs : Sl H A n c l) : ConT Try.prog 27 [.slice A n c] H shS (fun A' n' c' H' => Sl H' A' n' c' (canon (tends l))) := by
  refine con_of_vc (an := an27) (fn := Try.f27) mix tabOK Try.func27 (by kernel_rfl) (extra := 0) ?_
  rw [vc27]
  have hl := hs.len
  have hbd : n * 64 ≤ 140737488355328 := hs.bnd
  refine ⟨fun A n' c i H' => 0 ≤ i ∧ i ≤ n ∧ Sl H' A n' c (canon (tends (l.take i.toNat))), fun _ _ _ i => n - i.toNat, ⟨by omega, by omega, by rw [show canon (tends (l.take (0 : Int).toNat)) = [] from canon_nil]; exact Sl.nil⟩, ?_⟩
  rintro H2 hle A4 n5 c6 i ⟨h0, h1, hr⟩
  have hrl := hr.len
  have hc1 := canon_len (tends (l.take i.toNat))
  have hc2 := tends_len (l.take i.toNat)
  rw [List.length_take] at hc2
  have e1 : (i + 1).toNat = i.toNat + 1 := by omega
  refine ⟨fun hlt => ?_, fun hge => ?_⟩
  · have hlt := of_decide_eq_true hlt
    obtain ⟨hi, hA, _, hc, ⟨A9, n9, c9, A14, n15, c16, rfl, q1, q2, q3, q4⟩⟩ := hs.at hle h0 hlt
    have hsu := tends_succ hi
    refine ⟨hA, h0, hlt, _, _, _, _, _, _, _, _, hc, _, ref1_Valid, ?_⟩
    rintro H3 l3 _ rfl
    refine ⟨fun hp => ?_, fun hp => ?_⟩
    · have hp' : pOk l[i.toNat].p = true := hp
      rw [if_pos hp'] at hsu
      intro A24 c25 H26 l26 hc26 hn26
      have h2 : Sl H26 A24 2 c25 [l[i.toNat].p.lo, l[i.toNat].p.hi] := Row.sl (H := H26) (T := Int) (l := [l[i.toNat].p.lo, l[i.toNat].p.hi]) ⟨[_], [_], rfl, ⟨rfl, q2⟩, [_], [], rfl, ⟨rfl, q3⟩, rfl⟩ (hle_refl _) hc26 rfl hn26 (by decide) (by decide)
      refine ⟨_, ref6_MergeLineage (hr.mono (hle_trans l3 l26)) h2 (by omega), ?_⟩
      intro H31 l31 A33 n34 c35 hm
      rw [mergeLin_canon, ← hsu] at hm
      exact ⟨by simp only [rng]; omega, ⟨by omega, by omega, by rw [e1]; exact hm⟩, by dsimp only; omega⟩
    · have hp' : ¬ pOk l[i.toNat].p = true := by
        have hp : pOk ⟨l[i.toNat].p.lo, l[i.toNat].p.hi⟩ = false := hp
        intro h
        have h : pOk ⟨l[i.toNat].p.lo, l[i.toNat].p.hi⟩ = true := h
        rw [hp] at h; cases h
      rw [if_neg hp', List.append_nil] at hsu
      exact ⟨by simp only [rng]; omega, ⟨by omega, by omega, by rw [e1, hsu]; exact hr.mono l3⟩, by dsimp only; omega⟩
  · have hge := of_decide_eq_false hge
    have hall : l.take i.toNat = l := List.take_of_length_le (by omega)
    rw [hall] at hr
    exact hr
def inT (t : Int) (x : Tup) : Bool := pIn x.p t
theorem inT_succ {l : List Tup} {t : Int} {i : Nat} (hi : i < l.length) : (l.take (i + 1)).filter (inT t) = (l.take i).filter (inT t) ++ (if inT t l[i] then [l[i]] else []) := by
  rw [List.take_succ_eq_append_getElem hi]
  simp only [List.filter_append, List.filter_cons, List.filter_nil]
theorem tlins_sub {a b : List Tup} (h : a.Sublist b) : (tlins a).length ≤ (tlins b).length := by
  induction h with
  | slnil => exact Nat.le_refl _
  | cons x _ ih => simp only [tlins, List.flatMap_cons, List.length_append] at *; omega
  | cons_cons x _ ih => simp only [tlins, List.flatMap_cons, List.length_append] at *; omega
theorem tlins_append (a b : List Tup) : tlins (a ++ b) = tlins a ++ tlins b := by simp [tlins]
def an28 : Ann where
  res := fun _ => none
  lend := fun | 21 => true | _ => false
  sch := fun _ => .done
  lt := fun | 4 => [.slot 6 false [.int .i64], .slot 7 false [.sl], .slot 8 false [.int .i64]] | _ => []
  tup := tups

theorem vc28 (P : Program) (H : Heap) (lA : Option Addr) (lN lC : Nat) (t : Int) (post : Int → Option Addr → Nat → Nat → Heap → Prop) :
  vcFn P tab an28 Try.f28 [.slice lA lN lC, .int .i64 t] 0 H ⟨true, [(false, [.int .i64]), (false, [.sl])]⟩ post =
  (  ∃ (inv0 : Int → Option Addr → Nat → Nat → Int → Heap → Prop), ∃ (m1 : Int → Option Addr → Nat → Nat → Int → Nat), inv0 (0 : Int) none 0 0 (0 : Int) H ∧ ∀ (H2 : Heap), Heap.le H H2 → ∀ (n4 :
  Int) (A5 : Option Addr) (n6 c7 : Nat) (n8 : Int), inv0 n4 A5 n6 c7 n8 H2 → (decide (n8 < (↑lN : Int)) = true → someA lA ∧ (0 : Int) ≤ n8 ∧ n8 < (↑lN : Int) ∧ ∃ (n11 : Int), ∃ (n12 : Int),
  Cells H2 lA (Int.toNat n8 * 4 + 1) [.int .i64 n11, .int .i64 n12] ∧ ∃ (post13 : Bool → Heap → Prop), ConT P 47 [.agg ⟨[.int .i64 n11, .int .i64 n12]⟩, .int .i64 t] H2 ⟨false, [(false,
  [.bool])]⟩ post13 ∧ ∀ (H14 : Heap), Heap.le H2 H14 → ∀ (b16 : Bool), post13 b16 H14 → (b16 = true → rng .i64 (n4 + (1 : Int)) ∧ someA lA ∧ (0 : Int) ≤ n8 ∧ n8 < (↑lN : Int) ∧ ∃ (A19 :
  Option Addr), ∃ (n20 : Nat), ∃ (c21 : Nat), Cells H14 lA (Int.toNat n8 * 4 + 3) [.slice A19 n20 c21] ∧ ∃ (post22 : Option Addr → Nat → Nat → Heap → Prop), ConT P 46 [.slice A5 n6 c7, .slice
  A19 n20 c21] H14 ⟨false, [(false, [.sl])]⟩ post22 ∧ ∀ (H23 : Heap), Heap.le H14 H23 → ∀ (A25 : Option Addr) (n26 c27 : Nat), post22 A25 n26 c27 H23 → rng .i64 (n8 + (1 : Int)) ∧ inv0 (n4 +
  (1 : Int)) A25 n26 c27 (n8 + (1 : Int)) H23 ∧ m1 (n4 + (1 : Int)) A25 n26 c27 (n8 + (1 : Int)) < m1 n4 A5 n6 c7 n8) ∧ (b16 = false → rng .i64 (n8 + (1 : Int)) ∧ inv0 n4 A5 n6 c7 (n8 + (1 :
  Int)) H14 ∧ m1 n4 A5 n6 c7 (n8 + (1 : Int)) < m1 n4 A5 n6 c7 n8)) ∧ (decide (n8 < (↑lN : Int)) = false → post n4 A5 n6 c7 H2)) := by kernel_rfl
theorem ref21_holding {H : Heap} {A : Option Addr} {n c : Nat} {l : List Tup} {t : Int} (hs : Sl H A n c l) (hb : (tlins l).length * 8 ≤ 140737488355328) :
    ConT Try.prog 28 [.slice A n c, .int .i64 t] H ⟨true, [(false, [.int .i64]), (false, [.sl])]⟩ (fun k A' n' c' H' => k = (l.filter (inT t)).length ∧ Sl H' A' n' c' (canon (tlins (l.filter (inT t))))) := by
  refine con_of_vc (an := an28) (fn := Try.f28) mix tabOK Try.func28 (by kernel_rfl) (extra := 0) ?_
  rw [vc28]
  have hl := hs.len
  have hbn := hs.bn
  refine ⟨fun k A n' c i H' => 0 ≤ i ∧ i ≤ n ∧ k = ((l.take i.toNat).filter (inT t)).length ∧ Sl H' A n' c (canon (tlins ((l.take i.toNat).filter (inT t)))), fun _ _ _ _ i => n - i.toNat, ⟨by omega, by omega, by simp, by rw [show canon (tlins ((l.take (0 : Int).toNat).filter (inT t))) = [] from canon_nil]; exact Sl.nil⟩, ?_⟩
  rintro H2 hle k A4 n5 c6 i ⟨h0, h1, rfl, hr⟩
  have hrl := hr.len
  have hc1 := canon_len (tlins ((l.take i.toNat).filter (inT t)))
  have hfl := List.length_filter_le (inT t) (l.take i.toNat)
  rw [List.length_take] at hfl
  have e1 : (i + 1).toNat = i.toNat + 1 := by omega
  refine ⟨fun hlt => ?_, fun hge => ⟨?_, ?_⟩⟩
  · have hlt := of_decide_eq_true hlt
    obtain ⟨hi, hA, _, hc, ⟨A9, n9, c9, A14, n15, c16, rfl, q1, q2, q3, q4⟩⟩ := hs.at hle h0 hlt
    have hsu := inT_succ (t := t) hi
    refine ⟨hA, h0, hlt, _, _, hc.at2 (k := 1) rfl rfl, _, ref1_Includes, ?_⟩
    rintro H3 l3 _ rfl
    refine ⟨fun hp => ?_, fun hp => ?_⟩
    · have hp' : inT t l[i.toNat] = true := hp
      rw [if_pos hp'] at hsu
      have htl : (tlins ((l.take i.toNat).filter (inT t) ++ [l[i.toNat]])).length ≤ (tlins l).length := by
        rw [← hsu]; exact tlins_sub (List.filter_sublist.trans (List.take_sublist _ _))
      rw [tlins_append, List.length_append] at htl
      have hq4 := q4.len
      have e4 : tlins [l[i.toNat]] = l[i.toNat].lin := by simp [tlins]
      rw [e4] at htl
      refine ⟨by simp only [rng]; omega, hA, h0, hlt, _, _, _, (hc.mono l3).at1 (k := 3) rfl, _, ref6_MergeLineage (hr.mono l3) (q4.mono l3) (by omega), ?_⟩
      intro H31 l31 A33 n34 c35 hm
      rw [mergeLin_canon, ← e4, ← tlins_append, ← hsu] at hm
      exact ⟨by simp only [rng]; omega, ⟨by omega, by omega, by rw [e1, hsu]; simp, by rw [e1]; exact hm⟩, by dsimp only; omega⟩
    · have hp' : ¬ inT t l[i.toNat] = true := by
        have hp : inT t l[i.toNat] = false := hp
        rw [hp]; simp
      rw [if_neg hp', List.append_nil] at hsu
      exact ⟨by simp only [rng]; omega, ⟨by omega, by omega, by rw [e1, hsu], by rw [e1, hsu]; exact hr.mono l3⟩, by dsimp only; omega⟩
  · have hge := of_decide_eq_false hge
    rw [List.take_of_length_le (by omega)]
  · have hge := of_decide_eq_false hge
    have hall : l.take i.toNat = l := List.take_of_length_le (by omega)
    rw [hall] at hr
    exact hr
end Go.Vc
/- The reference's violations of keys. -/
namespace Go.Vc
open Go Go.Proofs Go.Shelf
def an30 : Ann where
  res := fun _ => none
  lend := fun _ => false
  sch := fun | 6 => (tk [0, 1, 2, 3, 4, 5, 6, 7, 8] .done) | _ => .done
  lt := fun | 4 => [.slot 5 false [.int .i64]] | _ => []
  tup := tups

theorem vc30 (P : Program) (H : Heap) (aA : Option Addr) (aN aC : Nat) (bA : Option Addr) (bN bC : Nat) (post : Bool → Heap → Prop) :
  vcFn P tab an30 Try.f30 [.slice aA aN aC, .slice bA bN bC] 0 H ⟨false, [(false, [.bool])]⟩ post =
  (  ((!decide ((↑aN : Int) = (↑bN : Int))) = true → post false H) ∧ ((!decide ((↑aN : Int) = (↑bN : Int))) = false → ∃ (inv2 : Int → Heap → Prop), ∃ (m3 : Int → Nat), inv2 (0 : Int) H ∧ ∀ (H4 :
  Heap), Heap.le H H4 → ∀ (n6 : Int), inv2 n6 H4 → (decide (n6 < (↑aN : Int)) = true → someA aA ∧ (0 : Int) ≤ n6 ∧ n6 < (↑aN : Int) ∧ ∃ (n9 : Int), Cells H4 aA (Int.toNat n6 * 1) [.int .i64
  n9] ∧ someA bA ∧ (0 : Int) ≤ n6 ∧ n6 < (↑bN : Int) ∧ ∃ (n10 : Int), Cells H4 bA (Int.toNat n6 * 1) [.int .i64 n10] ∧ ((!decide (n9 = n10)) = true → post false H4) ∧ ((!decide (n9 = n10)) =
  false → rng .i64 (n6 + (1 : Int)) ∧ inv2 (n6 + (1 : Int)) H4 ∧ m3 (n6 + (1 : Int)) < m3 n6)) ∧ (decide (n6 < (↑aN : Int)) = false → post true H4))) := by kernel_rfl
theorem ref1_SameInts {H : Heap} {A B : Option Addr} {n c m d : Nat} {a b : List Int} (hs : Sl H A n c a) (ht : Sl H B m d b) :
    ConT Try.prog 30 [.slice A n c, .slice B m d] H shB (fun r _ => r = decide (a = b)) := by
  refine con_of_vc (an := an30) (fn := Try.f30) mix tabOK Try.func30 (by kernel_rfl) (extra := 0) ?_
  rw [vc30]
  have hl := hs.len; have hm := ht.len; have hb := hs.bn
  refine ⟨fun hne => ?_, fun he => ?_⟩
  · have : ¬ a = b := fun e => by subst e; simp at hne; omega
    simp [this]
  have hnm' : (n : Int) = m := by simpa using he
  have hnm : n = m := by omega
  refine ⟨fun i _ => 0 ≤ i ∧ i ≤ n ∧ (a = b ↔ a.drop i.toNat = b.drop i.toNat), fun i => n - i.toNat, ⟨by omega, by omega, by simp⟩, ?_⟩
  rintro H2 hle i ⟨h0, h1, h2⟩
  refine ⟨fun hlt => ?_, fun hge => ?_⟩
  · have hlt := of_decide_eq_true hlt
    obtain ⟨hi, hA, _, hc, ⟨rfl, q⟩⟩ := hs.at hle h0 hlt
    obtain ⟨hj, hB, _, hd, ⟨rfl, q'⟩⟩ := ht.at hle h0 (by omega)
    rw [drop_at h0 hi, drop_at h0 hj] at h2
    refine ⟨hA, h0, hlt, _, hc, hB, h0, by omega, _, hd, fun hne => ?_, fun he => ⟨by simp only [rng]; omega, ⟨by omega, by omega, ?_⟩, by dsimp only; omega⟩⟩
    · have : ¬ a = b := fun e => by
        have := h2.1 e
        simp only [List.cons.injEq] at this
        simp [this.1] at hne
      simp [this]
    · have he : a[i.toNat] = b[i.toNat] := by simpa using he
      rw [h2, he]; simp
  · have hge := of_decide_eq_false hge
    rw [drop_end hge hl, List.drop_eq_nil_of_le (by omega)] at h2
    simp [h2.2 rfl]
theorem vio_eq {u v : Vio} : u = v ↔ u.p.lo = v.p.lo ∧ u.p.hi = v.p.hi ∧ u.ids = v.ids := by
  obtain ⟨⟨a, b⟩, i⟩ := u; obtain ⟨⟨c, d⟩, j⟩ := v
  simp [and_assoc]
def an15 : Ann where
  res := fun _ => none
  lend := fun | 39 => true | _ => false
  sch := fun | 6 => (tk [0, 1, 2, 3, 4, 5, 6, 7, 8, 9, 10, 11, 12, 13, 14, 15, 16, 17, 18, 19, 20, 21] (.alt 22 (tk [23, 24] .done) .fin)) | _ => .done
  lt := fun | 4 => [.slot 5 false [.int .i64]] | _ => []
  tup := tups

theorem vc15 (P : Program) (H : Heap) (aA : Option Addr) (aN aC : Nat) (bA : Option Addr) (bN bC : Nat) (post : Bool → Heap → Prop) :
  vcFn P tab an15 Try.f15 [.slice aA aN aC, .slice bA bN bC] 0 H ⟨false, [(false, [.bool])]⟩ post =
  (  ((!decide ((↑aN : Int) = (↑bN : Int))) = true → post false H) ∧ ((!decide ((↑aN : Int) = (↑bN : Int))) = false → ∃ (inv2 : Int → Heap → Prop), ∃ (m3 : Int → Nat), inv2 (0 : Int) H ∧ ∀ (H4 :
  Heap), Heap.le H H4 → ∀ (n6 : Int), inv2 n6 H4 → (decide (n6 < (↑aN : Int)) = true → someA aA ∧ (0 : Int) ≤ n6 ∧ n6 < (↑aN : Int) ∧ ∃ (n9 : Int), ∃ (n10 : Int), Cells H4 aA (Int.toNat n6 *
  3 + 0) [.int .i64 n9, .int .i64 n10] ∧ someA bA ∧ (0 : Int) ≤ n6 ∧ n6 < (↑bN : Int) ∧ ∃ (n11 : Int), ∃ (n12 : Int), Cells H4 bA (Int.toNat n6 * 3 + 0) [.int .i64 n11, .int .i64 n12] ∧
  ((!(decide (n9 = n11) && decide (n10 = n12))) = true → post false H4) ∧ ((!(decide (n9 = n11) && decide (n10 = n12))) = false → someA aA ∧ (0 : Int) ≤ n6 ∧ n6 < (↑aN : Int) ∧ ∃ (A15 :
  Option Addr), ∃ (n16 : Nat), ∃ (c17 : Nat), Cells H4 aA (Int.toNat n6 * 3 + 2) [.slice A15 n16 c17] ∧ someA bA ∧ (0 : Int) ≤ n6 ∧ n6 < (↑bN : Int) ∧ ∃ (A18 : Option Addr), ∃ (n19 : Nat), ∃
  (c20 : Nat), Cells H4 bA (Int.toNat n6 * 3 + 2) [.slice A18 n19 c20] ∧ ∃ (post21 : Bool → Heap → Prop), ConT P 30 [.slice A15 n16 c17, .slice A18 n19 c20] H4 ⟨false, [(false, [.bool])]⟩
  post21 ∧ ∀ (H22 : Heap), Heap.le H4 H22 → ∀ (b24 : Bool), post21 b24 H22 → ((!b24) = true → post false H22) ∧ ((!b24) = false → rng .i64 (n6 + (1 : Int)) ∧ inv2 (n6 + (1 : Int)) H22 ∧ m3
  (n6 + (1 : Int)) < m3 n6))) ∧ (decide (n6 < (↑aN : Int)) = false → post true H4))) := by kernel_rfl
theorem ref21_SameViolations {H : Heap} {A B : Option Addr} {n c m d : Nat} {a b : List Vio} (hs : Sl H A n c a) (ht : Sl H B m d b) :
    ConT Try.prog 15 [.slice A n c, .slice B m d] H shB (fun r _ => r = decide (a = b)) := by
  refine con_of_vc (an := an15) (fn := Try.f15) mix tabOK Try.func15 (by kernel_rfl) (extra := 0) ?_
  rw [vc15]
  have hl := hs.len; have hm := ht.len; have hb := hs.bn
  refine ⟨fun hne => ?_, fun he => ?_⟩
  · have : ¬ a = b := fun e => by subst e; simp at hne; omega
    simp [this]
  have hnm' : (n : Int) = m := by simpa using he
  have hnm : n = m := by omega
  refine ⟨fun i _ => 0 ≤ i ∧ i ≤ n ∧ (a = b ↔ a.drop i.toNat = b.drop i.toNat), fun i => n - i.toNat, ⟨by omega, by omega, by simp⟩, ?_⟩
  rintro H2 hle i ⟨h0, h1, h2⟩
  refine ⟨fun hlt => ?_, fun hge => ?_⟩
  · have hlt := of_decide_eq_true hlt
    obtain ⟨hi, hA, _, hc, ⟨A1, n1, c1, rfl, q1, q2, q3⟩⟩ := hs.at hle h0 hlt
    obtain ⟨hj, hB, _, hd, ⟨A2, n2, c2, rfl, p1, p2, p3⟩⟩ := ht.at hle h0 (by omega)
    rw [drop_at h0 hi, drop_at h0 hj] at h2
    have hne' : a[i.toNat] ≠ b[i.toNat] → decide (a = b) = false := fun h => decide_eq_false fun e => by
      have := h2.1 e
      simp only [List.cons.injEq] at this
      exact h this.1
    refine ⟨hA, h0, hlt, _, _, hc.at2 (k := 0) rfl rfl, hB, h0, by omega, _, _, hd.at2 (k := 0) rfl rfl, fun hne => ?_, fun he => ⟨hA, h0, hlt, _, _, _, hc.at1 (k := 2) rfl, hB, h0, by omega, _, _, _, hd.at1 (k := 2) rfl, _, ref1_SameInts q3 p3, ?_⟩⟩
    · rw [hne' fun e => ?_]
      rw [e] at hne
      simp at hne
    · rintro H3 l3 _ rfl
      refine ⟨fun hne => ?_, fun he2 => ⟨by simp only [rng]; omega, ⟨by omega, by omega, ?_⟩, by dsimp only; omega⟩⟩
      · rw [hne' fun e => ?_]
        rw [e] at hne
        simp at hne
      · have e1 : a[i.toNat].p.lo = b[i.toNat].p.lo ∧ a[i.toNat].p.hi = b[i.toNat].p.hi := by simpa using he
        have e2 : a[i.toNat].ids = b[i.toNat].ids := by simpa using he2
        rw [h2, vio_eq.2 ⟨e1.1, e1.2, e2⟩]; simp
  · have hge := of_decide_eq_false hge
    rw [drop_end hge hl, List.drop_eq_nil_of_le (by omega)] at h2
    simp [h2.2 rfl]
def an13 : Ann where
  res := fun _ => none
  lend := fun _ => false
  sch := fun _ => .done
  lt := fun | 2 => [.slot 5 false [.int .i64]] | _ => []
  tup := tups

theorem vc13 (P : Program) (H : Heap) (lA : Option Addr) (lN lC : Nat) (most : Int) (post : Bool → Heap → Prop) :
  vcFn P tab an13 Try.f13 [.slice lA lN lC, .int .i64 most] 0 H ⟨false, [(false, [.bool])]⟩ post =
  (  ∃ (inv0 : Int → Heap → Prop), ∃ (m1 : Int → Nat), inv0 (0 : Int) H ∧ ∀ (H2 : Heap), Heap.le H H2 → ∀ (n4 : Int), inv0 n4 H2 → (decide (n4 < (↑lN : Int)) = true → (decide (n4 ≤ most) = true
  → someA lA ∧ (0 : Int) ≤ n4 ∧ n4 < (↑lN : Int) ∧ ∃ (A8 : Option Addr), ∃ (n9 : Nat), ∃ (c10 : Nat), Cells H2 lA (Int.toNat n4 * 4 + 0) [.slice A8 n9 c10] ∧ (decide ((6 : Int) < (↑n9 : Int))
  = true → post false H2) ∧ (decide ((6 : Int) < (↑n9 : Int)) = false → someA lA ∧ (0 : Int) ≤ n4 ∧ n4 < (↑lN : Int) ∧ ∃ (A13 : Option Addr), ∃ (n14 : Nat), ∃ (c15 : Nat), Cells H2 lA
  (Int.toNat n4 * 4 + 3) [.slice A13 n14 c15] ∧ (decide ((6 : Int) < (↑n14 : Int)) = true → post false H2) ∧ (decide ((6 : Int) < (↑n14 : Int)) = false → rng .i64 (n4 + (1 : Int)) ∧ inv0 (n4
  + (1 : Int)) H2 ∧ m1 (n4 + (1 : Int)) < m1 n4))) ∧ (decide (n4 ≤ most) = false → post (decide ((↑lN : Int) ≤ most)) H2)) ∧ (decide (n4 < (↑lN : Int)) = false → post (decide ((↑lN : Int) ≤
  most)) H2)) := by kernel_rfl
theorem law0_FewTuples {H : Heap} {A : Option Addr} {n c most : Nat} {l : List Tup} (hs : Sl H A n c l) :
    ConT Try.prog 13 [.slice A n c, .int .i64 most] H shB (fun r _ => r = true → n ≤ most ∧ ∀ t ∈ l, t.lin.length ≤ 6) := by
  refine con_of_vc (an := an13) (fn := Try.f13) mix tabOK Try.func13 (by kernel_rfl) (extra := 0) ?_
  rw [vc13]
  have hl := hs.len; have hb := hs.bn
  refine ⟨fun i _ => 0 ≤ i ∧ i ≤ n ∧ i ≤ most + 1 ∧ ∀ t ∈ l.take i.toNat, t.lin.length ≤ 6, fun i => n - i.toNat, ⟨by omega, by omega, by omega, by simp⟩, ?_⟩
  rintro H2 hle i ⟨h0, h1, h1', h2⟩
  refine ⟨fun hlt => ⟨fun hm => ?_, fun hm h => ?_⟩, fun hge h => ?_⟩
  · have hlt := of_decide_eq_true hlt
    have hm := of_decide_eq_true hm
    obtain ⟨hi, hA, _, hc, ⟨A9, n9, c9, A14, n15, c16, rfl, q1, q2, q3, q4⟩⟩ := hs.at hle h0 hlt
    refine ⟨hA, h0, hlt, _, _, _, hc.at1 (k := 0) rfl, fun _ h => by simp at h, fun _ => ⟨hA, h0, hlt, _, _, _, hc.at1 (k := 3) rfl, fun _ h => by simp at h, fun h6 => ⟨by simp only [rng]; omega, ⟨by omega, by omega, by omega, ?_⟩, by dsimp only; omega⟩⟩⟩
    have h6 := of_decide_eq_false h6
    rw [show (i + 1).toNat = i.toNat + 1 by omega, List.take_succ_eq_append_getElem hi]
    intro t ht
    rcases List.mem_append.1 ht with ht | ht
    · exact h2 t ht
    · simp at ht; subst ht
      rw [q4.len]; omega
  · have hm := of_decide_eq_false hm; have h := of_decide_eq_true h; have hlt := of_decide_eq_true hlt
    omega
  · have hge := of_decide_eq_false hge; have h := of_decide_eq_true h
    rw [List.take_of_length_le (by omega)] at h2
    exact ⟨by omega, h2⟩
theorem few_tlins {l : List Tup} (h : ∀ t ∈ l, t.lin.length ≤ 6) : (tlins l).length ≤ 6 * l.length := by
  induction l with
  | nil => simp [tlins]
  | cons t l ih =>
    have := ih fun x hx => h x (by simp [hx])
    have h1 := h t (by simp)
    simp only [tlins, List.flatMap_cons, List.length_append, List.length_cons] at *
    omega
def extR (first : Int) (l : List Vio) (v : Vio) : List Vio := if first ≤ (l.length : Int) - 1 then extV l v else l ++ [v]
def an29 : Ann where
  res := fun _ => none
  lend := fun | 34 => true | _ => false
  sch := fun | 2 => (tk [0, 1, 2, 3, 4, 5, 10, 11] (.alt 6 (tk [7, 8] (.alt 9 (tk [12, 13, 14, 15, 16, 20] (.alt 17 (tk [18] (.alt 19 (.alt 21 (tk [22] .done) .fin) .fin)) .fin)) .fin)) .fin)) | _ => .done
  lt := fun _ => []
  tup := tups

theorem vc29 (P : Program) (H : Heap) (first : Int) (pFrom : Int) (pTo : Int) (idsA : Option Addr) (idsN idsC : Nat) (rowN : Nat) (rowXs : List Value) (ri0 : Nat) (post : Nat → List Value → Heap → Prop) :
  vcFnM P tab an29 Try.f29 [.slice none 0 0, .int .i64 first, .agg #[.int .i64 pFrom, .int .i64 pTo], .slice idsA idsN idsC] 0 44 rowN rowXs 0 H ⟨false, [(false, [.row ri0 44])]⟩ post =
  (  rng .i64 ((↑rowN : Int) - (1 : Int)) ∧ (decide (first ≤ (↑rowN : Int) - (1 : Int)) = true → (0 : Int) ≤ (↑rowN : Int) - (1 : Int) ∧ (↑rowN : Int) - (1 : Int) < (↑rowN : Int) ∧ ∃ (n1 : Int),
  win rowXs (Int.toNat ((↑rowN : Int) - (1 : Int)) * 3 + 0 + 1) 1 = [.int .i64 n1] ∧ (decide (n1 = pFrom) = true → (0 : Int) ≤ (↑rowN : Int) - (1 : Int) ∧ (↑rowN : Int) - (1 : Int) < (↑rowN :
  Int) ∧ ∃ (A3 : Option Addr), ∃ (n4 : Nat), ∃ (c5 : Nat), win rowXs (Int.toNat ((↑rowN : Int) - (1 : Int)) * 3 + 2) 1 = [.slice A3 n4 c5] ∧ ∃ (post6 : Bool → Heap → Prop), ConT P 30 [.slice
  A3 n4 c5, .slice idsA idsN idsC] H ⟨false, [(false, [.bool])]⟩ post6 ∧ ∀ (H7 : Heap), Heap.le H H7 → ∀ (b9 : Bool), post6 b9 H7 → (b9 = true → (0 : Int) ≤ (↑rowN : Int) - (1 : Int) ∧ (↑rowN
  : Int) - (1 : Int) < (↑rowN : Int) ∧ Int.toNat ((↑rowN : Int) - (1 : Int)) * 3 + 0 + 1 + 1 ≤ List.length rowXs ∧ post rowN (splice rowXs (Int.toNat ((↑rowN : Int) - (1 : Int)) * 3 + 0 + 1)
  [.int .i64 pTo]) H7) ∧ (b9 = false → (rowN + 1) * 40 ≤ 140737488355328 ∧ post (rowN + 1) (rowXs ++ [.int .i64 pFrom, .int .i64 pTo, .slice idsA idsN idsC]) H7)) ∧ (decide (n1 = pFrom) =
  false → (rowN + 1) * 40 ≤ 140737488355328 ∧ post (rowN + 1) (rowXs ++ [.int .i64 pFrom, .int .i64 pTo, .slice idsA idsN idsC]) H)) ∧ (decide (first ≤ (↑rowN : Int) - (1 : Int)) = false →
  (rowN + 1) * 40 ≤ 140737488355328 ∧ post (rowN + 1) (rowXs ++ [.int .i64 pFrom, .int .i64 pTo, .slice idsA idsN idsC]) H)) := by kernel_rfl
theorem ref21_extend {H : Heap} {n r : Nat} {xs : List Value} {l : List Vio} {v : Vio} {first : Int} {A : Option Addr} {m c : Nat} (hr : Row H xs l) (hl : l.length = n) (hf : 0 ≤ first) (hb : (n + 1) * 40 ≤ 140737488355328) (h1 : rng .i64 v.p.lo) (h2 : rng .i64 v.p.hi) (hs : Sl H A m c v.ids) :
    ConM Try.prog 29 [.slice none 0 0, .int .i64 first, .agg ⟨[.int .i64 v.p.lo, .int .i64 v.p.hi]⟩, .slice A m c] 0 44 n xs false H ⟨false, [(false, [.row r 44])]⟩
      (fun _ => fun k ys H' => k = (extR first l v).length ∧ Row H' ys (extR first l v)) := by
  refine conM_of_vc (an := an29) (fn := Try.f29) mix tabOK Try.func29 (by kernel_rfl) (extra := 0) (by simp) ?_
  rw [vc29]
  have happ : ∀ {H' : Heap}, Heap.le H H' → Row H' (xs ++ [.int .i64 v.p.lo, .int .i64 v.p.hi, .slice A m c]) (l ++ [v]) := fun hle => (hr.mono hle).append ⟨_, [], by simp, ⟨_, _, _, rfl, h1, h2, hs.mono hle⟩, rfl⟩
  have hlen := hr.length
  refine ⟨by simp only [rng]; omega, fun hn => ?_, fun hn => ?_⟩
  · have hn := of_decide_eq_true hn
    have hi : ((n : Int) - 1).toNat < l.length := by omega
    have hR : extR first l v = extV l v := if_pos (by rw [hl]; exact hn)
    obtain ⟨vs, ⟨A1, n1, c1, rfl, q1, q2, q3⟩, hg, hsp⟩ := hr.getf hi
    have hlast : l.getLast? = some l[((n : Int) - 1).toNat] := by
      rw [List.getLast?_eq_getElem?, List.getElem?_eq_getElem (by omega)]
      congr 2; omega
    have hw1 := hg 1 1 (by decide)
    have hw2 := hg 2 1 (by decide)
    rw [hR]
    refine ⟨by omega, by omega, _, hw1, fun he => ⟨by omega, by omega, _, _, _, hw2, _, ref1_SameInts q3 hs, ?_⟩, fun he => ⟨by omega, ?_⟩⟩
    · have he := of_decide_eq_true he
      rintro H3 l3 _ rfl
      refine ⟨fun hq => ?_, fun hq => ⟨by omega, ?_⟩⟩
      · have hq := of_decide_eq_true hq
        have hext : extV l v = l.set ((n : Int) - 1).toNat ⟨⟨l[((n : Int) - 1).toNat].p.lo, v.p.hi⟩, l[((n : Int) - 1).toNat].ids⟩ := by
          unfold extV
          rw [hlast]
          simp only
          rw [if_pos ⟨he, hq⟩, ← set_last (by omega), show l.length - 1 = ((n : Int) - 1).toNat by omega]
        refine ⟨by omega, by omega, ?_, ?_⟩
        · rw [hlen]
          show _ ≤ l.length * 3
          omega
        · rw [hext]
          refine ⟨by simp [hl], ?_⟩
          exact (hsp 1 [.int .i64 v.p.hi] ⟨⟨l[((n : Int) - 1).toNat].p.lo, v.p.hi⟩, l[((n : Int) - 1).toNat].ids⟩ (by show 1 + 1 ≤ 3; omega) ⟨A1, n1, c1, rfl, q1, h2, q3⟩).mono l3
      · have hq := of_decide_eq_false hq
        have hext : extV l v = l ++ [v] := by
          unfold extV
          rw [hlast]
          simp only
          rw [if_neg (fun h => hq h.2)]
        rw [hext]
        exact ⟨by simp [hl], happ l3⟩
    · have he := of_decide_eq_false he
      have hext : extV l v = l ++ [v] := by
        unfold extV
        rw [hlast]
        simp only
        rw [if_neg (fun h => he h.1)]
      rw [hext]
      exact ⟨by simp [hl], happ (hle_refl H)⟩
  · have hn := of_decide_eq_false hn
    have hR : extR first l v = l ++ [v] := if_neg (by rw [hl]; exact hn)
    rw [hR]
    exact ⟨by omega, by simp [hl], happ (hle_refl H)⟩
theorem extR_at (l w : List Vio) (v : Vio) : extR (l.length : Int) (l ++ w) v = l ++ extV w v := by
  unfold extR
  rcases List.eq_nil_or_concat w with rfl | ⟨w', u, rfl⟩
  · rw [if_neg (by simp; omega)]
    simp [extV]
  · rw [if_pos (by simp; omega)]
    have h1 : (l ++ w'.concat u).getLast? = some u := by simp
    have h2 : (w'.concat u).getLast? = some u := by simp
    unfold extV
    rw [h1, h2]
    simp only
    split
    · rw [List.concat_eq_append, ← List.append_assoc, List.dropLast_concat, List.dropLast_concat, List.append_assoc]
    · simp
/- one key's violations, as the reference says it -/
def sweepT (S : List Tup) : List Int → List Vio → List Vio
  | f :: t :: ps, out => sweepT S (t :: ps) (if 2 ≤ (S.filter (inT f)).length then extV out ⟨⟨f, t⟩, canon (tlins (S.filter (inT f)))⟩ else out)
  | _, out => out
theorem sweepT_len (S : List Tup) : ∀ (ps : List Int) (out : List Vio), (sweepT S ps out).length ≤ out.length + ps.length
  | [], out => by simp [sweepT]
  | [x], out => by simp [sweepT]
  | f :: t :: ps, out => by
    rw [sweepT]
    have h := sweepT_len S (t :: ps) (if 2 ≤ (S.filter (inT f)).length then extV out ⟨⟨f, t⟩, canon (tlins (S.filter (inT f)))⟩ else out)
    have h2 : (if 2 ≤ (S.filter (inT f)).length then extV out ⟨⟨f, t⟩, canon (tlins (S.filter (inT f)))⟩ else out).length ≤ out.length + 1 := by
      split
      · exact extV_len _ _
      · omega
    simp only [List.length_cons] at h ⊢
    omega
def keyV (l : List Tup) (cols : List Int) (v : List Val) : List Vio := sweepT (withK l cols v) (canon (tends (withK l cols v))) []
theorem keyV_len (l : List Tup) (cols : List Int) (v : List Val) : (keyV l cols v).length ≤ 2 * l.length := by
  have h1 := sweepT_len (withK l cols v) (canon (tends (withK l cols v))) []
  have h2 := canon_len (tends (withK l cols v))
  have h3 := tends_len (withK l cols v)
  have h4 := withK_len l cols v
  unfold keyV
  simp only [List.length_nil] at h1
  omega
def an14 : Ann where
  res := fun | 66 => some ⟨false, [(false, [.row 68 44])]⟩ | _ => none
  lend := fun _ => false
  mt := fun | 29 => some false | _ => none
  sch := fun | 14 => (tk [0, 1, 2, 3, 4, 5, 6, 7, 8, 9, 10, 11, 12] (.alt 13 (tk [14] .done) .fin)) | _ => .done
  lt := fun | 4 => [.slot 5 false [.row 69 44], .slot 7 false [.int .i64]] | 10 => [.slot 5 false [.row 70 44], .slot 11 false [.int .i64]] | _ => []
  tup := tups

theorem vc14 (P : Program) (H : Heap) (lA : Option Addr) (lN lC : Nat) (p1A : Option Addr) (p1N p1C : Nat) (post : Option Addr → Nat → Nat → Heap → Prop) :
  vcFn P tab an14 Try.f14 [.slice lA lN lC, .slice p1A p1N p1C] 3 H ⟨false, [(false, [.sl])]⟩ post =
  (  ∃ (post0 : Option Addr → Nat → Nat → Heap → Prop), ConT P 25 [.slice lA lN lC, .slice p1A p1N p1C] H ⟨false, [(false, [.sl])]⟩ post0 ∧ ∀ (H1 : Heap), Heap.le H H1 → ∀ (A3 : Option Addr) (n4
  c5 : Nat), post0 A3 n4 c5 H1 → ∃ (inv7 : Nat → List Value → Int → Heap → Prop), ∃ (m8 : Nat → List Value → Int → Nat), inv7 0 [] (0 : Int) H1 ∧ ∀ (H9 : Heap), Heap.le H1 H9 → ∀ (n11 : Nat)
  (xs12 : List Value) (n13 : Int), inv7 n11 xs12 n13 H9 → (decide (n13 < (↑n4 : Int)) = true → someA A3 ∧ (0 : Int) ≤ n13 ∧ n13 < (↑n4 : Int) ∧ ∃ (A16 : Option Addr), ∃ (n17 : Nat), ∃ (c18 :
  Nat), Cells H9 A3 (Int.toNat n13 * 2 + 0) [.slice A16 n17 c18] ∧ ∃ (post19 : Option Addr → Nat → Nat → Heap → Prop), ConT P 26 [.slice lA lN lC, .slice p1A p1N p1C, .slice A16 n17 c18] H9
  ⟨false, [(false, [.sl])]⟩ post19 ∧ ∀ (H20 : Heap), Heap.le H9 H20 → ∀ (A22 : Option Addr) (n23 c24 : Nat), post19 A22 n23 c24 H20 → ∃ (post26 : Option Addr → Nat → Nat → Heap → Prop), ConT
  P 27 [.slice A22 n23 c24] H20 ⟨false, [(false, [.sl])]⟩ post26 ∧ ∀ (H27 : Heap), Heap.le H20 H27 → ∀ (A29 : Option Addr) (n30 c31 : Nat), post26 A29 n30 c31 H27 → ∃ (inv33 : Nat → List
  Value → Int → Heap → Prop), ∃ (m34 : Nat → List Value → Int → Nat), inv33 n11 xs12 (0 : Int) H27 ∧ ∀ (H35 : Heap), Heap.le H27 H35 → ∀ (n37 : Nat) (xs38 : List Value) (n39 : Int), inv33 n37
  xs38 n39 H35 → rng .i64 (n39 + (1 : Int)) ∧ (decide (n39 + (1 : Int) < (↑n30 : Int)) = true → someA A29 ∧ (0 : Int) ≤ n39 ∧ n39 < (↑n30 : Int) ∧ ∃ (n42 : Int), Cells H35 A29 (Int.toNat n39
  * 1) [.int .i64 n42] ∧ ∃ (post43 : Int → Option Addr → Nat → Nat → Heap → Prop), ConT P 28 [.slice A22 n23 c24, .int .i64 n42] H35 ⟨true, [(false, [.int .i64]), (false, [.sl])]⟩ post43 ∧ ∀
  (H44 : Heap), Heap.le H35 H44 → ∀ (n46 : Int) (A47 : Option Addr) (n48 c49 : Nat), post43 n46 A47 n48 c49 H44 → (decide ((2 : Int) ≤ n46) = true → someA A29 ∧ (0 : Int) ≤ n39 ∧ n39 < (↑n30
  : Int) ∧ ∃ (n52 : Int), Cells H44 A29 (Int.toNat n39 * 1) [.int .i64 n52] ∧ rng .i64 (n39 + (1 : Int)) ∧ someA A29 ∧ (0 : Int) ≤ n39 + (1 : Int) ∧ n39 + (1 : Int) < (↑n30 : Int) ∧ ∃ (n53 :
  Int), Cells H44 A29 (Int.toNat (n39 + (1 : Int)) * 1) [.int .i64 n53] ∧ ∃ (post54 : List Value → Nat → List Value → Heap → Prop), ConM P 29 [.slice none 0 0, .int .i64 (↑n11 : Int), .agg
  ⟨[.int .i64 n52, .int .i64 n53]⟩, .slice A47 n48 c49] 0 44 n37 xs38 false H44 ⟨false, [(false, [.row 68 44])]⟩ post54 ∧ ∀ (H55 : Heap), Heap.le H44 H55 → ∀ (ys57 : List Value) (n58 : Nat)
  (xs59 : List Value), post54 ys57 n58 xs59 H55 → rng .i64 (n39 + (1 : Int)) ∧ inv33 n58 xs59 (n39 + (1 : Int)) H55 ∧ m34 n58 xs59 (n39 + (1 : Int)) < m34 n37 xs38 n39) ∧ (decide ((2 : Int) ≤
  n46) = false → rng .i64 (n39 + (1 : Int)) ∧ inv33 n37 xs38 (n39 + (1 : Int)) H44 ∧ m34 n37 xs38 (n39 + (1 : Int)) < m34 n37 xs38 n39)) ∧ (decide (n39 + (1 : Int) < (↑n30 : Int)) = false →
  rng .i64 (n13 + (1 : Int)) ∧ inv7 n37 xs38 (n13 + (1 : Int)) H35 ∧ m8 n37 xs38 (n13 + (1 : Int)) < m8 n11 xs12 n13)) ∧ (decide (n13 < (↑n4 : Int)) = false → ∀ (A64 : Option Addr) (c65 :
  Nat) (H66 : Heap), Heap.le H9 H66 → Cells H66 A64 0 xs12 → n11 ≤ c65 → post A64 n11 c65 H66)) := by kernel_rfl
set_option maxHeartbeats 1000000 in
theorem ref21_KeyViolations {H : Heap} {A B : Option Addr} {n c m d : Nat} {l : List Tup} {cols : List Int} (hs : Sl H A n c l) (ht : Sl H B m d cols) (hb : m * 32 ≤ 140737488355328) (hn : n ≤ 1000) (hlin : (tlins l).length * 8 ≤ 140737488355328) :
    ConT Try.prog 14 [.slice A n c, .slice B m d] H shS (fun A' n' c' H' => ∃ vs : List (List Val), ascV vs ∧ (∀ v, v ∈ vs ↔ ∃ k ∈ byKeyL l cols, k.key = v) ∧ Sl H' A' n' c' (vs.flatMap (keyV l cols))) := by
  refine con_of_vc (an := an14) (fn := Try.f14) mix tabOK Try.func14 (by kernel_rfl) (extra := 3) ?_
  rw [vc14]
  have hl := hs.len
  refine ⟨_, ref21_keysOf hs ht hb (by omega), ?_⟩
  rintro H1 l1 A3 n4 c5 ⟨rs, hrs, hn4, hasc, hmem⟩
  have hrl := hrs.len
  generalize hvs : rs.map (·.vals) = vs at hasc hmem
  have hvl : vs.length = n4 := by rw [← hvs, List.length_map, hrl]
  have hvat : ∀ i (h : i < rs.length) (h' : i < vs.length), vs[i] = rs[i].vals := by intro i h h'; subst hvs; simp
  refine ⟨fun k xs i H' => 0 ≤ i ∧ i ≤ n4 ∧ Row H' xs ((vs.take i.toNat).flatMap (keyV l cols)) ∧ k = ((vs.take i.toNat).flatMap (keyV l cols)).length ∧ k ≤ i.toNat * 2000, fun _ _ i => n4 - i.toNat, ⟨by omega, by omega, rfl, rfl, by omega⟩, ?_⟩
  rintro H9 l9 k xs i ⟨i0, i1, hr, hk, hkb⟩
  refine ⟨fun hlt => ?_, fun hge => ?_⟩
  · have hlt := of_decide_eq_true hlt
    obtain ⟨hi, hA, _, hc, ⟨A9, n9, c9, B9, m9, d9, rfl, q1, q2⟩⟩ := hrs.at l9 i0 hlt
    have hi' : i.toNat < vs.length := by omega
    rw [← hvat _ hi hi'] at q1
    have e1 : (i + 1).toNat = i.toNat + 1 := by omega
    have hsu : (vs.take (i + 1).toNat).flatMap (keyV l cols) = (vs.take i.toNat).flatMap (keyV l cols) ++ keyV l cols vs[i.toNat] := by
      rw [e1, List.take_succ_eq_append_getElem hi', List.flatMap_append]; simp
    have hFl := keyV_len l cols vs[i.toNat]
    generalize vs[i.toNat] = v at q1 hsu hFl
    have l19 := hle_trans l1 l9
    refine ⟨hA, i0, hlt, _, _, _, hc.at1 (k := 0) rfl, _, ref21_withKey (hs.mono l19) (ht.mono l19) q1 hb, ?_⟩
    intro H20 l20 A22 n23 c24 hw
    refine ⟨_, ref9_Boundaries hw, ?_⟩
    intro H27 l27 A29 n30 c31 hp
    have hF : keyV l cols v = sweepT (withK l cols v) (canon (tends (withK l cols v))) [] := rfl
    have hpl := hp.len; have hpb := hp.bn
    have hpn : n30 ≤ 2 * n := by
      have h2 := canon_len (tends (withK l cols v)); have h3 := tends_len (withK l cols v); have h4 := withK_len l cols v
      omega
    have hwl : (tlins (withK l cols v)).length * 8 ≤ 140737488355328 := by
      have := tlins_sub (List.filter_sublist (l := l) (p := fun t => pOk t.p && decide (cmpVs (keyVals t.vals cols) v = 0)))
      have e : (l.filter fun t => pOk t.p && decide (cmpVs (keyVals t.vals cols) v = 0)) = withK l cols v := rfl
      rw [e] at this
      omega
    generalize hS : withK l cols v = S at hw hwl hF hp hpl
    generalize hP : canon (tends S) = ps at hp hF hpl
    generalize hO : (vs.take i.toNat).flatMap (keyV l cols) = O0 at hr hk hsu
    subst hk
    refine ⟨fun k2 xs2 j H' => 0 ≤ j ∧ (j ≤ n30 ∨ n30 = 0 ∧ j = 0) ∧ ∃ w : List Vio, Row H' xs2 (O0 ++ w) ∧ k2 = (O0 ++ w).length ∧ w.length ≤ j.toNat ∧ keyV l cols v = sweepT S (ps.drop j.toNat) w, fun _ _ j => n30 - j.toNat,
      ⟨by omega, by omega, [], by simpa using (hr.mono (hle_trans l20 l27)), by simp, by simp, by simpa using hF⟩, ?_⟩
    rintro H35 l35 k2 xs2 j ⟨j0, j1, w, hw2, rfl, hwj, he⟩
    have hjr : rng .i64 (j + 1) := by simp only [rng]; omega
    refine ⟨hjr, fun hlj => ?_, fun hgj => ?_⟩
    · have hlj := of_decide_eq_true hlj
      have hj : j.toNat < ps.length := by omega
      have hj1 : j.toNat + 1 < ps.length := by omega
      obtain ⟨_, hB, _, hd, ⟨rfl, r1⟩⟩ := hp.at l35 j0 (by omega)
      obtain ⟨_, hB1, _, hd1, ⟨rfl, r2⟩⟩ := hp.at l35 (i := j + 1) (by omega) hlj
      have e2 : (j + 1).toNat = j.toNat + 1 := by omega
      simp only [e2] at hd1 r2
      have hdr : ps.drop j.toNat = ps[j.toNat] :: ps[j.toNat + 1] :: ps.drop (j.toNat + 1 + 1) := by
        rw [List.drop_eq_getElem_cons hj, List.drop_eq_getElem_cons hj1]
      have hdr1 : ps.drop (j.toNat + 1) = ps[j.toNat + 1] :: ps.drop (j.toNat + 1 + 1) := List.drop_eq_getElem_cons hj1
      generalize hf : ps[j.toNat] = f at *
      generalize ht' : ps[j.toNat + 1] = t at *
      rw [hdr, sweepT] at he
      have l2735 := hle_trans l27 l35
      refine ⟨hB, j0, by omega, _, hd, _, ref21_holding (hw.mono l2735) hwl, ?_⟩
      rintro H44 l44 n46 A47 n48 c49 ⟨rfl, hids⟩
      refine ⟨fun h2 => ?_, fun h2 => ?_⟩
      · have h2 := of_decide_eq_true h2
        rw [if_pos (by omega)] at he
        have hext := ref21_extend (r := 68) (v := ⟨⟨f, t⟩, canon (tlins (S.filter (inT f)))⟩) (first := (O0.length : Int)) (hw2.mono l44) rfl (by omega) (by simp only [List.length_append]; omega) r1 r2 hids
        rw [extR_at] at hext
        refine ⟨hB, j0, by omega, _, hd.mono l44, hjr, hB1, by omega, hlj, _, by rw [e2]; exact hd1.mono l44, _, hext, ?_⟩
        rintro H55 l55 ys57 n58 xs59 ⟨rfl, hx⟩
        have hxl := extV_len w ⟨⟨f, t⟩, canon (tlins (S.filter (inT f)))⟩
        exact ⟨hjr, ⟨by omega, by omega, _, hx, rfl, by omega, by rw [e2, hdr1]; exact he⟩, by dsimp only; omega⟩
      · have h2 := of_decide_eq_false h2
        rw [if_neg (by omega)] at he
        exact ⟨hjr, ⟨by omega, by omega, w, hw2.mono l44, rfl, by omega, by rw [e2, hdr1]; exact he⟩, by dsimp only; omega⟩
    · have hgj := of_decide_eq_false hgj
      have hend : keyV l cols v = w := by
        rw [he]
        have : (ps.drop j.toNat).length ≤ 1 := by rw [List.length_drop]; omega
        match ps.drop j.toNat, this with
        | [], _ => rfl
        | [x], _ => rfl
      rw [hend] at hsu hFl
      refine ⟨by simp only [rng]; omega, ⟨by omega, by omega, by rw [hsu]; exact hw2, by rw [hsu], by simp only [List.length_append]; omega⟩, by dsimp only; omega⟩
  · have hge := of_decide_eq_false hge
    have hall : vs.take i.toNat = vs := List.take_of_length_le (by omega)
    rw [hall] at hr hk
    intro A2 c2 H2 l2 hc2 hn2
    exact ⟨vs, hasc, hmem, hr.sl l2 hc2 hk.symm hn2 (by show k * 40 ≤ _; omega) (by omega)⟩
end Go.Vc
/- Plain law: the program's violations are the reference's. -/
namespace Go.Vc
open Go
theorem inT_at {x : Kd} (h : pOk x.t.p = true) (f : Int) : inT f x.t = atD f x := by
  have := pOk_iff.1 h
  rw [Bool.eq_iff_iff, inT, pIn_iff]
  simp only [atD, Bool.and_eq_true, decide_eq_true_eq]; omega
theorem at_perm {A : List Kd} {S : List Tup} (hv : ∀ x ∈ A, pOk x.t.p = true) (hp : (A.map (·.t)).Perm S) (f : Int) : ((A.filter (atD f)).map (·.t)).Perm (S.filter (inT f)) := by
  refine List.Perm.trans (List.Perm.of_eq ?_) (hp.filter (inT f))
  rw [List.filter_map]
  congr 1
  exact List.filter_congr fun x hx => (inT_at (hv x hx) f).symm
theorem lins_map (A : List Kd) : lins A = tlins (A.map (·.t)) := by simp [lins, tlins, List.flatMap_map]
theorem merged_at {A : List Kd} {S : List Tup} (hv : ∀ x ∈ A, pOk x.t.p = true) (hp : (A.map (·.t)).Perm S) (f : Int) : mergedL (A.filter (atD f)) = canon (tlins (S.filter (inT f))) := by
  unfold mergedL mergeLin
  rw [List.append_nil, lins_map]
  exact canon_eq fun y => ((at_perm hv hp f).flatMap_right _).mem_iff
theorem points_at {A : List Kd} {S : List Tup} (hv : ∀ x ∈ A, pOk x.t.p = true) (hp : (A.map (·.t)).Perm S) : points A = canon (tends S) := by
  refine canon_eq fun y => ?_
  rw [ends, tends, List.mem_flatMap, List.mem_flatMap]
  constructor
  · rintro ⟨x, hx, hy⟩
    exact ⟨x.t, List.mem_filter.2 ⟨hp.mem_iff.1 (List.mem_map.2 ⟨x, hx, rfl⟩), hv x hx⟩, hy⟩
  · rintro ⟨t, ht, hy⟩
    obtain ⟨x, hx, rfl⟩ := List.mem_map.1 (hp.mem_iff.2 (List.mem_filter.1 ht).1)
    exact ⟨x, hx, hy⟩
theorem sweep_same {A : List Kd} {S : List Tup} (hv : ∀ x ∈ A, pOk x.t.p = true) (hp : (A.map (·.t)).Perm S) : ∀ (ps : List Int) (out : List Vio), sweepG A ps out = sweepT S ps out
  | [], out => rfl
  | [x], out => rfl
  | f :: t :: ps, out => by
    have h := (at_perm hv hp f).length_eq
    rw [List.length_map] at h
    rw [sweepG, sweepT, sweep_same hv hp (t :: ps), h, merged_at hv hp f]
theorem sweep_few {A : List Kd} (h : ¬ 2 ≤ A.length) : ∀ (ps : List Int) (out : List Vio), sweepG A ps out = out
  | [], out => rfl
  | [x], out => rfl
  | f :: t :: ps, out => by
    have := List.length_filter_le (atD f) A
    rw [sweepG, if_neg (by omega), sweep_few h (t :: ps)]
theorem filter_all {T : Type} {p : T → Bool} {l : List T} (h : ∀ x ∈ l, p x = true) : l.filter p = l := List.filter_eq_self.2 h
theorem filter_none {T : Type} {p : T → Bool} {l : List T} (h : ∀ x ∈ l, p x = false) : l.filter p = [] := List.filter_eq_nil_iff.2 fun x hx => by rw [h x hx]; simp
def atK (v : List Val) (x : Kd) : Bool := decide (x.key = v)
/- group by group -/
theorem viol_keys {F : List Val → List Vio} {g : List Kd} (hs : sortedK g) : (∀ x ∈ g, x.t.p.lo < x.t.p.hi) → ∀ vs : List (List Val), ascV vs → (∀ v, v ∈ vs ↔ ∃ k ∈ g, k.key = v) →
    (∀ v ∈ vs, F v = sweepG (g.filter (atK v)) (points (g.filter (atK v))) []) → violL g = vs.flatMap F := by
  refine viol_ind (p := fun g => (∀ x ∈ g, x.t.p.lo < x.t.p.hi) → ∀ vs : List (List Val), ascV vs → (∀ v, v ∈ vs ↔ ∃ k ∈ g, k.key = v) →
    (∀ v ∈ vs, F v = sweepG (g.filter (atK v)) (points (g.filter (atK v))) []) → violL g = vs.flatMap F) ?_ ?_ g hs
  · intro _ vs _ hm _
    have : vs = [] := List.eq_nil_iff_forall_not_mem.2 fun v hv => by obtain ⟨k, hk, _⟩ := (hm v).1 hv; cases hk
    subst this; rfl
  · intro k r hs hg ih hv vs ha hm hF
    have hk : k.key ∈ vs := (hm _).2 ⟨k, by simp, rfl⟩
    cases vs with
    | nil => cases hk
    | cons v0 vs' =>
      obtain ⟨a1, a2⟩ := List.pairwise_cons.1 ha
      -- the first key
      have hv0 : v0 = k.key := by
        rcases List.mem_cons.1 hk with h | h
        · exact h.symm
        · have h1 := a1 _ h
          obtain ⟨x, hx, hxk⟩ := (hm v0).1 (by simp)
          rw [hg.eq] at hx
          rcases List.mem_append.1 hx with hx | hx
          · rw [← hxk]; exact hg.same x hx
          · have h2 := hg.rest x hx
            rw [hxk] at h2
            have := cmpVs_ord.anti v0 k.key
            omega
      subst hv0
      have hne : ∀ x ∈ r.dropWhile (sameK k), x.key ≠ k.key := fun x hx e => by
        have := hg.rest x hx
        rw [e, cmpVs_ord.refl] at this
        exact absurd this (by decide)
      have hA : (k :: r).filter (atK k.key) = k :: r.takeWhile (sameK k) := by
        rw [hg.eq, List.filter_append, filter_all (fun x hx => by simp only [atK, decide_eq_true_eq]; exact hg.same x hx), filter_none (fun x hx => by simp only [atK, decide_eq_false_iff_not]; exact hne x hx), List.append_nil]
      have hva : ∀ x ∈ k :: r.takeWhile (sameK k), x.t.p.lo < x.t.p.hi := fun x hx => hv x (by rw [hg.eq]; exact List.mem_append_left _ hx)
      have hvb : ∀ x ∈ r.dropWhile (sameK k), x.t.p.lo < x.t.p.hi := fun x hx => hv x (by rw [hg.eq]; exact List.mem_append_right _ hx)
      have h1 : F k.key = if 2 ≤ (k :: r.takeWhile (sameK k)).length then confl (k :: r.takeWhile (sameK k)) else [] := by
        rw [hF _ (by simp), hA]
        split
        · rw [confl_sweep hg.asc hva]
        · rename_i h; exact sweep_few h _ _
      have hm' : ∀ v, v ∈ vs' ↔ ∃ x ∈ r.dropWhile (sameK k), x.key = v := by
        intro v
        constructor
        · intro hv'
          obtain ⟨x, hx, hxv⟩ := (hm v).1 (by simp [hv'])
          rw [hg.eq] at hx
          rcases List.mem_append.1 hx with hx | hx
          · have := a1 v hv'
            rw [← hxv, hg.same x hx, cmpVs_ord.refl] at this
            exact absurd this (by decide)
          · exact ⟨x, hx, hxv⟩
        · rintro ⟨x, hx, rfl⟩
          have : x.key ∈ k.key :: vs' := (hm _).2 ⟨x, by rw [hg.eq]; exact List.mem_append_right _ hx, rfl⟩
          rcases List.mem_cons.1 this with h | h
          · exact absurd h (hne x hx)
          · exact h
      have hF' : ∀ v ∈ vs', F v = sweepG ((r.dropWhile (sameK k)).filter (atK v)) (points ((r.dropWhile (sameK k)).filter (atK v))) [] := by
        intro v hv'
        have hnv : k.key ≠ v := fun e => by
          have := a1 v hv'
          rw [e, cmpVs_ord.refl] at this
          exact absurd this (by decide)
        rw [hF v (by simp [hv']), hg.eq, List.filter_append, filter_none (l := k :: r.takeWhile (sameK k)) (fun x hx => by simp only [atK, decide_eq_false_iff_not]; rw [hg.same x hx]; exact hnv), List.nil_append]
      rw [violL_cons, List.flatMap_cons, ih hvb vs' a2 hm' hF', h1]
theorem byKey_at (l : List Tup) (cols : List Int) (v : List Val) : ((byKeyL l cols).filter (atK v)).map (·.t) = withK l cols v := by
  induction l with
  | nil => rfl
  | cons t l ih =>
    simp only [byKeyL, withK, List.filter_cons] at ih ⊢
    by_cases hp : pOk t.p = true
    · rw [if_pos hp, List.map_cons, List.filter_cons]
      by_cases hk : keyVals t.vals cols = v
      · rw [if_pos (by simpa [atK] using hk), List.map_cons, ih, if_pos (by rw [hp, hk, cmpVs_ord.refl]; rfl)]
      · rw [if_neg (by simpa [atK] using hk), ih, if_neg (by rw [Bool.and_eq_true, decide_eq_true_eq, cmpVs_zero]; exact fun h => hk h.2)]
    · rw [if_neg hp, ih, if_neg (by rw [Bool.and_eq_true]; exact fun h => hp h.1)]
theorem viol_ref {l : List Tup} {cols : List Int} {g : List Kd} {vs : List (List Val)} (hp : g.Perm (byKeyL l cols)) (hs : sortedK g) (ha : ascV vs) (hm : ∀ v, v ∈ vs ↔ ∃ k ∈ byKeyL l cols, k.key = v) : violL g = vs.flatMap (keyV l cols) := by
  have hok : ∀ x ∈ g, pOk x.t.p = true := fun x hx => by
    have := hp.mem_iff.1 hx
    simp only [byKeyL, List.mem_map, List.mem_filter] at this
    obtain ⟨t, ⟨-, h⟩, rfl⟩ := this
    exact h
  refine viol_keys hs (fun x hx => (pOk_iff.1 (hok x hx)).2.1) vs ha (fun v => ?_) fun v _ => ?_
  · rw [hm]
    constructor
    · rintro ⟨k, h1, h2⟩; exact ⟨k, hp.mem_iff.2 h1, h2⟩
    · rintro ⟨k, h1, h2⟩; exact ⟨k, hp.mem_iff.1 h1, h2⟩
  · have hv : ∀ x ∈ g.filter (atK v), pOk x.t.p = true := fun x hx => hok x (List.mem_filter.1 hx).1
    have hpp : ((g.filter (atK v)).map (·.t)).Perm (withK l cols v) := by
      rw [← byKey_at]
      exact (hp.filter _).map _
    rw [keyV, sweep_same hv hpp, points_at hv hpp]
/- any two sorted orders give the same violations -/
theorem viol_same {l : List Tup} {cols : List Int} {g g' : List Kd} {vs : List (List Val)} (hp : g.Perm (byKeyL l cols)) (hs : sortedK g) (hp' : g'.Perm (byKeyL l cols)) (hs' : sortedK g') (ha : ascV vs) (hm : ∀ v, v ∈ vs ↔ ∃ k ∈ byKeyL l cols, k.key = v) : violL g = violL g' := by
  rw [viol_ref hp hs ha hm, viol_ref hp' hs' ha hm]
end Go.Vc
/- Gaps: plain law. -/
namespace Go.Vc
open Go
def covT (l : List Tup) (cols : List Int) (key : List Val) : List Tup := l.filter fun t => decide (cmpVs (keyVals t.vals cols) key = 0)
def covL (l : List Tup) (cols : List Int) (key : List Val) : List Per := norm ((covT l cols key).map (·.p))
theorem covT_succ {l : List Tup} {cols : List Int} {key : List Val} {i : Nat} (hi : i < l.length) : covT (l.take (i + 1)) cols key = covT (l.take i) cols key ++ (if decide (cmpVs (keyVals l[i].vals cols) key = 0) then [l[i]] else []) := by
  rw [covT, List.take_succ_eq_append_getElem hi, List.filter_append]
  congr 1
  rw [List.filter_cons]; rfl
theorem cov_withK (l : List Tup) (cols : List Int) (key : List Val) : norm ((withK l cols key).map (·.p)) = covL l cols key := by
  refine norm_congr fun t => ?_
  unfold withK covT
  induction l with
  | nil => rfl
  | cons x r ih =>
    rw [List.filter_cons, List.filter_cons]
    by_cases h1 : cmpVs (keyVals x.vals cols) key = 0
    · by_cases h2 : pOk x.p = true
      · simp only [h1, h2, decide_true, Bool.and_self, if_true, List.map_cons, inSet_cons, ih]
      · have h2 : pOk x.p = false := by simpa using h2
        have h3 : pIn x.p t = false := by simp [pIn, h2]
        simp only [h1, h2, decide_true, Bool.false_and, if_true, List.map_cons, inSet_cons, ← ih, h3, Bool.false_or, Bool.false_eq_true, if_false]
    · simp only [h1, decide_false, Bool.and_false]
      exact ih
def touch (g : Per) (t : Tup) : Bool := decide (t.p.hi = g.lo) || decide (t.p.lo = g.hi)
def gapV (own : List Tup) (g : Per) : Vio := ⟨g, canon (tlins (own.filter (touch g)))⟩
def gapsGo (own : List Tup) : List Per → List Vio
  | a :: b :: r => gapV own ⟨a.hi, b.lo⟩ :: gapsGo own (b :: r)
  | _ => []
theorem gapsGo_len (own : List Tup) : ∀ s : List Per, (gapsGo own s).length ≤ s.length
  | [] => Nat.le_refl _
  | [_] => Nat.zero_le _
  | _ :: b :: r => by
    have := gapsGo_len own (b :: r)
    simp only [gapsGo, List.length_cons] at this ⊢; omega
def gapsK (l : List Tup) (cols : List Int) (v : List Val) : List Vio := gapsGo (withK l cols v) (covL l cols v)
theorem covL_len (l : List Tup) (cols : List Int) (v : List Val) : (covL l cols v).length ≤ l.length := by
  have h1 := norm_length ((covT l cols v).map (·.p))
  have h2 : (covT l cols v).length ≤ l.length := List.length_filter_le _ _
  rw [List.length_map] at h1
  exact Nat.le_trans h1 h2
theorem gapsK_len (l : List Tup) (cols : List Int) (v : List Val) : (gapsK l cols v).length ≤ l.length := Nat.le_trans (gapsGo_len _ _) (covL_len l cols v)
theorem gapsFlat_len (l : List Tup) (cols : List Int) : ∀ vs : List (List Val), (vs.flatMap (gapsK l cols)).length ≤ vs.length * l.length
  | [] => by simp
  | v :: vs => by
    have h1 := gapsK_len l cols v; have h2 := gapsFlat_len l cols vs
    simp only [List.flatMap_cons, List.length_append, List.length_cons, Nat.succ_mul]; omega
theorem gaps_at {own : List Tup} {s : List Per} {k : Nat} (h0 : 1 ≤ k) (h : k < s.length) : gapsGo own (s.drop (k - 1)) = gapV own ⟨(s[k - 1]'(by omega)).hi, s[k].lo⟩ :: gapsGo own (s.drop k) := by
  have e : s.drop (k - 1) = (s[k - 1]'(by omega)) :: s.drop k := by
    have := List.drop_eq_getElem_cons (l := s) (i := k - 1) (by omega)
    rwa [show k - 1 + 1 = k from by omega] at this
  rw [e, List.drop_eq_getElem_cons h, gapsGo]
theorem gaps_end {own : List Tup} {s : List Per} {k : Nat} (h : s.length ≤ k) (h0 : 1 ≤ k) : gapsGo own (s.drop (k - 1)) = [] := by
  rcases hd : s.drop (k - 1) with _ | ⟨a, _ | ⟨b, r⟩⟩
  · rfl
  · rfl
  · have := congrArg List.length hd
    simp only [List.length_drop, List.length_cons] at this; omega
theorem gaps_few {own : List Tup} {s : List Per} (h : s.length < 2) : gapsGo own s = [] := by
  rcases s with _ | ⟨a, _ | ⟨b, r⟩⟩
  · rfl
  · rfl
  · simp only [List.length_cons] at h; omega
theorem gaps_none {own : List Tup} {s : List Per} (h : gapsGo own s = []) : s.length < 2 := by
  rcases s with _ | ⟨a, _ | ⟨b, r⟩⟩
  · simp
  · simp
  · simp [gapsGo] at h
/- lists of keys in ascending order are alike when their members are -/
theorem ascV_unique : ∀ {vs us : List (List Val)}, ascV vs → ascV us → (∀ v, v ∈ vs ↔ v ∈ us) → vs = us
  | [], [], _, _, _ => rfl
  | [], u :: us, _, _, h => absurd ((h u).2 (by simp)) (by simp)
  | v :: vs, [], _, _, h => absurd ((h v).1 (by simp)) (by simp)
  | v :: vs, u :: us, hv, hu, h => by
    obtain ⟨v1, v2⟩ := List.pairwise_cons.1 hv
    obtain ⟨u1, u2⟩ := List.pairwise_cons.1 hu
    have e : v = u := by
      rcases List.mem_cons.1 ((h v).1 (by simp)) with h1 | h1
      · exact h1
      · rcases List.mem_cons.1 ((h u).2 (by simp)) with h2 | h2
        · exact h2.symm
        · have a := v1 _ h2; have b := u1 _ h1
          have := cmpVs_ord.anti v u
          omega
    subst e
    congr 1
    refine ascV_unique v2 u2 fun x => ?_
    have hx := h x
    simp only [List.mem_cons] at hx
    constructor
    · intro h1
      rcases hx.1 (.inr h1) with e | h2
      · subst e
        have := v1 _ h1; rw [cmpVs_ord.refl] at this; exact absurd this (by decide)
      · exact h2
    · intro h1
      rcases hx.2 (.inr h1) with e | h2
      · subst e
        have := u1 _ h1; rw [cmpVs_ord.refl] at this; exact absurd this (by decide)
      · exact h2
/- sorted lists without doubles ascend -/
theorem ascV_of_sorted {vs : List (List Val)} (h : vs.Pairwise (fun a b => ¬ cmpVs b a < 0)) (hn : vs.Nodup) : ascV vs := by
  refine (h.and hn).imp fun {a b} hab => ?_
  obtain ⟨h1, h2⟩ := hab
  have e1 := cmpVs_ord.anti a b; have e2 := cmpVs_ord.sign a b
  have e3 : cmpVs a b ≠ 0 := fun e => h2 (cmpVs_zero.1 e)
  omega
/- the keys of tuples, each once -/
def KeysOf (vs : List (List Val)) (l : List Tup) (cols : List Int) : Prop := ∀ v, v ∈ vs ↔ ∃ k ∈ byKeyL l cols, k.key = v
theorem byKey_mem {l : List Tup} {cols : List Int} {v : List Val} : (∃ k ∈ byKeyL l cols, k.key = v) ↔ ∃ t ∈ l, pOk t.p = true ∧ keyVals t.vals cols = v := by
  simp only [byKeyL, List.mem_map, List.mem_filter]
  constructor
  · rintro ⟨k, ⟨t, ⟨h1, h2⟩, rfl⟩, rfl⟩; exact ⟨t, h1, h2, rfl⟩
  · rintro ⟨t, h1, h2, rfl⟩; exact ⟨_, ⟨t, ⟨h1, h2⟩, rfl⟩, rfl⟩
theorem nodup_le {T : Type} [DecidableEq T] : ∀ {vs us : List T}, vs.Nodup → (∀ v ∈ vs, v ∈ us) → vs.length ≤ us.length
  | [], _, _, _ => Nat.zero_le _
  | v :: vs, us, hn, h => by
    obtain ⟨h1, h2⟩ := List.nodup_cons.1 hn
    have hv := h v (by simp)
    have := nodup_le (vs := vs) (us := us.erase v) h2 fun x hx => (List.mem_erase_of_ne (fun e => h1 (by rw [← e]; exact hx))).2 (h x (by simp [hx]))
    rw [List.length_erase_of_mem hv] at this
    have hp : 0 < us.length := List.length_pos_of_mem hv
    rw [List.length_cons]; omega
theorem keys_len {vs : List (List Val)} {l : List Tup} {cols : List Int} (hn : vs.Nodup) (h : KeysOf vs l cols) : vs.length ≤ l.length := by
  have h1 : vs.length ≤ ((byKeyL l cols).map (·.key)).length := by
    refine nodup_le hn fun v hv => ?_
    obtain ⟨k, hk, rfl⟩ := (h v).1 hv
    exact List.mem_map_of_mem hk
  rw [List.length_map] at h1
  exact Nat.le_trans h1 (byKeyL_len l cols)
theorem ascV_nodup {vs : List (List Val)} (h : ascV vs) : vs.Nodup := h.imp fun {a b} hab e => by
  subst e; rw [cmpVs_ord.refl] at hab; exact absurd hab (by decide)
end Go.Vc
/- Violations as labelled days; the keys of tuples in ascending order: plain law. -/
namespace Go.Vc
open Go
/- the keys in ascending order, each once -/
def insV (v : List Val) : List (List Val) → List (List Val)
  | [] => [v]
  | u :: r => if v = u then u :: r else if cmpVs v u = -1 then v :: u :: r else u :: insV v r
theorem insV_mem {v x : List Val} : ∀ {r : List (List Val)}, x ∈ insV v r ↔ x = v ∨ x ∈ r
  | [] => by simp [insV]
  | u :: r => by
    unfold insV
    by_cases h : v = u
    · rw [if_pos h]; subst h; simp
    · rw [if_neg h]
      split
      · simp
      · simp only [List.mem_cons, insV_mem]
        constructor
        · rintro (h | h | h)
          · exact .inr (.inl h)
          · exact .inl h
          · exact .inr (.inr h)
        · rintro (h | h | h)
          · exact .inr (.inl h)
          · exact .inl h
          · exact .inr (.inr h)
theorem insV_asc {v : List Val} : ∀ {r : List (List Val)}, ascV r → ascV (insV v r)
  | [], _ => List.pairwise_singleton _ _
  | u :: r, h => by
    obtain ⟨h1, h2⟩ := List.pairwise_cons.1 h
    unfold insV
    by_cases e : v = u
    · rw [if_pos e]; exact h
    · rw [if_neg e]
      split
      · rename_i hlt
        refine List.pairwise_cons.2 ⟨fun x hx => ?_, h⟩
        rcases List.mem_cons.1 hx with rfl | hx
        · exact hlt
        · exact cmpVs_ord.trans _ _ _ hlt (h1 x hx)
      · rename_i hge
        refine List.pairwise_cons.2 ⟨fun x hx => ?_, insV_asc h2⟩
        rcases insV_mem.1 hx with rfl | hx
        · have a := cmpVs_ord.anti u x; have s := cmpVs_ord.sign u x
          have z : cmpVs x u ≠ 0 := fun h => e (cmpVs_zero.1 h)
          omega
        · exact h1 x hx
def keyList (l : List Tup) (cols : List Int) : List (List Val) := (byKeyL l cols).foldr (fun k acc => insV k.key acc) []
theorem keyList_asc (l : List Tup) (cols : List Int) : ascV (keyList l cols) := by
  unfold keyList
  induction byKeyL l cols with
  | nil => exact List.Pairwise.nil
  | cons k r ih => exact insV_asc ih
theorem keyList_keys (l : List Tup) (cols : List Int) : KeysOf (keyList l cols) l cols := by
  unfold KeysOf keyList
  induction byKeyL l cols with
  | nil => intro v; simp
  | cons k r ih =>
    intro v
    rw [List.foldr_cons, insV_mem, ih v]
    constructor
    · rintro (rfl | ⟨x, hx, rfl⟩)
      · exact ⟨k, by simp, rfl⟩
      · exact ⟨x, by simp [hx], rfl⟩
    · rintro ⟨x, hx, rfl⟩
      rcases List.mem_cons.1 hx with rfl | hx
      · exact .inl rfl
      · exact .inr ⟨x, hx, rfl⟩
theorem keyList_eq {l : List Tup} {cols : List Int} {vs : List (List Val)} (h1 : ascV vs) (h2 : KeysOf vs l cols) : vs = keyList l cols :=
  ascV_unique h1 (keyList_asc l cols) fun v => (h2 v).trans (keyList_keys l cols v).symm
def gapsAll (l : List Tup) (cols : List Int) : List Vio := (keyList l cols).flatMap (gapsK l cols)
def keysAll (l : List Tup) (cols : List Int) : List Vio := (keyList l cols).flatMap (keyV l cols)
def consV (l : List Tup) (kind : Int) (cols : List Int) : List Vio := if kind = 1 then gapsAll l cols else if kind = 2 then keysAll l cols else []
/- violations as labelled days -/
def labV (l : List Vio) (d : Int) (x : List Int) : Prop := ∃ v ∈ l, inV v d ∧ v.ids = x
structure NormV (l : List Vio) : Prop where
  chain : chainV l
  pos : ∀ v ∈ l, v.p.lo < v.p.hi
theorem chain_tail {u : Vio} : ∀ {r : List Vio}, chainV (u :: r) → chainV r
  | [], _ => trivial
  | _ :: _, h => h.2
theorem chain_ge {u : Vio} : ∀ {r : List Vio}, chainV (u :: r) → (∀ v ∈ r, v.p.lo < v.p.hi) → ∀ v ∈ r, u.p.hi ≤ v.p.lo
  | [], _, _, v, hv => by cases hv
  | w :: r, h, hp, v, hv => by
    rcases List.mem_cons.1 hv with rfl | hv
    · exact h.1.1
    · have := chain_ge h.2 (fun v hv => hp v (by simp [hv])) v hv
      have := h.1.1
      have := hp w (by simp)
      omega
theorem NormV.tail {u : Vio} {r : List Vio} (h : NormV (u :: r)) : NormV r := ⟨chain_tail h.chain, fun v hv => h.pos v (by simp [hv])⟩
theorem NormV.ge {u : Vio} {r : List Vio} (h : NormV (u :: r)) : ∀ v ∈ r, u.p.hi ≤ v.p.lo := chain_ge h.chain fun v hv => h.pos v (by simp [hv])
/- the label at a day is that of the first violation, where this holds there -/
theorem NormV.head {u : Vio} {r : List Vio} (h : NormV (u :: r)) {d : Int} {x : List Int} (hl : labV (u :: r) d x) (hd : d < u.p.hi) : inV u d ∧ u.ids = x := by
  obtain ⟨w, hw, h1, h2⟩ := hl
  rcases List.mem_cons.1 hw with rfl | hw
  · exact ⟨h1, h2⟩
  · have := h.ge w hw; have := h1.1; omega
theorem NormV.first {u : Vio} {r : List Vio} (h : NormV (u :: r)) {d : Int} {x : List Int} (hl : labV (u :: r) d x) : u.p.lo ≤ d := by
  obtain ⟨w, hw, h1, h2⟩ := hl
  rcases List.mem_cons.1 hw with rfl | hw
  · exact h1.1
  · have := h.ge w hw; have := h.pos u (by simp); have := h1.1; omega
theorem NormV.hi_le {u v : Vio} {r s : List Vio} (ha : NormV (u :: r)) (hb : NormV (v :: s)) (h : ∀ d x, labV (v :: s) d x → labV (u :: r) d x) (hlo : u.p.lo = v.p.lo) (hid : u.ids = v.ids) : v.p.hi ≤ u.p.hi := by
  refine Classical.byContradiction fun hc => ?_
  have hu := ha.pos u (by simp)
  have h1 : labV (v :: s) u.p.hi v.ids := ⟨v, by simp, ⟨by omega, by omega⟩, rfl⟩
  obtain ⟨w, hw, h2, h3⟩ := h _ _ h1
  rcases List.mem_cons.1 hw with rfl | hw
  · have := h2.2; omega
  · rcases r with _ | ⟨k, r⟩
    · cases hw
    · rcases List.mem_cons.1 hw with rfl | hw'
      · have := ha.chain.1
        exact this.2 ⟨by have := this.1; have := h2.1; omega, by rw [hid, h3]⟩
      · have a1 := ha.ge k (by simp)
        have a2 := ha.tail.ge w hw'
        have a3 := ha.pos k (by simp)
        have := h2.1
        omega
theorem normV_ext : ∀ {a b : List Vio}, NormV a → NormV b → (∀ d x, labV a d x ↔ labV b d x) → a = b
  | [], [], _, _, _ => rfl
  | [], v :: s, _, hb, h => by
    obtain ⟨w, hw, -⟩ := (h v.p.lo v.ids).2 ⟨v, by simp, ⟨Int.le_refl _, hb.pos v (by simp)⟩, rfl⟩
    cases hw
  | u :: r, [], ha, _, h => by
    obtain ⟨w, hw, -⟩ := (h u.p.lo u.ids).1 ⟨u, by simp, ⟨Int.le_refl _, ha.pos u (by simp)⟩, rfl⟩
    cases hw
  | u :: r, v :: s, ha, hb, h => by
    have hu := ha.pos u (by simp); have hv := hb.pos v (by simp)
    have l1 : labV (u :: r) u.p.lo u.ids := ⟨u, by simp, ⟨Int.le_refl _, hu⟩, rfl⟩
    have l2 : labV (v :: s) v.p.lo v.ids := ⟨v, by simp, ⟨Int.le_refl _, hv⟩, rfl⟩
    have hlo : u.p.lo = v.p.lo := by
      have a1 := hb.first ((h _ _).1 l1); have a2 := ha.first ((h _ _).2 l2); omega
    have hid : u.ids = v.ids := ((hb.head ((h _ _).1 l1) (by omega)).2).symm
    have hhi : u.p.hi = v.p.hi := by
      have a1 := ha.hi_le hb (fun d x hl => (h d x).2 hl) hlo hid
      have a2 := hb.hi_le ha (fun d x hl => (h d x).1 hl) hlo.symm hid.symm
      omega
    have huv : u = v := vio_eq.2 ⟨hlo, hhi, hid⟩
    subst huv
    congr 1
    refine normV_ext ha.tail hb.tail fun d x => ⟨fun hl => ?_, fun hl => ?_⟩
    · obtain ⟨w, hw, h1, h2⟩ := hl
      have hge := ha.ge w hw
      obtain ⟨w', hw', h1', h2'⟩ := (h d x).1 ⟨w, by simp [hw], h1, h2⟩
      rcases List.mem_cons.1 hw' with rfl | hw'
      · have := h1'.2; have := h1.1; omega
      · exact ⟨w', hw', h1', h2'⟩
    · obtain ⟨w, hw, h1, h2⟩ := hl
      have hge := hb.ge w hw
      obtain ⟨w', hw', h1', h2'⟩ := (h d x).2 ⟨w, by simp [hw], h1, h2⟩
      rcases List.mem_cons.1 hw' with rfl | hw'
      · have := h1'.2; have := h1.1; omega
      · exact ⟨w', hw', h1', h2'⟩
/- one violation more -/
theorem extV_norm {l : List Vio} {v : Vio} (h : NormV l) (hv : v.p.lo < v.p.hi) (hl : ∀ u, l.getLast? = some u → u.p.hi ≤ v.p.lo) :
    NormV (extV l v) ∧ (∀ u, (extV l v).getLast? = some u → u.p.hi = v.p.hi) ∧ ∀ d x, labV (extV l v) d x ↔ labV l d x ∨ (inV v d ∧ v.ids = x) := by
  obtain ⟨c1, c2⟩ := extV_chain h.chain hl
  have key : (∀ w ∈ extV l v, w.p.lo < w.p.hi) ∧ ∀ d x, labV (extV l v) d x ↔ labV l d x ∨ (inV v d ∧ v.ids = x) := by
    have plain : (∀ w ∈ l ++ [v], w.p.lo < w.p.hi) ∧ ∀ d x, labV (l ++ [v]) d x ↔ labV l d x ∨ (inV v d ∧ v.ids = x) := by
      refine ⟨fun w hw => ?_, fun d x => ?_⟩
      · rcases List.mem_append.1 hw with hw | hw
        · exact h.pos w hw
        · rw [List.mem_singleton] at hw; subst hw; exact hv
      · constructor
        · rintro ⟨w, hw, h1⟩
          rcases List.mem_append.1 hw with hw | hw
          · exact .inl ⟨w, hw, h1⟩
          · rw [List.mem_singleton] at hw; subst hw; exact .inr h1
        · rintro (⟨w, hw, h1⟩ | h1)
          · exact ⟨w, by simp [hw], h1⟩
          · exact ⟨v, by simp, h1⟩
    unfold extV
    split
    · rename_i u hu
      have hlu := hl u hu
      obtain ⟨l', rfl⟩ := List.getLast?_eq_some_iff.1 hu
      rw [List.dropLast_concat]
      have hu0 := h.pos u (by simp)
      split
      · rename_i hc
        refine ⟨fun w hw => ?_, fun d x => ?_⟩
        · rcases List.mem_append.1 hw with hw | hw
          · exact h.pos w (by simp [hw])
          · rw [List.mem_singleton] at hw; subst hw; show u.p.lo < v.p.hi; omega
        · constructor
          · rintro ⟨w, hw, h1, h2⟩
            rcases List.mem_append.1 hw with hw | hw
            · exact .inl ⟨w, by simp [hw], h1, h2⟩
            · rw [List.mem_singleton] at hw; subst hw
              have h1a : u.p.lo ≤ d := h1.1
              have h1b : d < v.p.hi := h1.2
              have h2 : u.ids = x := h2
              by_cases hd : d < u.p.hi
              · exact .inl ⟨u, by simp, ⟨h1a, hd⟩, h2⟩
              · exact .inr ⟨⟨by omega, h1b⟩, by rw [← hc.2]; exact h2⟩
          · rintro (⟨w, hw, h1, h2⟩ | ⟨h1, h2⟩)
            · rcases List.mem_append.1 hw with hw | hw
              · exact ⟨w, by simp [hw], h1, h2⟩
              · rw [List.mem_singleton] at hw; subst hw
                exact ⟨⟨⟨w.p.lo, v.p.hi⟩, w.ids⟩, by simp, ⟨h1.1, by have := h1.2; show d < v.p.hi; omega⟩, h2⟩
            · exact ⟨⟨⟨u.p.lo, v.p.hi⟩, u.ids⟩, by simp, ⟨by have := h1.1; show u.p.lo ≤ d; omega, h1.2⟩, by rw [← h2]; exact hc.2⟩
      · exact plain
    · exact plain
  exact ⟨⟨c1, key.1⟩, c2, key.2⟩
/- steps between points, each with what is found at its start -/
def segF (F : Int → Option (List Int)) : List Int → List Vio
  | f :: t :: ps => (match F f with | some x => [⟨⟨f, t⟩, x⟩] | none => []) ++ segF F (t :: ps)
  | _ => []
def accF (F : Int → Option (List Int)) : List Int → List Vio → List Vio
  | f :: t :: ps, out => accF F (t :: ps) (match F f with | some x => extV out ⟨⟨f, t⟩, x⟩ | none => out)
  | _, out => out
def btw : List Int → Int → Prop
  | f :: t :: ps, d => (f ≤ d ∧ d < t) ∨ btw (t :: ps) d
  | _, _ => False
def stepC (F : Int → Option (List Int)) : List Int → Prop
  | f :: t :: ps => (∀ d, f ≤ d → d < t → F d = F f) ∧ stepC F (t :: ps)
  | _ => True
theorem btw_of {a b d : Int} (h1 : a ≤ d) (h2 : d < b) : ∀ {ps : List Int}, ps.Pairwise (fun x y => x < y) → a ∈ ps → b ∈ ps → btw ps d
  | [], _, ha, _ => by cases ha
  | [f], _, ha, hb => by
    rw [List.mem_singleton] at ha hb; omega
  | f :: t :: ps, hp, ha, hb => by
    obtain ⟨p1, p2⟩ := List.pairwise_cons.1 hp
    by_cases hd : d < t
    · refine .inl ⟨?_, hd⟩
      rcases List.mem_cons.1 ha with rfl | ha
      · exact h1
      · have := p1 a ha; omega
    · right
      have hb' : b ∈ t :: ps := by
        rcases List.mem_cons.1 hb with rfl | hb
        · have := p1 t (by simp); omega
        · exact hb
      rcases List.mem_cons.1 ha with rfl | ha
      · exact btw_of (a := t) (by omega) h2 p2 (by simp) hb'
      · exact btw_of h1 h2 p2 ha hb'
theorem segF_lab {F : Int → Option (List Int)} {d : Int} {x : List Int} : ∀ {ps : List Int}, stepC F ps → (labV (segF F ps) d x ↔ btw ps d ∧ F d = some x)
  | [], _ => by simp [segF, labV, btw]
  | [_], _ => by simp [segF, labV, btw]
  | f :: t :: ps, hc => by
    obtain ⟨c1, c2⟩ := hc
    have ih := segF_lab (d := d) (x := x) c2
    have e : labV (segF F (f :: t :: ps)) d x ↔ (f ≤ d ∧ d < t ∧ F f = some x) ∨ labV (segF F (t :: ps)) d x := by
      rw [segF]
      constructor
      · rintro ⟨v, hv, h1, h2⟩
        rcases List.mem_append.1 hv with hv | hv
        · split at hv
          · rename_i y hy
            rw [List.mem_singleton] at hv; subst hv
            exact .inl ⟨h1.1, h1.2, by rw [hy]; exact congrArg some h2⟩
          · cases hv
        · exact .inr ⟨v, hv, h1, h2⟩
      · rintro (⟨h1, h2, h3⟩ | ⟨v, hv, h1⟩)
        · exact ⟨⟨⟨f, t⟩, x⟩, by rw [h3]; simp, ⟨h1, h2⟩, rfl⟩
        · exact ⟨v, List.mem_append_right _ hv, h1⟩
    rw [e, ih, btw]
    constructor
    · rintro (⟨h1, h2, h3⟩ | ⟨h1, h2⟩)
      · exact ⟨.inl ⟨h1, h2⟩, by rw [c1 d h1 h2]; exact h3⟩
      · exact ⟨.inr h1, h2⟩
    · rintro ⟨h1 | h1, h2⟩
      · exact .inl ⟨h1.1, h1.2, by rw [← c1 d h1.1 h1.2]; exact h2⟩
      · exact .inr ⟨h1, h2⟩
theorem accF_lab {F : Int → Option (List Int)} : ∀ {ps : List Int} {out : List Vio}, ps.Pairwise (fun x y => x < y) → stepC F ps → NormV out → (∀ u f, out.getLast? = some u → ps.head? = some f → u.p.hi ≤ f) →
    NormV (accF F ps out) ∧ ∀ d x, labV (accF F ps out) d x ↔ labV out d x ∨ (btw ps d ∧ F d = some x)
  | [], out, _, _, hn, _ => ⟨hn, fun d x => by simp [accF, btw]⟩
  | [_], out, _, _, hn, _ => ⟨hn, fun d x => by simp [accF, btw]⟩
  | f :: t :: ps, out, hp, hc, hn, hl => by
    obtain ⟨c1, c2⟩ := hc
    obtain ⟨p1, p2⟩ := List.pairwise_cons.1 hp
    have hft := p1 t (by simp)
    rw [accF]
    rcases hF : F f with _ | y
    · simp only
      obtain ⟨a1, a2⟩ := accF_lab (out := out) p2 c2 hn (fun u g hu hg => by
        simp only [List.head?_cons, Option.some.injEq] at hg
        subst hg
        have := hl u f hu rfl; omega)
      refine ⟨a1, fun d x => ?_⟩
      rw [a2, btw]
      constructor
      · rintro (h | ⟨h1, h2⟩)
        · exact .inl h
        · exact .inr ⟨.inr h1, h2⟩
      · rintro (h | ⟨h1 | h1, h2⟩)
        · exact .inl h
        · rw [c1 d h1.1 h1.2, hF] at h2; cases h2
        · exact .inr ⟨h1, h2⟩
    · simp only
      obtain ⟨b1, b2, b3⟩ := extV_norm (v := ⟨⟨f, t⟩, y⟩) hn hft (fun u hu => hl u f hu rfl)
      obtain ⟨a1, a2⟩ := accF_lab (out := extV out ⟨⟨f, t⟩, y⟩) p2 c2 b1 (fun u g hu hg => by
        simp only [List.head?_cons, Option.some.injEq] at hg
        subst hg
        have := b2 u hu
        have this : u.p.hi = t := this
        omega)
      refine ⟨a1, fun d x => ?_⟩
      rw [a2, b3, btw]
      constructor
      · rintro ((h | ⟨h1, h2⟩) | ⟨h1, h2⟩)
        · exact .inl h
        · have h1a : f ≤ d := h1.1
          have h1b : d < t := h1.2
          have h2 : y = x := h2
          exact .inr ⟨.inl ⟨h1a, h1b⟩, by rw [c1 d h1a h1b, hF, h2]⟩
        · exact .inr ⟨.inr h1, h2⟩
      · rintro (h | ⟨h1 | h1, h2⟩)
        · exact .inl (.inl h)
        · rw [c1 d h1.1 h1.2, hF] at h2
          exact .inl (.inr ⟨⟨h1.1, h1.2⟩, Option.some.inj h2⟩)
        · exact .inr ⟨h1, h2⟩
theorem filt_same {S : List Tup} {f t d : Int} {ps : List Int} (hv : ∀ x ∈ S, x.p.lo ∉ ps ∨ x.p.lo ≤ f ∨ t ≤ x.p.lo) (hm : ∀ x ∈ S, x.p.lo ≤ f ∨ t ≤ x.p.lo) (hm2 : ∀ x ∈ S, x.p.hi ≤ f ∨ t ≤ x.p.hi) (h1 : f ≤ d) (h2 : d < t) : S.filter (inT d) = S.filter (inT f) := by
  refine List.filter_congr fun x hx => ?_
  have a := hm x hx; have b := hm2 x hx
  unfold inT
  rw [Bool.eq_iff_iff, pIn_iff, pIn_iff]
  omega
end Go.Vc
/- Splitting tuples at days changes neither the violations of keys nor the gaps: plain law. -/
namespace Go.Vc
open Go
/- periods that follow one another from a to b -/
def chn : Int → Int → List Per → Prop
  | a, b, [] => a = b
  | a, b, p :: r => p.lo = a ∧ p.lo < p.hi ∧ chn p.hi b r
theorem chn_le : ∀ {ps : List Per} {a b : Int}, chn a b ps → a ≤ b
  | [], a, b, h => by have h : a = b := h; omega
  | p :: r, a, b, h => by
    obtain ⟨h1, h2, h3⟩ := h
    have := chn_le h3; omega
theorem chn_snoc : ∀ {ps : List Per} {a b c : Int}, chn a b ps → b < c → chn a c (ps ++ [⟨b, c⟩])
  | [], a, b, c, h, hc => ⟨(show a = b from h).symm, hc, rfl⟩
  | p :: r, a, b, c, ⟨h1, h2, h3⟩, hc => ⟨h1, h2, chn_snoc h3 hc⟩
theorem chn_bd : ∀ {ps : List Per} {a b : Int}, chn a b ps → ∀ p ∈ ps, a ≤ p.lo ∧ p.lo < p.hi ∧ p.hi ≤ b
  | q :: r, a, b, ⟨h1, h2, h3⟩, p, hp => by
    have := chn_le h3
    rcases List.mem_cons.1 hp with rfl | hp
    · omega
    · have := chn_bd h3 p hp; omega
/- a day lies in one part, where it lies in the whole -/
theorem chn_one {v : List Val} {g : List Int} {d : Int} : ∀ {ps : List Per} {a b : Int}, chn a b ps → 0 ≤ a → b ≤ maxT →
    ((ps.map fun p => (⟨v, p, g⟩ : Tup)).filter (inT d)).map (fun t => (t.vals, t.lin)) = if a ≤ d ∧ d < b then [(v, g)] else []
  | [], a, b, h, h0, hb => by
    have h : a = b := h
    rw [if_neg (by omega)]; rfl
  | p :: r, a, b, ⟨h1, h2, h3⟩, h0, hb => by
    have hle := chn_le h3
    have ih := chn_one (v := v) (g := g) (d := d) h3 (by omega) hb
    rw [List.map_cons, List.filter_cons]
    by_cases hin : p.lo ≤ d ∧ d < p.hi
    · have hb2 : 0 ≤ p.lo ∧ p.lo < p.hi ∧ p.hi ≤ maxT := by omega
      have e : inT d (⟨v, p, g⟩ : Tup) = true := pIn_iff.2 ⟨hb2, hin⟩
      rw [if_pos e, List.map_cons, ih, if_neg (by omega), if_pos (by omega)]
    · have e : ¬ inT d (⟨v, p, g⟩ : Tup) = true := fun h => hin (pIn_iff.1 h).2
      rw [if_neg e, ih]
      by_cases hd : p.hi ≤ d ∧ d < b
      · rw [if_pos hd, if_pos (by omega)]
      · rw [if_neg hd, if_neg (by omega)]
/- the tuples l, split -/
inductive SplitR : List Tup → List Tup → Prop
  | nil : SplitR [] []
  | skip {t : Tup} {l l' : List Tup} : pOk t.p = false → SplitR l l' → SplitR (t :: l) l'
  | cons {t : Tup} {l l' : List Tup} {ps : List Per} : pOk t.p = true → chn t.p.lo t.p.hi ps → SplitR l l' → SplitR (t :: l) ((ps.map fun p => ⟨t.vals, p, t.lin⟩) ++ l')
theorem SplitR.append {a a' b b' : List Tup} (h : SplitR a a') (h2 : SplitR b b') : SplitR (a ++ b) (a' ++ b') := by
  induction h with
  | nil => exact h2
  | skip h _ ih => exact .skip h ih
  | cons h hc _ ih => rw [List.cons_append, List.append_assoc]; exact .cons h hc ih
def rowsAt (l : List Tup) (d : Int) : List (List Val × List Int) := (l.filter (inT d)).map fun t => (t.vals, t.lin)
theorem split_at {l l' : List Tup} (h : SplitR l l') (d : Int) : rowsAt l' d = rowsAt l d := by
  induction h with
  | nil => rfl
  | skip h _ ih =>
    rename_i t l l' _
    have e : ¬ inT d t = true := fun hc => by
      have := pOk_iff.2 (pIn_iff.1 hc).1
      rw [h] at this; cases this
    rw [ih, rowsAt, rowsAt, List.filter_cons, if_neg e]
  | cons h hc _ ih =>
    rename_i t l l' ps _
    have hb := pOk_iff.1 h
    have := chn_one (v := t.vals) (g := t.lin) (d := d) hc hb.1 hb.2.2
    rw [rowsAt, List.filter_append, List.map_append, this]
    have ih : (List.filter (inT d) l').map (fun t => (t.vals, t.lin)) = rowsAt l d := ih
    rw [ih, rowsAt, rowsAt, List.filter_cons]
    by_cases hd : t.p.lo ≤ d ∧ d < t.p.hi
    · have e : inT d t = true := pIn_iff.2 ⟨hb, hd⟩
      rw [if_pos hd, if_pos e]; rfl
    · have e : ¬ inT d t = true := fun hc => hd (pIn_iff.1 hc).2
      rw [if_neg hd, if_neg e]; rfl
theorem split_ok {l l' : List Tup} (h : SplitR l l') : ∀ t ∈ l', pOk t.p = true := by
  induction h with
  | nil => intro t ht; cases ht
  | skip _ _ ih => exact ih
  | cons h hc _ ih =>
    rename_i t l l' ps _
    intro x hx
    rcases List.mem_append.1 hx with hx | hx
    · obtain ⟨p, hp, rfl⟩ := List.mem_map.1 hx
      have := chn_bd hc p hp
      have hb := pOk_iff.1 h
      exact pOk_iff.2 (by show 0 ≤ p.lo ∧ p.lo < p.hi ∧ p.hi ≤ maxT; omega)
    · exact ih x hx
theorem split_mem {l l' : List Tup} (h : SplitR l l') : ∀ t ∈ l', ∃ s ∈ l, t.vals = s.vals ∧ t.lin = s.lin := by
  induction h with
  | nil => intro t ht; cases ht
  | skip _ _ ih => intro t ht; obtain ⟨s, hs, h⟩ := ih t ht; exact ⟨s, by simp [hs], h⟩
  | cons h hc _ ih =>
    rename_i t l l' ps _
    intro x hx
    rcases List.mem_append.1 hx with hx | hx
    · obtain ⟨p, hp, rfl⟩ := List.mem_map.1 hx
      exact ⟨t, List.mem_cons_self, rfl, rfl⟩
    · obtain ⟨s, hs, h⟩ := ih x hx
      exact ⟨s, by simp [hs], h⟩
/- what depends on the rows of each day alone -/
def SameDays (l l' : List Tup) : Prop := ∀ d, rowsAt l' d = rowsAt l d
theorem rows_mem {l : List Tup} {d : Int} {r : List Val × List Int} : r ∈ rowsAt l d ↔ ∃ t ∈ l, inT d t = true ∧ (t.vals, t.lin) = r := by
  simp only [rowsAt, List.mem_map, List.mem_filter, and_assoc]
theorem keys_days {l l' : List Tup} (h : SameDays l l') (cols : List Int) : keyList l' cols = keyList l cols := by
  have one : ∀ {a b : List Tup}, SameDays a b → ∀ v, (∃ t ∈ b, pOk t.p = true ∧ keyVals t.vals cols = v) → ∃ t ∈ a, pOk t.p = true ∧ keyVals t.vals cols = v := by
    rintro a b h v ⟨t, h1, h2, h3⟩
    have hb := pOk_iff.1 h2
    have hm : (t.vals, t.lin) ∈ rowsAt b t.p.lo := rows_mem.2 ⟨t, h1, pIn_iff.2 ⟨hb, by omega⟩, rfl⟩
    rw [h] at hm
    obtain ⟨s, s1, s2, s3⟩ := rows_mem.1 hm
    exact ⟨s, s1, pOk_iff.2 (pIn_iff.1 s2).1, by rw [(Prod.mk.inj s3).1]; exact h3⟩
  refine ascV_unique (keyList_asc _ _) (keyList_asc _ _) fun v => ?_
  rw [keyList_keys l' cols v, keyList_keys l cols v, byKey_mem, byKey_mem]
  exact ⟨one h v, one (fun d => (h d).symm) v⟩
theorem withK_at (l : List Tup) (cols : List Int) (v : List Val) (d : Int) : ((withK l cols v).filter (inT d)).map (fun t => (t.vals, t.lin)) = (rowsAt l d).filter fun r => decide (cmpVs (keyVals r.1 cols) v = 0) := by
  rw [rowsAt, List.filter_map]
  congr 1
  rw [withK, List.filter_filter, List.filter_filter]
  refine List.filter_congr fun t _ => ?_
  by_cases h : inT d t = true
  · have := pOk_iff.2 (pIn_iff.1 h).1
    simp [h, this]
  · simp [h]
theorem withK_days {l l' : List Tup} (h : SameDays l l') (cols : List Int) (v : List Val) : SameDays (withK l cols v) (withK l' cols v) := fun d => by
  rw [rowsAt, rowsAt, withK_at, withK_at, h]
theorem days_lins {S S' : List Tup} (h : SameDays S S') (d : Int) : (S'.filter (inT d)).length = (S.filter (inT d)).length ∧ tlins (S'.filter (inT d)) = tlins (S.filter (inT d)) := by
  have h1 := congrArg List.length (h d)
  simp only [rowsAt, List.length_map] at h1
  refine ⟨h1, ?_⟩
  have e : ∀ L : List Tup, tlins L = (L.map fun t => (t.vals, t.lin)).flatMap (·.2) := fun L => by rw [List.flatMap_map]; rfl
  rw [e, e]
  exact congrArg (fun x => List.flatMap (·.2) x) (h d)
theorem days_set {S S' : List Tup} (h : SameDays S S') (d : Int) : inSet (S'.map (·.p)) d = inSet (S.map (·.p)) d := by
  have e : ∀ L : List Tup, inSet (L.map (·.p)) d = true ↔ 0 < (L.filter (inT d)).length := by
    intro L
    unfold inSet
    rw [List.any_map, List.any_eq_true, List.length_pos_iff_exists_mem]
    constructor
    · rintro ⟨x, hx, h⟩; exact ⟨x, List.mem_filter.2 ⟨hx, h⟩⟩
    · rintro ⟨x, hx⟩; exact ⟨x, (List.mem_filter.1 hx).1, (List.mem_filter.1 hx).2⟩
  rw [Bool.eq_iff_iff, e, e, (days_lins h d).1]
/- the violations of one key -/
def kF (S : List Tup) (d : Int) : Option (List Int) := if 2 ≤ (S.filter (inT d)).length then some (canon (tlins (S.filter (inT d)))) else none
theorem sweepT_acc (S : List Tup) : ∀ (ps : List Int) (out : List Vio), sweepT S ps out = accF (kF S) ps out
  | [], out => rfl
  | [x], out => rfl
  | f :: t :: ps, out => by
    rw [sweepT, accF, sweepT_acc S (t :: ps)]
    unfold kF
    by_cases h : 2 ≤ (S.filter (inT f)).length
    · rw [if_pos h, if_pos h]
    · rw [if_neg h, if_neg h]
theorem kF_step {S : List Tup} : ∀ {ps qs : List Int}, (qs ++ ps).Pairwise (fun x y => x < y) → (∀ x ∈ S, x.p.lo ∈ qs ++ ps ∧ x.p.hi ∈ qs ++ ps) → stepC (kF S) ps
  | [], _, _, _ => trivial
  | [_], _, _, _ => trivial
  | f :: t :: ps, qs, hp, hm => by
    have side : ∀ y ∈ qs ++ f :: t :: ps, y ≤ f ∨ t ≤ y := by
      intro y hy
      obtain ⟨-, q2, q3⟩ := List.pairwise_append.1 hp
      obtain ⟨r1, r2⟩ := List.pairwise_cons.1 q2
      obtain ⟨s1, -⟩ := List.pairwise_cons.1 r2
      rcases List.mem_append.1 hy with hy | hy
      · have := q3 y hy f (by simp); omega
      · rcases List.mem_cons.1 hy with rfl | hy
        · omega
        · rcases List.mem_cons.1 hy with rfl | hy
          · omega
          · have := s1 y hy; omega
    refine ⟨fun d h1 h2 => ?_, kF_step (ps := t :: ps) (qs := qs ++ [f]) (by simpa using hp) (by simpa using hm)⟩
    have eS : S.filter (inT d) = S.filter (inT f) := filt_same (ps := []) (fun x hx => .inl (by simp)) (fun x hx => side _ (hm x hx).1) (fun x hx => side _ (hm x hx).2) h1 h2
    unfold kF
    rw [eS]
theorem tends_in {S : List Tup} (hv : ∀ x ∈ S, pOk x.p = true) {x : Tup} (hx : x ∈ S) : x.p.lo ∈ canon (tends S) ∧ x.p.hi ∈ canon (tends S) := by
  rw [canon_mem, canon_mem]
  unfold tends
  exact ⟨List.mem_flatMap.2 ⟨x, List.mem_filter.2 ⟨hx, hv x hx⟩, by simp⟩, List.mem_flatMap.2 ⟨x, List.mem_filter.2 ⟨hx, hv x hx⟩, by simp⟩⟩
theorem sweep_lab {S : List Tup} (hS : ∀ x ∈ S, pOk x.p = true) : NormV (sweepT S (canon (tends S)) []) ∧ ∀ d x, labV (sweepT S (canon (tends S)) []) d x ↔ kF S d = some x := by
  have hst : stepC (kF S) (canon (tends S)) := kF_step (qs := []) (canon_asc _) fun x hx => tends_in hS hx
  obtain ⟨a1, a2⟩ := accF_lab (F := kF S) (out := []) (canon_asc (tends S)) hst ⟨trivial, fun v hv => by cases hv⟩ (fun u f hu => by cases hu)
  rw [sweepT_acc]
  refine ⟨a1, fun d x => ?_⟩
  have e : labV [] d x ↔ False := by simp [labV]
  rw [a2, e, false_or]
  refine ⟨fun h => h.2, fun h => ⟨?_, h⟩⟩
  have h2 : 2 ≤ (S.filter (inT d)).length := by
    unfold kF at h
    split at h
    · assumption
    · cases h
  obtain ⟨y, hy⟩ : ∃ y, y ∈ S.filter (inT d) := List.exists_mem_of_length_pos (by omega)
  obtain ⟨h3, h4⟩ := List.mem_filter.1 hy
  have := tends_in hS h3
  have h4 := (pIn_iff.1 h4).2
  exact btw_of h4.1 h4.2 (canon_asc _) this.1 this.2
theorem withK_ok (l : List Tup) (cols : List Int) (v : List Val) : ∀ x ∈ withK l cols v, pOk x.p = true := fun x hx => by
  have := (List.mem_filter.1 hx).2
  rw [Bool.and_eq_true] at this
  exact this.1
theorem keyV_days {l l' : List Tup} (h : SameDays l l') (cols : List Int) (v : List Val) : keyV l' cols v = keyV l cols v := by
  obtain ⟨a1, a2⟩ := sweep_lab (withK_ok l' cols v)
  obtain ⟨b1, b2⟩ := sweep_lab (withK_ok l cols v)
  unfold keyV
  refine normV_ext a1 b1 fun d x => ?_
  rw [a2, b2]
  obtain ⟨h1, h2⟩ := days_lins (withK_days h cols v) d
  unfold kF
  rw [h1, h2]
theorem keysAll_days {l l' : List Tup} (h : SameDays l l') (cols : List Int) : keysAll l' cols = keysAll l cols := by
  unfold keysAll
  rw [keys_days h, show keyV l' cols = keyV l cols from funext (keyV_days h cols)]
/- the gaps of one key -/
theorem touch_days {own : List Tup} {g : Per} (hv : ∀ t ∈ own, pOk t.p = true) (h1 : inSet (own.map (·.p)) g.lo = false) (h2 : inSet (own.map (·.p)) (g.hi - 1) = false) {y : Int} :
    y ∈ tlins (own.filter (touch g)) ↔ y ∈ tlins (own.filter (inT (g.lo - 1))) ∨ y ∈ tlins (own.filter (inT g.hi)) := by
  have no : ∀ {d : Int}, inSet (own.map (·.p)) d = false → ∀ t ∈ own, ¬ inT d t = true := by
    intro d hd t ht hc
    have : inSet (own.map (·.p)) d = true := by
      unfold inSet
      rw [List.any_map, List.any_eq_true]
      exact ⟨t, ht, hc⟩
    rw [hd] at this; cases this
  have key : ∀ t ∈ own, (touch g t = true ↔ inT (g.lo - 1) t = true ∨ inT g.hi t = true) := by
    intro t ht
    have a := no h1 t ht; have b := no h2 t ht
    have hb := pOk_iff.1 (hv t ht)
    unfold inT at a b ⊢
    rw [pIn_iff] at a b ⊢
    rw [pIn_iff]
    unfold touch
    rw [Bool.or_eq_true, decide_eq_true_eq, decide_eq_true_eq]
    omega
  simp only [tlins, List.mem_flatMap, List.mem_filter]
  constructor
  · rintro ⟨t, ⟨h, hk⟩, hy⟩
    rcases (key t h).1 hk with hk | hk
    · exact .inl ⟨t, ⟨h, hk⟩, hy⟩
    · exact .inr ⟨t, ⟨h, hk⟩, hy⟩
  · rintro (⟨t, ⟨h, hk⟩, hy⟩ | ⟨t, ⟨h, hk⟩, hy⟩)
    · exact ⟨t, ⟨h, (key t h).2 (.inl hk)⟩, hy⟩
    · exact ⟨t, ⟨h, (key t h).2 (.inr hk)⟩, hy⟩
theorem nrm_out {d : Int} : ∀ {s : List Per} {h : Int}, nrmGo h s = true → d ≤ h → inSet s d = false
  | [], _, _, _ => rfl
  | p :: r, h, hn, hd => by
    obtain ⟨q1, q2, q3⟩ := nrmGo_cons.1 hn
    rw [inSet_cons, nrm_out q3 (by omega), Bool.or_false]
    have : ¬ pIn p d = true := fun hc => by have := (pIn_iff.1 hc).2; omega
    simpa using this
theorem gapsGo_days {own own' : List Tup} (h : SameDays own own') (hv : ∀ t ∈ own, pOk t.p = true) (hv' : ∀ t ∈ own', pOk t.p = true) : ∀ {s pre : List Per} {k : Int},
    (∀ d, inSet (own.map (·.p)) d = (inSet pre d || inSet s d)) → (∀ p ∈ pre, ∀ d, pIn p d = true → d < k) → nrmGo k s = true → gapsGo own' s = gapsGo own s
  | [], _, _, _, _, _ => rfl
  | [_], _, _, _, _, _ => rfl
  | a :: b :: r, pre, k, hs, hp, hn => by
    obtain ⟨q1, q2, q3⟩ := nrmGo_cons.1 hn
    obtain ⟨r1, r2, r3⟩ := nrmGo_cons.1 q3
    have hpre : ∀ d, k ≤ d → inSet pre d = false := by
      intro d hd
      unfold inSet
      rw [List.any_eq_false]
      exact fun p hp' hc => by have := hp p hp' d hc; omega
    have ha : ∀ d, a.hi ≤ d → pIn a d = false := fun d hd => by
      have : ¬ pIn a d = true := fun hc => by have := (pIn_iff.1 hc).2; omega
      simpa using this
    have hgap : ∀ d, a.hi ≤ d → d < b.lo → inSet (own.map (·.p)) d = false := by
      intro d h1 h2
      rw [hs, hpre d (by omega), inSet_cons, ha d h1, inSet_cons, nrm_out r3 (by omega)]
      have : ¬ pIn b d = true := fun hc => by have := (pIn_iff.1 hc).2; omega
      simpa using this
    have hlo := hgap a.hi (Int.le_refl _) r2
    have hhi := hgap (b.lo - 1) (by omega) (by omega)
    have hlo' : inSet (own'.map (·.p)) a.hi = false := by rw [days_set h]; exact hlo
    have hhi' : inSet (own'.map (·.p)) (b.lo - 1) = false := by rw [days_set h]; exact hhi
    rw [gapsGo, gapsGo, gapsGo_days h hv hv' (s := b :: r) (pre := pre ++ [a]) (k := a.hi) (fun d => ?_) (fun p hp' d hd => ?_) q3]
    · congr 1
      unfold gapV
      congr 1
      refine canon_eq fun y => ?_
      rw [touch_days (g := ⟨a.hi, b.lo⟩) hv hlo hhi, touch_days (g := ⟨a.hi, b.lo⟩) hv' hlo' hhi', (days_lins h _).2, (days_lins h _).2]
    · rw [hs d, inSet_cons (p := a)]
      unfold inSet
      rw [List.any_append]
      simp [Bool.or_assoc]
    · rcases List.mem_append.1 hp' with hp' | hp'
      · have := hp p hp' d hd; omega
      · rw [List.mem_singleton] at hp'; subst hp'
        exact (pIn_iff.1 hd).2.2
theorem gapsK_days {l l' : List Tup} (h : SameDays l l') (cols : List Int) (v : List Val) : gapsK l' cols v = gapsK l cols v := by
  have hw := withK_days h cols v
  have e : covL l' cols v = covL l cols v := by
    rw [← cov_withK, ← cov_withK]
    exact norm_congr fun d => days_set hw d
  unfold gapsK
  rw [e]
  have hn := norm_nrm ((withK l cols v).map (·.p))
  rw [cov_withK] at hn
  refine gapsGo_days hw (withK_ok l cols v) (withK_ok l' cols v) (pre := []) (k := -1) (fun d => ?_) (fun p hp => by cases hp) hn
  rw [← cov_withK, norm_in]
  rfl
theorem gapsAll_days {l l' : List Tup} (h : SameDays l l') (cols : List Int) : gapsAll l' cols = gapsAll l cols := by
  unfold gapsAll
  rw [keys_days h, show gapsK l' cols = gapsK l cols from funext (gapsK_days h cols)]
theorem consV_days {l l' : List Tup} (h : SameDays l l') (kind : Int) (cols : List Int) : consV l' kind cols = consV l kind cols := by
  unfold consV
  rw [gapsAll_days h, keysAll_days h]
end Go.Vc
