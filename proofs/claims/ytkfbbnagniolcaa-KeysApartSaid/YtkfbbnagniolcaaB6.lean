/- keys.Violations and keys.Holds (fewer than twenty tuples). -/
import Derived.Test.YtkfbbnagniolcaaB5
set_option linter.unusedSectionVars false
set_option linter.unusedSimpArgs false
set_option linter.unusedVariables false
namespace Go.Vc
open Go Go.Proofs Go.Shelf
def sameK (k x : Kd) : Bool := decide (cmpVs x.key k.key = 0)
def violGo : Nat → List Kd → List Vio
  | 0, _ => []
  | _ + 1, [] => []
  | f + 1, k :: r => (if 2 ≤ (k :: r.takeWhile (sameK k)).length then confl (k :: r.takeWhile (sameK k)) else []) ++ violGo f (r.dropWhile (sameK k))
def violL (g : List Kd) : List Vio := violGo g.length g
theorem dropWhile_le {T : Type} (p : T → Bool) : ∀ l : List T, (l.dropWhile p).length ≤ l.length
  | [] => Nat.le_refl _
  | x :: l => by
    rw [List.dropWhile_cons]
    split
    · have := dropWhile_le p l; simp only [List.length_cons]; omega
    · exact Nat.le_refl _
theorem violGo_fuel : ∀ (f f' : Nat) (g : List Kd), g.length ≤ f → g.length ≤ f' → violGo f g = violGo f' g
  | 0, f', g, h, _ => by
    have : g = [] := List.eq_nil_of_length_eq_zero (by omega)
    subst this
    cases f' <;> rfl
  | f + 1, 0, g, _, h => by
    have : g = [] := List.eq_nil_of_length_eq_zero (by omega)
    subst this; rfl
  | f + 1, f' + 1, [], _, _ => rfl
  | f + 1, f' + 1, k :: r, h, h' => by
    have := dropWhile_le (sameK k) r
    simp only [List.length_cons] at h h'
    rw [violGo, violGo, violGo_fuel f f' _ (by omega) (by omega)]
theorem violL_cons (k : Kd) (r : List Kd) : violL (k :: r) = (if 2 ≤ (k :: r.takeWhile (sameK k)).length then confl (k :: r.takeWhile (sameK k)) else []) ++ violL (r.dropWhile (sameK k)) := by
  unfold violL
  have := dropWhile_le (sameK k) r
  rw [List.length_cons, violGo, violGo_fuel r.length _ _ this (Nat.le_refl _)]
theorem confGo_len : ∀ (ps : List Int) (act rest : List Kd) (out : List Vio), (confGo ps act rest out).length ≤ out.length + ps.length
  | [], _, _, out => by simp [confGo]
  | [x], _, _, out => by simp [confGo]
  | f :: t :: ps, act, rest, out => by
    rw [confGo]
    have h := confGo_len (t :: ps) (stepA f act rest) (stepR f rest) (if 2 ≤ (stepA f act rest).length then extV out ⟨⟨f, t⟩, mergedL (stepA f act rest)⟩ else out)
    have h2 : (if 2 ≤ (stepA f act rest).length then extV out ⟨⟨f, t⟩, mergedL (stepA f act rest)⟩ else out).length ≤ out.length + 1 := by
      split
      · exact extV_len _ _
      · omega
    simp only [List.length_cons] at h ⊢
    omega
theorem confl_len (g : List Kd) : (confl g).length ≤ 2 * g.length := by
  have h := confGo_len (points g) [] g []
  have b1 := compact_len (sortI (ends g))
  rw [sortI_len, ends_len] at b1
  have : (points g).length ≤ 2 * g.length := b1
  unfold confl
  simp only [List.length_nil] at h
  omega
def tlins (l : List Tup) : List Int := l.flatMap fun t => t.lin
theorem lins_byKey : ∀ (l : List Tup) (cols : List Int), (lins (byKeyL l cols)).length ≤ (tlins l).length
  | [], _ => by simp [lins, byKeyL, tlins]
  | t :: l, cols => by
    have ih := lins_byKey l cols
    simp only [lins, byKeyL, tlins, List.filter_cons, List.flatMap_cons, List.length_append] at *
    split
    · simp only [List.map_cons, List.flatMap_cons, List.length_append]; omega
    · omega
theorem lins_perm {a b : List Kd} (h : a.Perm b) : (lins a).length = (lins b).length := (h.flatMap_right _).length_eq
def an16 : Ann where
  res := fun _ => none
  lend := fun | 28 => true | _ => false
  sch := fun | 5 => (tk [0, 1, 2, 3, 4, 5, 6, 7, 8, 9, 10, 11, 12, 13] (.alt 14 (tk [15, 16] .done) .fin)) | _ => .done
  lt := fun | 3 => [.slot 5 false [.row 45 44], .slot 6 false [.sl]] | 5 => [.slot 7 false [.int .i64]] | _ => []
  tup := tups

theorem vc16 (P : Program) (H : Heap) (lA : Option Addr) (lN lC : Nat) (colsA : Option Addr) (colsN colsC : Nat) (post : Option Addr → Nat → Nat → Heap → Prop) :
  vcFn P tab an16 Try.f16 [.slice lA lN lC, .slice colsA colsN colsC] 1 H ⟨false, [(false, [.sl])]⟩ post =
  (  ∃ (post0 : Option Addr → Nat → Nat → Heap → Prop), ConT P 31 [.slice lA lN lC, .slice colsA colsN colsC] H ⟨false, [(false, [.sl])]⟩ post0 ∧ ∀ (H1 : Heap), Heap.le H H1 → ∀ (A3 : Option
  Addr) (n4 c5 : Nat), post0 A3 n4 c5 H1 → ∃ (inv7 : Nat → List Value → Option Addr → Nat → Nat → Heap → Prop), ∃ (m8 : Nat → List Value → Option Addr → Nat → Nat → Nat), inv7 0 [] A3 n4 c5
  H1 ∧ ∀ (H9 : Heap), Heap.le H1 H9 → ∀ (n11 : Nat) (xs12 : List Value) (A13 : Option Addr) (n14 c15 : Nat), inv7 n11 xs12 A13 n14 c15 H9 → (decide ((0 : Int) < (↑n14 : Int)) = true → ∃
  (inv18 : Int → Heap → Prop), ∃ (m19 : Int → Nat), inv18 (1 : Int) H9 ∧ ∀ (H20 : Heap), Heap.le H9 H20 → ∀ (n22 : Int), inv18 n22 H20 → (decide (n22 < (↑n14 : Int)) = true → someA A13 ∧ (0 :
  Int) ≤ n22 ∧ n22 < (↑n14 : Int) ∧ ∃ (A25 : Option Addr), ∃ (n26 : Nat), ∃ (c27 : Nat), Cells H20 A13 (Int.toNat n22 * 5 + 0) [.slice A25 n26 c27] ∧ someA A13 ∧ (0 : Int) ≤ (0 : Int) ∧ (0 :
  Int) < (↑n14 : Int) ∧ ∃ (A28 : Option Addr), ∃ (n29 : Nat), ∃ (c30 : Nat), Cells H20 A13 (Int.toNat (0 : Int) * 5 + 0) [.slice A28 n29 c30] ∧ ∃ (post31 : Int → Heap → Prop), ConT P 32
  [.slice A25 n26 c27, .slice A28 n29 c30] H20 ⟨false, [(false, [.int .i64])]⟩ post31 ∧ ∀ (H32 : Heap), Heap.le H20 H32 → ∀ (n34 : Int), post31 n34 H32 → (decide (n34 = (0 : Int)) = true →
  rng .i64 (n22 + (1 : Int)) ∧ inv18 (n22 + (1 : Int)) H32 ∧ m19 (n22 + (1 : Int)) < m19 n22) ∧ (decide (n34 = (0 : Int)) = false → (decide ((2 : Int) ≤ n22) = true → (0 : Int) ≤ (0 : Int) ∧
  (0 : Int) ≤ n22 ∧ n22 ≤ (↑c15 : Int) ∧ ∀ (A39 : Option Addr), A39 = subA A13 c15 (Int.toNat (0 : Int)) 5 → ∃ (post41 : Option Addr → Nat → Nat → Heap → Prop), ConT P 33 [.slice A39
  (Int.toNat n22 - Int.toNat (0 : Int)) (c15 - Int.toNat (0 : Int))] H32 ⟨false, [(false, [.sl])]⟩ post41 ∧ ∀ (H42 : Heap), Heap.le H32 H42 → ∀ (A44 : Option Addr) (n45 c46 : Nat), post41 A44
  n45 c46 H42 → ∃ (ys48 : List Value), Cells H42 A44 0 ys48 ∧ List.length ys48 = n45 * 3 ∧ (n11 + n45) * 40 ≤ 140737488355328 ∧ (0 : Int) ≤ n22 ∧ n22 ≤ (↑n14 : Int) ∧ (↑n14 : Int) ≤ (↑c15 :
  Int) ∧ ∀ (A49 : Option Addr), A49 = subA A13 c15 (Int.toNat n22) 5 → inv7 (n11 + n45) (xs12 ++ ys48) A49 (Int.toNat (↑n14 : Int) - Int.toNat n22) (c15 - Int.toNat n22) H42 ∧ m8 (n11 + n45)
  (xs12 ++ ys48) A49 (Int.toNat (↑n14 : Int) - Int.toNat n22) (c15 - Int.toNat n22) < m8 n11 xs12 A13 n14 c15) ∧ (decide ((2 : Int) ≤ n22) = false → (0 : Int) ≤ n22 ∧ n22 ≤ (↑n14 : Int) ∧
  (↑n14 : Int) ≤ (↑c15 : Int) ∧ ∀ (A52 : Option Addr), A52 = subA A13 c15 (Int.toNat n22) 5 → inv7 n11 xs12 A52 (Int.toNat (↑n14 : Int) - Int.toNat n22) (c15 - Int.toNat n22) H32 ∧ m8 n11
  xs12 A52 (Int.toNat (↑n14 : Int) - Int.toNat n22) (c15 - Int.toNat n22) < m8 n11 xs12 A13 n14 c15))) ∧ (decide (n22 < (↑n14 : Int)) = false → (decide ((2 : Int) ≤ n22) = true → (0 : Int) ≤
  (0 : Int) ∧ (0 : Int) ≤ n22 ∧ n22 ≤ (↑c15 : Int) ∧ ∀ (A56 : Option Addr), A56 = subA A13 c15 (Int.toNat (0 : Int)) 5 → ∃ (post58 : Option Addr → Nat → Nat → Heap → Prop), ConT P 33 [.slice
  A56 (Int.toNat n22 - Int.toNat (0 : Int)) (c15 - Int.toNat (0 : Int))] H20 ⟨false, [(false, [.sl])]⟩ post58 ∧ ∀ (H59 : Heap), Heap.le H20 H59 → ∀ (A61 : Option Addr) (n62 c63 : Nat), post58
  A61 n62 c63 H59 → ∃ (ys65 : List Value), Cells H59 A61 0 ys65 ∧ List.length ys65 = n62 * 3 ∧ (n11 + n62) * 40 ≤ 140737488355328 ∧ (0 : Int) ≤ n22 ∧ n22 ≤ (↑n14 : Int) ∧ (↑n14 : Int) ≤ (↑c15
  : Int) ∧ ∀ (A66 : Option Addr), A66 = subA A13 c15 (Int.toNat n22) 5 → inv7 (n11 + n62) (xs12 ++ ys65) A66 (Int.toNat (↑n14 : Int) - Int.toNat n22) (c15 - Int.toNat n22) H59 ∧ m8 (n11 +
  n62) (xs12 ++ ys65) A66 (Int.toNat (↑n14 : Int) - Int.toNat n22) (c15 - Int.toNat n22) < m8 n11 xs12 A13 n14 c15) ∧ (decide ((2 : Int) ≤ n22) = false → (0 : Int) ≤ n22 ∧ n22 ≤ (↑n14 : Int)
  ∧ (↑n14 : Int) ≤ (↑c15 : Int) ∧ ∀ (A69 : Option Addr), A69 = subA A13 c15 (Int.toNat n22) 5 → inv7 n11 xs12 A69 (Int.toNat (↑n14 : Int) - Int.toNat n22) (c15 - Int.toNat n22) H20 ∧ m8 n11
  xs12 A69 (Int.toNat (↑n14 : Int) - Int.toNat n22) (c15 - Int.toNat n22) < m8 n11 xs12 A13 n14 c15))) ∧ (decide ((0 : Int) < (↑n14 : Int)) = false → ∀ (A72 : Option Addr) (c73 : Nat) (H74 :
  Heap), Heap.le H9 H74 → Cells H74 A72 0 xs12 → n11 ≤ c73 → post A72 n11 c73 H74)) := by kernel_rfl
set_option maxHeartbeats 2000000 in
theorem keys_Violations {H : Heap} {A B : Option Addr} {n c m d : Nat} {l : List Tup} {cols : List Int} (hs : Sl H A n c l) (ht : Sl H B m d cols) (hb : m * 32 ≤ 140737488355328) (hn : n < 20) (hlin : (tlins l).length * 8 ≤ 140737488355328) :
    ConT Try.prog 16 [.slice A n c, .slice B m d] H shS (fun A' n' c' H' => ∃ g : List Kd, g.Perm (byKeyL l cols) ∧ g.Pairwise (fun a b => ¬ cmpKd b a < 0) ∧ Sl H' A' n' c' (violL g)) := by
  refine con_of_vc (an := an16) (fn := Try.f16) mix tabOK Try.func16 (by kernel_rfl) (extra := 1) ?_
  rw [vc16]
  refine ⟨_, keys_byKey hs ht hb hn, ?_⟩
  rintro H1 l1 A3 n4 c5 ⟨g, hg, hgp, hgo⟩
  have hgl := hg.len
  have hgn : g.length ≤ n := by rw [hgp.length_eq, ← hs.len]; exact byKeyL_len _ _
  have hgb : (lins g).length * 8 ≤ 140737488355328 := by have := lins_perm hgp; have := lins_byKey l cols; omega
  refine ⟨fun k xs A n' c H' => ∃ (out : List Vio) (rest : List Kd), Row H' xs out ∧ out.length = k ∧ Sl H' A n' c rest ∧ rest.Sublist g ∧ out.length + 2 * rest.length ≤ 2 * g.length ∧ violL g = out ++ violL rest,
    fun _ _ _ n' _ => n', ⟨[], g, rfl, rfl, hg, List.Sublist.refl _, by simp, by simp⟩, ?_⟩
  rintro H9 l9 k xs A13 n14 c15 ⟨out, rest, ho, hol, hr, hsub, hbd, he⟩
  have hrl := hr.len; have hrc := hr.cap
  refine ⟨fun hlt => ?_, fun hge => ?_⟩
  · have hlt := of_decide_eq_true hlt
    obtain ⟨k0, r, rfl⟩ : ∃ k0 r, rest = k0 :: r := by
      cases rest with
      | nil => simp at hrl; omega
      | cons k0 r => exact ⟨k0, r, rfl⟩
    simp only [List.length_cons] at hrl hbd
    rw [violL_cons] at he
    refine ⟨fun j _ => 1 ≤ j ∧ j ≤ n14 ∧ r.takeWhile (sameK k0) = r.take (j.toNat - 1) ++ (r.drop (j.toNat - 1)).takeWhile (sameK k0) ∧ r.dropWhile (sameK k0) = (r.drop (j.toNat - 1)).dropWhile (sameK k0),
      fun j => n14 - j.toNat, ⟨by omega, by omega, by simp, by simp⟩, ?_⟩
    rintro H20 l20 j ⟨j1, jn, hT, hD⟩
    have hr20 := hr.mono l20
    have tail : ∀ {H32 : Heap}, Heap.le H20 H32 → r.takeWhile (sameK k0) = r.take (j.toNat - 1) → r.dropWhile (sameK k0) = r.drop (j.toNat - 1) →
        (decide ((2) ≤ j) = true → (0 : Int) ≤ (0) ∧ (0) ≤ j ∧ j ≤ (↑c15) ∧ ∀ (A39 : Option Addr), A39 = subA A13 c15 (Int.toNat (0)) (5) → ∃ (post41 : Option Addr → Nat → Nat → Heap → Prop), ConT Try.prog 33 [.slice A39 (Int.toNat j - Int.toNat (0)) (c15 - Int.toNat (0))] H32 shS post41 ∧ ∀ (H42 : Heap), Heap.le H32 H42 → ∀ (A44 : Option Addr) (n45 c46 : Nat), post41 A44 n45 c46 H42 → ∃ (ys48 : List Value), Cells H42 A44 (0) ys48 ∧ List.length ys48 = n45 * (3) ∧ (k + n45) * (40) ≤ (140737488355328) ∧ (0) ≤ j ∧ j ≤ (↑n14) ∧ ((n14 : Nat) : Int) ≤ (↑c15) ∧ ∀ (A49 : Option Addr), A49 = subA A13 c15 (Int.toNat j) (5) →
          (∃ (out : List Vio) (rest : List Kd), Row H42 (xs ++ ys48) out ∧ out.length = k + n45 ∧ Sl H42 A49 (Int.toNat (↑n14) - Int.toNat j) (c15 - Int.toNat j) rest ∧ rest.Sublist g ∧ out.length + 2 * rest.length ≤ 2 * g.length ∧ violL g = out ++ violL rest) ∧ (Int.toNat (↑n14) - Int.toNat j) < n14) ∧
        (decide ((2) ≤ j) = false → (0 : Int) ≤ j ∧ j ≤ (↑n14) ∧ ((n14 : Nat) : Int) ≤ (↑c15) ∧ ∀ (A52 : Option Addr), A52 = subA A13 c15 (Int.toNat j) (5) →
          (∃ (out : List Vio) (rest : List Kd), Row H32 xs out ∧ out.length = k ∧ Sl H32 A52 (Int.toNat (↑n14) - Int.toNat j) (c15 - Int.toNat j) rest ∧ rest.Sublist g ∧ out.length + 2 * rest.length ≤ 2 * g.length ∧ violL g = out ++ violL rest) ∧ (Int.toNat (↑n14) - Int.toNat j) < n14) := by
      intro H32 l32 e1 e2
      have hr32 := hr20.mono l32
      have hsubd : ((k0 :: r).drop j.toNat).Sublist g := (List.drop_sublist _ _).trans hsub
      have hdr : (k0 :: r).drop j.toNat = r.drop (j.toNat - 1) := by
        rw [show j.toNat = (j.toNat - 1) + 1 by omega, List.drop_succ_cons, Nat.add_sub_cancel]
      have htk : (k0 :: r).take j.toNat = k0 :: r.take (j.toNat - 1) := by
        rw [show j.toNat = (j.toNat - 1) + 1 by omega, List.take_succ_cons, Nat.add_sub_cancel]
      rw [e1, e2] at he
      have hgl2 : (k0 :: r.take (j.toNat - 1)).length = j.toNat := by simp only [List.length_cons, List.length_take]; omega
      refine ⟨fun h2 => ?_, fun h2 => ?_⟩
      · have h2 := of_decide_eq_true h2
        rw [if_pos (by omega)] at he
        refine ⟨by omega, by omega, by omega, ?_⟩
        rintro A39 rfl
        have hgrp : Sl H32 (subA A13 c15 (Int.toNat 0) 5) (Int.toNat j - Int.toNat 0) (c15 - Int.toNat 0) (k0 :: r.take (j.toNat - 1)) := by
          have := (hr32.take (k := j.toNat) (by omega)).drop (k := 0) (by omega)
          rw [htk, List.drop_zero] at this
          exact this
        refine ⟨_, keys_conflicts hgrp (by have := lins_sub ((List.take_sublist j.toNat (k0 :: r)).trans hsub); rw [htk] at this; omega), ?_⟩
        intro H42 l42 A44 n45 c46 hcf
        obtain ⟨ys, y1, y2⟩ := hcf.row
        have hcl := confl_len (k0 :: r.take (j.toNat - 1))
        rw [hcf.len, hgl2] at hcl
        refine ⟨ys, y1, by rw [y2.length, hcf.len]; rfl, by omega, by omega, by omega, by omega, ?_⟩
        rintro A49 rfl
        refine ⟨⟨out ++ confl (k0 :: r.take (j.toNat - 1)), (k0 :: r).drop j.toNat, (ho.mono (hle_trans l20 (hle_trans l32 l42))).append y2, by rw [List.length_append, hcf.len, hol], ?_, hsubd, ?_, ?_⟩, by omega⟩
        · exact (hr32.mono l42).drop (k := j.toNat) (by omega)
        · rw [List.length_append, hcf.len, List.length_drop, List.length_cons]; omega
        · rw [he, hdr, List.append_assoc]
      · have h2 := of_decide_eq_false h2
        rw [if_neg (by omega), List.nil_append] at he
        refine ⟨by omega, by omega, by omega, ?_⟩
        rintro A49 rfl
        refine ⟨⟨out, (k0 :: r).drop j.toNat, ho.mono (hle_trans l20 l32), hol, hr32.drop (k := j.toNat) (by omega), hsubd, ?_, ?_⟩, by omega⟩
        · rw [List.length_drop, List.length_cons]; omega
        · rw [he, hdr]
    refine ⟨fun hjl => ?_, fun hjl => ?_⟩
    · have hjl := of_decide_eq_true hjl
      obtain ⟨hj, hA, _, hc, ⟨E9, k9, e9, A9, n9, c9, B9, m9, d9, rfl, q, -⟩⟩ := hr20.at (hle_refl H20) (i := j) (by omega) hjl
      obtain ⟨h00, hA0, _, hc0, ⟨E8, k8, e8, A8, n8, c8, B8, m8, d8, rfl, q0, -⟩⟩ := hr20.at (hle_refl H20) (i := 0) (by omega) (by omega)
      have hjr : j.toNat - 1 < r.length := by omega
      have hkj : (k0 :: r)[j.toNat] = r[j.toNat - 1] := by
        rw [List.getElem_cons, dif_neg (by omega)]
      have hdr : r.drop (j.toNat - 1) = r[j.toNat - 1] :: r.drop (j.toNat - 1 + 1) := List.drop_eq_getElem_cons hjr
      rw [hdr] at hT hD
      rw [hkj] at q
      refine ⟨hA, by omega, hjl, _, _, _, hc.at1 (k := 0) rfl, hA0, by omega, by omega, _, _, _, hc0.at1 (k := 0) rfl, _, value_CompareRows q q0, ?_⟩
      rintro H32 l32 _ rfl
      refine ⟨fun hz => ?_, fun hz => ?_⟩
      · have hz := of_decide_eq_true hz
        have hz' : sameK k0 r[j.toNat - 1] = true := by
          simp only [sameK, decide_eq_true_eq]; exact hz
        rw [List.takeWhile_cons, if_pos hz'] at hT
        rw [List.dropWhile_cons, if_pos hz'] at hD
        have e3 : (j + 1).toNat - 1 = j.toNat - 1 + 1 := by omega
        refine ⟨by simp only [rng]; have := hr.bn; omega, ⟨by omega, by omega, ?_, ?_⟩, by dsimp only; omega⟩
        · rw [e3, List.take_succ_eq_append_getElem hjr, List.append_assoc]; exact hT
        · rw [e3, hD]
      · have hz := of_decide_eq_false hz
        have hz' : ¬ sameK k0 r[j.toNat - 1] = true := by
          simp only [sameK, decide_eq_true_eq]; exact hz
        rw [List.takeWhile_cons, if_neg hz', List.append_nil] at hT
        rw [List.dropWhile_cons, if_neg hz', ← hdr] at hD
        exact tail l32 hT hD
    · have hjl := of_decide_eq_false hjl
      have hdr : r.drop (j.toNat - 1) = [] := List.drop_eq_nil_of_le (by omega)
      rw [hdr] at hT hD
      simp only [List.takeWhile_nil, List.append_nil, List.dropWhile_nil] at hT hD
      rw [← hdr] at hD
      exact tail (hle_refl H20) hT hD
  · have hge := of_decide_eq_false hge
    have : rest = [] := List.eq_nil_of_length_eq_zero (by omega)
    subst this
    intro A5 c6 H6 l6 hc6 hn6
    rw [show violL [] = [] from rfl, List.append_nil] at he
    refine ⟨g, hgp, hgo, ?_⟩
    rw [he]
    exact ho.sl l6 hc6 hol hn6 (by show k * 40 ≤ _; omega) (by omega)
def an17 : Ann where
  res := fun _ => none
  lend := fun _ => false
  sch := fun _ => .done
  lt := fun _ => []
  tup := tups

theorem vc17 (P : Program) (H : Heap) (lA : Option Addr) (lN lC : Nat) (colsA : Option Addr) (colsN colsC : Nat) (post : Bool → Heap → Prop) :
  vcFn P tab an17 Try.f17 [.slice lA lN lC, .slice colsA colsN colsC] 0 H ⟨false, [(false, [.bool])]⟩ post =
  (  ∃ (post0 : Option Addr → Nat → Nat → Heap → Prop), ConT P 16 [.slice lA lN lC, .slice colsA colsN colsC] H ⟨false, [(false, [.sl])]⟩ post0 ∧ ∀ (H1 : Heap), Heap.le H H1 → ∀ (A3 : Option
  Addr) (n4 c5 : Nat), post0 A3 n4 c5 H1 → post (decide ((↑n4 : Int) = (0 : Int))) H1) := by kernel_rfl
theorem keys_Holds {H : Heap} {A B : Option Addr} {n c m d : Nat} {l : List Tup} {cols : List Int} (hs : Sl H A n c l) (ht : Sl H B m d cols) (hb : m * 32 ≤ 140737488355328) (hn : n < 20) (hlin : (tlins l).length * 8 ≤ 140737488355328) :
    ConT Try.prog 17 [.slice A n c, .slice B m d] H shB (fun r _ => ∃ g : List Kd, g.Perm (byKeyL l cols) ∧ g.Pairwise (fun a b => ¬ cmpKd b a < 0) ∧ r = decide ((violL g).length = 0)) := by
  refine con_of_vc (an := an17) (fn := Try.f17) mix tabOK Try.func17 (by kernel_rfl) (extra := 0) ?_
  rw [vc17]
  refine ⟨_, keys_Violations hs ht hb hn hlin, ?_⟩
  rintro H1 l1 A3 n4 c5 ⟨g, h1, h2, h3⟩
  refine ⟨g, h1, h2, ?_⟩
  rw [h3.len]
  exact decide_eq_decide.2 (by omega)
end Go.Vc
