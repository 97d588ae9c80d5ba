/- The program's intersection, and the laws' first part. -/
import Derived.Test.YticbeaepmnobnaaF3
set_option linter.unusedSectionVars false
set_option linter.unusedSimpArgs false
set_option linter.unusedVariables false
namespace Go.Vc
open Go Go.Proofs Go.Shelf
section
variable {H : Heap} {A B : Option Addr} {n c m d : Nat} {l k : List Per}
theorem Sl.tail {T : Type} [Rep T] {H : Heap} {A : Option Addr} {n c : Nat} {x : T} {r : List T} (h : Sl H A n c (x :: r)) : Sl H (subA A c 1 (Rep.sz T)) (n - 1) (c - 1) r := by
  have := h.len
  simp only [List.length_cons] at this
  exact h.drop (k := 1) (by omega)
theorem Sl.pos {T : Type} [Rep T] {H : Heap} {A : Option Addr} {n c : Nat} {l : List T} (h : Sl H A n c l) (hn : (0 : Int) < n) : ∃ x r, l = x :: r := by
  cases l with
  | nil => have := h.len; simp at this; omega
  | cons x r => exact ⟨x, r, rfl⟩
def an19 : Ann where
  res := fun _ => none
  lend := fun _ => false
  sch := fun | 4 => (tk [0, 1, 2, 3, 4, 5] (.alt 6 (tk [7, 8, 9] (.alt 10 (.alt 11 (tk [12] .done) .fin) .fin)) (.alt 10 (.alt 6 (tk [7, 8, 9] (.alt 11 (tk [12] .done) .fin)) .fin) .fin))) | 7 => (tk [0, 1, 2, 3, 4, 5, 6, 7, 8] .done) | _ => .done
  lt := fun | 3 => [.slot 0 false [.sl], .slot 1 false [.sl], .slot 5 false [.row 50 30]] | _ => []
  tup := tups

theorem vc19 (P : Program) (H : Heap) (aA : Option Addr) (aN aC : Nat) (bA : Option Addr) (bN bC : Nat) (post : Option Addr → Nat → Nat → Heap → Prop) :
  vcFn P tab an19 Try.f19 [.slice aA aN aC, .slice bA bN bC] 1 H ⟨false, [(false, [.sl])]⟩ post =
  (  ∃ (post0 : Option Addr → Nat → Nat → Heap → Prop), ConT P 14 [.slice aA aN aC] H ⟨false, [(false, [.sl])]⟩ post0 ∧ ∀ (H1 : Heap), Heap.le H H1 → ∀ (A3 : Option Addr) (n4 c5 : Nat), post0 A3
  n4 c5 H1 → ∃ (post7 : Option Addr → Nat → Nat → Heap → Prop), ConT P 14 [.slice bA bN bC] H1 ⟨false, [(false, [.sl])]⟩ post7 ∧ ∀ (H8 : Heap), Heap.le H1 H8 → ∀ (A10 : Option Addr) (n11 c12
  : Nat), post7 A10 n11 c12 H8 → ∃ (inv14 : Option Addr → Nat → Nat → Option Addr → Nat → Nat → Nat → List Value → Heap → Prop), ∃ (m15 : Option Addr → Nat → Nat → Option Addr → Nat → Nat →
  Nat → List Value → Nat), inv14 A3 n4 c5 A10 n11 c12 0 [] H8 ∧ ∀ (H16 : Heap), Heap.le H8 H16 → ∀ (A18 : Option Addr) (n19 c20 : Nat) (A21 : Option Addr) (n22 c23 n24 : Nat) (xs25 : List
  Value), inv14 A18 n19 c20 A21 n22 c23 n24 xs25 H16 → (decide ((0 : Int) < (↑n19 : Int)) = true → (decide ((0 : Int) < (↑n22 : Int)) = true → someA A18 ∧ (0 : Int) ≤ (0 : Int) ∧ (0 : Int) <
  (↑n19 : Int) ∧ ∃ (n29 : Int), ∃ (n30 : Int), Cells H16 A18 (Int.toNat (0 : Int) * 2) [.int .i64 n29, .int .i64 n30] ∧ someA A21 ∧ (0 : Int) ≤ (0 : Int) ∧ (0 : Int) < (↑n22 : Int) ∧ ∃ (n31 :
  Int), ∃ (n32 : Int), Cells H16 A21 (Int.toNat (0 : Int) * 2) [.int .i64 n31, .int .i64 n32] ∧ (∃ (post33 : Int → Int → Bool → Heap → Prop), ConT P 33 [.agg ⟨[.int .i64 n29, .int .i64 n30]⟩,
  .agg ⟨[.int .i64 n31, .int .i64 n32]⟩] H16 ⟨true, [(true, [.int .i64, .int .i64]), (false, [.bool])]⟩ post33 ∧ ∀ (H34 : Heap), Heap.le H16 H34 → ∀ (n36 n37 : Int) (b38 : Bool), post33 n36
  n37 b38 H34 → (b38 = true → (n24 + 1) * 16 ≤ 140737488355328 ∧ someA A18 ∧ (0 : Int) ≤ (0 : Int) ∧ (0 : Int) < (↑n19 : Int) ∧ ∃ (n41 : Int), Cells H34 A18 (Int.toNat (0 : Int) * 2 + 1)
  [.int .i64 n41] ∧ someA A21 ∧ (0 : Int) ≤ (0 : Int) ∧ (0 : Int) < (↑n22 : Int) ∧ ∃ (n42 : Int), Cells H34 A21 (Int.toNat (0 : Int) * 2 + 1) [.int .i64 n42] ∧ (decide (n41 < n42) = true → (0
  : Int) ≤ (1 : Int) ∧ (1 : Int) ≤ (↑n19 : Int) ∧ (↑n19 : Int) ≤ (↑c20 : Int) ∧ ∀ (A44 : Option Addr), A44 = subA A18 c20 (Int.toNat (1 : Int)) 2 → inv14 A44 (Int.toNat (↑n19 : Int) -
  Int.toNat (1 : Int)) (c20 - Int.toNat (1 : Int)) A21 n22 c23 (n24 + 1) (xs25 ++ [.int .i64 n36, .int .i64 n37]) H34 ∧ m15 A44 (Int.toNat (↑n19 : Int) - Int.toNat (1 : Int)) (c20 - Int.toNat
  (1 : Int)) A21 n22 c23 (n24 + 1) (xs25 ++ [.int .i64 n36, .int .i64 n37]) < m15 A18 n19 c20 A21 n22 c23 n24 xs25) ∧ (decide (n41 < n42) = false → (0 : Int) ≤ (1 : Int) ∧ (1 : Int) ≤ (↑n22 :
  Int) ∧ (↑n22 : Int) ≤ (↑c23 : Int) ∧ ∀ (A47 : Option Addr), A47 = subA A21 c23 (Int.toNat (1 : Int)) 2 → inv14 A18 n19 c20 A47 (Int.toNat (↑n22 : Int) - Int.toNat (1 : Int)) (c23 -
  Int.toNat (1 : Int)) (n24 + 1) (xs25 ++ [.int .i64 n36, .int .i64 n37]) H34 ∧ m15 A18 n19 c20 A47 (Int.toNat (↑n22 : Int) - Int.toNat (1 : Int)) (c23 - Int.toNat (1 : Int)) (n24 + 1) (xs25
  ++ [.int .i64 n36, .int .i64 n37]) < m15 A18 n19 c20 A21 n22 c23 n24 xs25)) ∧ (b38 = false → someA A18 ∧ (0 : Int) ≤ (0 : Int) ∧ (0 : Int) < (↑n19 : Int) ∧ ∃ (n50 : Int), Cells H34 A18
  (Int.toNat (0 : Int) * 2 + 1) [.int .i64 n50] ∧ someA A21 ∧ (0 : Int) ≤ (0 : Int) ∧ (0 : Int) < (↑n22 : Int) ∧ ∃ (n51 : Int), Cells H34 A21 (Int.toNat (0 : Int) * 2 + 1) [.int .i64 n51] ∧
  (decide (n50 < n51) = true → (0 : Int) ≤ (1 : Int) ∧ (1 : Int) ≤ (↑n19 : Int) ∧ (↑n19 : Int) ≤ (↑c20 : Int) ∧ ∀ (A53 : Option Addr), A53 = subA A18 c20 (Int.toNat (1 : Int)) 2 → inv14 A53
  (Int.toNat (↑n19 : Int) - Int.toNat (1 : Int)) (c20 - Int.toNat (1 : Int)) A21 n22 c23 n24 xs25 H34 ∧ m15 A53 (Int.toNat (↑n19 : Int) - Int.toNat (1 : Int)) (c20 - Int.toNat (1 : Int)) A21
  n22 c23 n24 xs25 < m15 A18 n19 c20 A21 n22 c23 n24 xs25) ∧ (decide (n50 < n51) = false → (0 : Int) ≤ (1 : Int) ∧ (1 : Int) ≤ (↑n22 : Int) ∧ (↑n22 : Int) ≤ (↑c23 : Int) ∧ ∀ (A56 : Option
  Addr), A56 = subA A21 c23 (Int.toNat (1 : Int)) 2 → inv14 A18 n19 c20 A56 (Int.toNat (↑n22 : Int) - Int.toNat (1 : Int)) (c23 - Int.toNat (1 : Int)) n24 xs25 H34 ∧ m15 A18 n19 c20 A56
  (Int.toNat (↑n22 : Int) - Int.toNat (1 : Int)) (c23 - Int.toNat (1 : Int)) n24 xs25 < m15 A18 n19 c20 A21 n22 c23 n24 xs25))) ∧ ∃ (post58 : Int → Int → Bool → Heap → Prop), ConT P 33 [.agg
  ⟨[.int .i64 n29, .int .i64 n30]⟩, .agg ⟨[.int .i64 n31, .int .i64 n32]⟩] H16 ⟨true, [(true, [.int .i64, .int .i64]), (false, [.bool])]⟩ post58 ∧ ∀ (H59 : Heap), Heap.le H16 H59 → ∀ (n61 n62
  : Int) (b63 : Bool), post58 n61 n62 b63 H59 → (b63 = true → (n24 + 1) * 16 ≤ 140737488355328 ∧ someA A18 ∧ (0 : Int) ≤ (0 : Int) ∧ (0 : Int) < (↑n19 : Int) ∧ ∃ (n66 : Int), Cells H59 A18
  (Int.toNat (0 : Int) * 2 + 1) [.int .i64 n66] ∧ someA A21 ∧ (0 : Int) ≤ (0 : Int) ∧ (0 : Int) < (↑n22 : Int) ∧ ∃ (n67 : Int), Cells H59 A21 (Int.toNat (0 : Int) * 2 + 1) [.int .i64 n67] ∧
  (decide (n66 < n67) = true → (0 : Int) ≤ (1 : Int) ∧ (1 : Int) ≤ (↑n19 : Int) ∧ (↑n19 : Int) ≤ (↑c20 : Int) ∧ ∀ (A69 : Option Addr), A69 = subA A18 c20 (Int.toNat (1 : Int)) 2 → inv14 A69
  (Int.toNat (↑n19 : Int) - Int.toNat (1 : Int)) (c20 - Int.toNat (1 : Int)) A21 n22 c23 (n24 + 1) (xs25 ++ [.int .i64 n61, .int .i64 n62]) H59 ∧ m15 A69 (Int.toNat (↑n19 : Int) - Int.toNat
  (1 : Int)) (c20 - Int.toNat (1 : Int)) A21 n22 c23 (n24 + 1) (xs25 ++ [.int .i64 n61, .int .i64 n62]) < m15 A18 n19 c20 A21 n22 c23 n24 xs25) ∧ (decide (n66 < n67) = false → (0 : Int) ≤ (1
  : Int) ∧ (1 : Int) ≤ (↑n22 : Int) ∧ (↑n22 : Int) ≤ (↑c23 : Int) ∧ ∀ (A72 : Option Addr), A72 = subA A21 c23 (Int.toNat (1 : Int)) 2 → inv14 A18 n19 c20 A72 (Int.toNat (↑n22 : Int) -
  Int.toNat (1 : Int)) (c23 - Int.toNat (1 : Int)) (n24 + 1) (xs25 ++ [.int .i64 n61, .int .i64 n62]) H59 ∧ m15 A18 n19 c20 A72 (Int.toNat (↑n22 : Int) - Int.toNat (1 : Int)) (c23 - Int.toNat
  (1 : Int)) (n24 + 1) (xs25 ++ [.int .i64 n61, .int .i64 n62]) < m15 A18 n19 c20 A21 n22 c23 n24 xs25)) ∧ (b63 = false → someA A18 ∧ (0 : Int) ≤ (0 : Int) ∧ (0 : Int) < (↑n19 : Int) ∧ ∃ (n75
  : Int), Cells H59 A18 (Int.toNat (0 : Int) * 2 + 1) [.int .i64 n75] ∧ someA A21 ∧ (0 : Int) ≤ (0 : Int) ∧ (0 : Int) < (↑n22 : Int) ∧ ∃ (n76 : Int), Cells H59 A21 (Int.toNat (0 : Int) * 2 +
  1) [.int .i64 n76] ∧ (decide (n75 < n76) = true → (0 : Int) ≤ (1 : Int) ∧ (1 : Int) ≤ (↑n19 : Int) ∧ (↑n19 : Int) ≤ (↑c20 : Int) ∧ ∀ (A78 : Option Addr), A78 = subA A18 c20 (Int.toNat (1 :
  Int)) 2 → inv14 A78 (Int.toNat (↑n19 : Int) - Int.toNat (1 : Int)) (c20 - Int.toNat (1 : Int)) A21 n22 c23 n24 xs25 H59 ∧ m15 A78 (Int.toNat (↑n19 : Int) - Int.toNat (1 : Int)) (c20 -
  Int.toNat (1 : Int)) A21 n22 c23 n24 xs25 < m15 A18 n19 c20 A21 n22 c23 n24 xs25) ∧ (decide (n75 < n76) = false → (0 : Int) ≤ (1 : Int) ∧ (1 : Int) ≤ (↑n22 : Int) ∧ (↑n22 : Int) ≤ (↑c23 :
  Int) ∧ ∀ (A81 : Option Addr), A81 = subA A21 c23 (Int.toNat (1 : Int)) 2 → inv14 A18 n19 c20 A81 (Int.toNat (↑n22 : Int) - Int.toNat (1 : Int)) (c23 - Int.toNat (1 : Int)) n24 xs25 H59 ∧
  m15 A18 n19 c20 A81 (Int.toNat (↑n22 : Int) - Int.toNat (1 : Int)) (c23 - Int.toNat (1 : Int)) n24 xs25 < m15 A18 n19 c20 A21 n22 c23 n24 xs25))) ∧ (decide ((0 : Int) < (↑n22 : Int)) =
  false → ∀ (A84 : Option Addr) (c85 : Nat) (H86 : Heap), Heap.le H16 H86 → Cells H86 A84 0 xs25 → n24 ≤ c85 → ∃ (post90 : Option Addr → Nat → Nat → Heap → Prop), ConT P 14 [.slice A84 n24
  c85] H86 ⟨false, [(false, [.sl])]⟩ post90 ∧ ∀ (H91 : Heap), Heap.le H86 H91 → ∀ (A93 : Option Addr) (n94 c95 : Nat), post90 A93 n94 c95 H91 → post A93 n94 c95 H91)) ∧ (decide ((0 : Int) <
  (↑n19 : Int)) = false → ∀ (A98 : Option Addr) (c99 : Nat) (H100 : Heap), Heap.le H16 H100 → Cells H100 A98 0 xs25 → n24 ≤ c99 → ∃ (post104 : Option Addr → Nat → Nat → Heap → Prop), ConT P
  14 [.slice A98 n24 c99] H100 ⟨false, [(false, [.sl])]⟩ post104 ∧ ∀ (H105 : Heap), Heap.le H100 H105 → ∀ (A107 : Option Addr) (n108 c109 : Nat), post104 A107 n108 c109 H105 → post A107 n108
  c109 H105)) := by kernel_rfl
set_option maxHeartbeats 2000000 in
theorem periodset_Intersect (hs : Sl H A n c l) (ht : Sl H B m d k) : ConT Try.prog 19 [.slice A n c, .slice B m d] H shS (fun A' n' c' H' => Sl H' A' n' c' (isect l k)) := by
  refine con_of_vc (an := an19) (fn := Try.f19) mix tabOK Try.func19 (by kernel_rfl) (extra := 1) ?_
  rw [vc19]
  refine ⟨_, periodset_Normalize hs, ?_⟩
  intro H1 l1 A1 n1 c1 h1
  refine ⟨_, periodset_Normalize (ht.mono l1), ?_⟩
  intro H2 l2 A2 n2 c2 h2
  have h1 := h1.mono l2
  have hz := zipI2_isect l k
  have hzl := zipI2_length ((norm l).length + (norm k).length) (norm l) (norm k)
  have hb1 := nrm_len2 (norm_nrm l); have hb2 := nrm_len2 (norm_nrm k)
  have hok1 := nrmGo_ok (norm_nrm l); have hok2 := nrmGo_ok (norm_nrm k)
  generalize hZ : zipI2 ((norm l).length + (norm k).length) (norm l) (norm k) = Z at hz hzl
  have hmx : maxT = 1099511627776 := rfl
  refine ⟨fun A n c B m d u xs H' => ∃ a b out : List Per, Sl H' A n c a ∧ Sl H' B m d b ∧ (∀ p ∈ a, 0 ≤ p.lo ∧ p.lo < p.hi ∧ p.hi ≤ maxT) ∧ (∀ p ∈ b, 0 ≤ p.lo ∧ p.lo < p.hi ∧ p.hi ≤ maxT) ∧ Row H' xs out ∧ out.length = u ∧ Z = out ++ zipI2 (a.length + b.length) a b,
    fun _ n _ _ m _ _ _ => n + m, ⟨norm l, norm k, [], h1, h2, fun p hp => (hok1 p hp).2, fun p hp => (hok2 p hp).2, rfl, rfl, by rw [← hZ]; rfl⟩, ?_⟩
  rintro H3 l3 A3 n3 c3 B3 m3 d3 u xs ⟨a, b, out, ha, hb, hoka, hokb, hr, hu, he⟩
  have fin : ∀ {n3 : Nat} {m3 : Nat}, (n3 = 0 ∨ m3 = 0) → a.length = n3 → b.length = m3 → ∀ (A98 : Option Addr) (c99 : Nat) (H100 : Heap), Heap.le H3 H100 → Cells H100 A98 0 xs → u ≤ c99 → ∃ post104 : Option Addr → Nat → Nat → Heap → Prop, ConT Try.prog 14 [.slice A98 u c99] H100 shS post104 ∧
      ∀ H105 : Heap, Heap.le H100 H105 → ∀ (A107 : Option Addr) (n108 c109 : Nat), post104 A107 n108 c109 H105 → Sl H105 A107 n108 c109 (isect l k) := by
    intro n3 m3 h0 han hbm A4 c4 H4 l4 hc4 hu4
    have hZo : Z = out := by
      rw [he]
      rcases h0 with h0 | h0
      · rw [List.eq_nil_of_length_eq_zero (by omega : a.length = 0)]
        cases b.length <;> simp [zipI2]
      · rw [List.eq_nil_of_length_eq_zero (by omega : b.length = 0)]
        cases a with
        | nil => simp [zipI2]
        | cons x r => simp [zipI2]
    rw [hZo] at hz hzl
    refine ⟨_, periodset_Normalize (hr.sl l4 hc4 hu hu4 (by show u * 16 ≤ _; omega) (by omega)), ?_⟩
    intro H5 l5 A5 n5 c5 h5
    rw [hz] at h5
    exact h5
  refine ⟨fun hna => ⟨fun hmb => ?_, fun hmb => fin (.inr (by have := of_decide_eq_false hmb; omega)) ha.len hb.len⟩, fun hna => fin (.inl (by have := of_decide_eq_false hna; omega)) ha.len hb.len⟩
  have hna := of_decide_eq_true hna; have hmb := of_decide_eq_true hmb
  obtain ⟨p, a, rfl⟩ := ha.pos hna
  obtain ⟨q, b, rfl⟩ := hb.pos hmb
  have han := ha.len; have hbm := hb.len
  have hca := ha.cap; have hcb := hb.cap
  simp only [List.length_cons] at han hbm
  have hp := hoka p List.mem_cons_self; have hq := hokb q List.mem_cons_self
  obtain ⟨hi, hA, _, hc, ⟨rfl, r1, r2⟩⟩ := ha.at (hle_refl H3) (i := 0) (by omega) (by omega)
  obtain ⟨ji, jA, _, jc, ⟨rfl, q1, q2⟩⟩ := hb.at (hle_refl H3) (i := 0) (by omega) (by omega)
  simp only [Int.toNat_zero, List.getElem_cons_zero] at hc jc r1 r2 q1 q2
  rw [List.length_cons, List.length_cons, show a.length + 1 + (b.length + 1) = (a.length + b.length + 1) + 1 by omega, zipI2] at he
  have next : ∀ {H4 : Heap} {u4 : Nat} {xs4 : List Value} {out4 : List Per}, Heap.le H3 H4 → Row H4 xs4 out4 → out4.length = u4 → Z = out4 ++ (if p.hi < q.hi then zipI2 (a.length + b.length + 1) a (q :: b) else zipI2 (a.length + b.length + 1) (p :: a) b) →
      someA A3 ∧ (0 : Int) ≤ 0 ∧ (0 : Int) < n3 ∧ ∃ n41 : Int, Cells H4 A3 ((0 : Int).toNat * 2 + 1) [.int .i64 n41] ∧ someA B3 ∧ (0 : Int) ≤ 0 ∧ (0 : Int) < m3 ∧ ∃ n42 : Int, Cells H4 B3 ((0 : Int).toNat * 2 + 1) [.int .i64 n42] ∧
        (decide (n41 < n42) = true → (0 : Int) ≤ 1 ∧ (1 : Int) ≤ n3 ∧ (n3 : Int) ≤ c3 ∧ ∀ A44 : Option Addr, A44 = subA A3 c3 (1 : Int).toNat 2 →
          (∃ a b out : List Per, Sl H4 A44 ((n3 : Int).toNat - (1 : Int).toNat) (c3 - (1 : Int).toNat) a ∧ Sl H4 B3 m3 d3 b ∧ (∀ p ∈ a, 0 ≤ p.lo ∧ p.lo < p.hi ∧ p.hi ≤ maxT) ∧ (∀ p ∈ b, 0 ≤ p.lo ∧ p.lo < p.hi ∧ p.hi ≤ maxT) ∧ Row H4 xs4 out ∧ out.length = u4 ∧ Z = out ++ zipI2 (a.length + b.length) a b) ∧ ((n3 : Int).toNat - (1 : Int).toNat) + m3 < n3 + m3) ∧
        (decide (n41 < n42) = false → (0 : Int) ≤ 1 ∧ (1 : Int) ≤ m3 ∧ (m3 : Int) ≤ d3 ∧ ∀ A47 : Option Addr, A47 = subA B3 d3 (1 : Int).toNat 2 →
          (∃ a b out : List Per, Sl H4 A3 n3 c3 a ∧ Sl H4 A47 ((m3 : Int).toNat - (1 : Int).toNat) (d3 - (1 : Int).toNat) b ∧ (∀ p ∈ a, 0 ≤ p.lo ∧ p.lo < p.hi ∧ p.hi ≤ maxT) ∧ (∀ p ∈ b, 0 ≤ p.lo ∧ p.lo < p.hi ∧ p.hi ≤ maxT) ∧ Row H4 xs4 out ∧ out.length = u4 ∧ Z = out ++ zipI2 (a.length + b.length) a b) ∧ n3 + ((m3 : Int).toNat - (1 : Int).toNat) < n3 + m3) := by
    intro H4 u4 xs4 out4 l4 hr4 hu4 he4
    refine ⟨hA, by omega, by omega, p.hi, (hc.mono l4).at1 (k := 1) rfl, jA, by omega, by omega, q.hi, (jc.mono l4).at1 (k := 1) rfl, fun hlt => ?_, fun hge => ?_⟩
    · rw [if_pos (of_decide_eq_true hlt)] at he4
      refine ⟨by omega, by omega, by omega, ?_⟩
      rintro A44 rfl
      refine ⟨⟨a, q :: b, out4, (ha.mono l4).tail, hb.mono l4, fun x hx => hoka x (List.mem_cons_of_mem _ hx), hokb, hr4, hu4, by rw [he4, List.length_cons, Nat.add_assoc]⟩, by omega⟩
    · rw [if_neg (of_decide_eq_false hge)] at he4
      refine ⟨by omega, by omega, by omega, ?_⟩
      rintro A47 rfl
      refine ⟨⟨p :: a, b, out4, ha.mono l4, (hb.mono l4).tail, hoka, fun x hx => hokb x (List.mem_cons_of_mem _ hx), hr4, hu4, by rw [he4, List.length_cons]; congr 2; omega⟩, by omega⟩
  have hlen := congrArg List.length he
  refine ⟨hA, by omega, by omega, _, _, hc, jA, by omega, by omega, _, _, jc, ⟨_, period_Intersect, ?_⟩, _, period_Intersect, ?_⟩
  all_goals
    rintro H4 l4 x y e ⟨hb, ht, hf⟩
    refine ⟨fun h => ?_, fun h => ?_⟩
    · obtain ⟨rfl, rfl⟩ := ht h
      rw [h] at hb
      rw [if_pos hb.symm] at he hlen
      simp only [List.length_append, List.length_cons] at hlen
      exact ⟨by omega, next l4 ((hr.mono l4).append (row1 (perInt p q) (by simp only [rng, perInt]; omega) (by simp only [rng, perInt]; omega))) (by simp [hu]) (by rw [he]; simp)⟩
    · rw [h] at hb
      rw [if_neg (by rw [← hb]; simp)] at he
      exact next l4 (hr.mono l4) hu (by rw [he]; simp)
end
end Go.Vc
