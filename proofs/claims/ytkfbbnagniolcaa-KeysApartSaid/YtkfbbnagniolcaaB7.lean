/- The laws' data; the sanity check; the reference's key values. -/
import Derived.Test.YtkfbbnagniolcaaB6
set_option linter.unusedSectionVars false
set_option linter.unusedSimpArgs false
set_option linter.unusedVariables false
namespace Go.Vc
open Go Go.Proofs Go.Shelf
abbrev shV : RSh := ⟨false, [(true, [.int .i64, .int .i64, .str])]⟩
def txt (r : Int) : ByteArray := if r = 0 then ⟨#[]⟩ else if r = 1 then ⟨#[97]⟩ else ⟨#[98, 39]⟩
def lv0 (x : Int) : Val := if x.tmod 7 = 6 then val0 else ⟨1, x.tmod 3 - 1, ⟨#[]⟩⟩
def lv1 (x : Int) : Val := if x.tmod 7 = 6 then val0 else ⟨2, 0, txt (x.tmod 3)⟩
theorem tmod3 {x : Int} (h : 0 ≤ x) : x.tmod 3 = 0 ∨ x.tmod 3 = 1 ∨ x.tmod 3 = 2 := by
  have h1 := Int.tmod_eq_emod_of_nonneg h (b := 3)
  omega
def an68 : Ann where
  res := fun _ => none
  lend := fun _ => false
  sch := fun _ => .done
  lt := fun _ => []
  tup := tups

theorem vc68 (P : Program) (H : Heap) (n : Int) (post : Int → Int → ByteArray → Heap → Prop) :
  vcFn P tab an68 Try.f68 [.int .i64 n] 0 H ⟨false, [(true, [.int .i64, .int .i64, .str])]⟩ post =
  (  post (1 : Int) n ⟨⟨[]⟩⟩ H) := by kernel_rfl
theorem law0_IntValue {n : Int} {H : Heap} : ConT Try.prog 68 [.int .i64 n] H shV (fun k m s _ => k = 1 ∧ m = n ∧ s = ⟨#[]⟩) := by
  refine con_of_vc (an := an68) (fn := Try.f68) mix tabOK Try.func68 (by kernel_rfl) (extra := 0) ?_
  rw [vc68]
  exact ⟨rfl, rfl, rfl⟩
def an43 : Ann where
  res := fun _ => none
  lend := fun _ => false
  sch := fun _ => .done
  lt := fun _ => []
  tup := tups

theorem vc43 (P : Program) (H : Heap) (col : Int) (x : Int) (post : Int → Int → ByteArray → Heap → Prop) :
  vcFn P tab an43 Try.f43 [.int .i64 col, .int .u16 x] 0 H ⟨false, [(true, [.int .i64, .int .i64, .str])]⟩ post =
  (  (7 : Int) ≠ (0 : Int) ∧ (decide (Int.tmod x (7 : Int) = (6 : Int)) = true → post (0 : Int) (0 : Int) ⟨⟨[]⟩⟩ H) ∧ (decide (Int.tmod x (7 : Int) = (6 : Int)) = false → (2 : Int) ≠ (0 : Int) ∧
  (decide (Int.tmod col (2 : Int) = (0 : Int)) = true → (3 : Int) ≠ (0 : Int) ∧ ∃ (e3 : Int), IntKind.wrap IntKind.i64 (Int.tmod x (3 : Int)) = e3 ∧ rng .i64 (e3 - (1 : Int)) ∧ ∃ (post4 : Int
  → Int → ByteArray → Heap → Prop), ConT P 68 [.int .i64 (e3 - (1 : Int))] H ⟨false, [(true, [.int .i64, .int .i64, .str])]⟩ post4 ∧ ∀ (H5 : Heap), Heap.le H H5 → ∀ (n7 n8 : Int) (s9 :
  ByteArray), post4 n7 n8 s9 H5 → post n7 n8 s9 H5) ∧ (decide (Int.tmod col (2 : Int) = (0 : Int)) = false → (3 : Int) ≠ (0 : Int) ∧ (0 : Int) ≤ Int.tmod x (3 : Int) ∧ Int.tmod x (3 : Int) <
  (↑3 : Int) ∧ ∃ (s12 : ByteArray), win [.string ⟨⟨[]⟩⟩, .string { data := ⟨[(97 : UInt8)]⟩ }, .string { data := ⟨[(98 : UInt8), (39 : UInt8)]⟩ }] (Int.toNat (Int.tmod x (3 : Int)) * 1) 1 =
  [.string s12] ∧ post (2 : Int) (0 : Int) s12 H))) := by kernel_rfl
theorem law0_Value0 {x : Int} {H : Heap} (hx : 0 ≤ x) : ConT Try.prog 43 [.int .i64 0, .int .u16 x] H shV (fun k n s _ => (⟨k, n, s⟩ : Val) = lv0 x) := by
  refine con_of_vc (an := an43) (fn := Try.f43) mix tabOK Try.func43 (by kernel_rfl) (extra := 0) ?_
  rw [vc43]
  refine ⟨by decide, fun h => ?_, fun h => ⟨by decide, fun _ => ⟨by decide, ?_⟩, fun h => absurd h (by decide)⟩⟩
  · have h := of_decide_eq_true h
    simp [lv0, h, val0]
  · have h := of_decide_eq_false h
    rcases tmod3 hx with e | e | e <;> rw [e] <;> refine ⟨_, rfl, by decide, _, law0_IntValue, ?_⟩ <;> rintro H5 _ _ _ _ ⟨rfl, rfl, rfl⟩ <;> simp only [lv0, if_neg h, e] <;> rfl
theorem law0_Value1 {x : Int} {H : Heap} (hx : 0 ≤ x) : ConT Try.prog 43 [.int .i64 1, .int .u16 x] H shV (fun k n s _ => (⟨k, n, s⟩ : Val) = lv1 x) := by
  refine con_of_vc (an := an43) (fn := Try.f43) mix tabOK Try.func43 (by kernel_rfl) (extra := 0) ?_
  rw [vc43]
  refine ⟨by decide, fun h => ?_, fun h => ⟨by decide, fun h => absurd h (by decide), fun _ => ⟨by decide, ?_⟩⟩⟩
  · have h := of_decide_eq_true h
    simp [lv1, h, val0]
  · have h := of_decide_eq_false h
    rcases tmod3 hx with e | e | e <;> rw [e] <;> refine ⟨by decide, by decide, _, rfl, ?_⟩ <;> simp only [lv1, if_neg h, e] <;> rfl
theorem val_eta {k n : Int} {s : ByteArray} {v : Val} (h : (⟨k, n, s⟩ : Val) = v) : k = v.kind ∧ n = v.n ∧ s = v.s := by subst h; exact ⟨rfl, rfl, rfl⟩
theorem lv0_ok {x : Int} (hx : 0 ≤ x) : rng .i64 (lv0 x).kind ∧ rng .i64 (lv0 x).n ∧ str (lv0 x).s := by
  unfold lv0
  split
  · exact ⟨by decide, by decide, by unfold str val0; decide⟩
  · refine ⟨(by decide : rng .i64 1), ?_, (by unfold str; decide : str ⟨#[]⟩)⟩
    rcases tmod3 hx with e | e | e <;> simp only [e] <;> decide
theorem lv1_ok {x : Int} (hx : 0 ≤ x) : rng .i64 (lv1 x).kind ∧ rng .i64 (lv1 x).n ∧ str (lv1 x).s := by
  unfold lv1
  split
  · exact ⟨by decide, by decide, by unfold str val0; decide⟩
  · refine ⟨(by decide : rng .i64 2), (by decide : rng .i64 0), ?_⟩
    rcases tmod3 hx with e | e | e <;> simp only [e] <;> unfold str txt <;> decide
def an23 : Ann where
  res := fun _ => none
  lend := fun _ => false
  sch := fun _ => .done
  lt := fun _ => []
  tup := tups

theorem vc23 (P : Program) (H : Heap) (x : Int) (y : Int) (post : Option Addr → Nat → Nat → Heap → Prop) :
  vcFn P tab an23 Try.f23 [.int .u16 x, .int .u16 y] 0 H ⟨false, [(false, [.sl])]⟩ post =
  (  ∃ (post0 : Int → Int → ByteArray → Heap → Prop), ConT P 43 [.int .i64 (0 : Int), .int .u16 x] H ⟨false, [(true, [.int .i64, .int .i64, .str])]⟩ post0 ∧ ∀ (H1 : Heap), Heap.le H H1 → ∀ (n3
  n4 : Int) (s5 : ByteArray), post0 n3 n4 s5 H1 → ∃ (post7 : Int → Int → ByteArray → Heap → Prop), ConT P 43 [.int .i64 (1 : Int), .int .u16 y] H1 ⟨false, [(true, [.int .i64, .int .i64,
  .str])]⟩ post7 ∧ ∀ (H8 : Heap), Heap.le H1 H8 → ∀ (n10 n11 : Int) (s12 : ByteArray), post7 n10 n11 s12 H8 → ∀ (A14 : Option Addr) (c15 : Nat) (H16 : Heap), Heap.le H8 H16 → Cells H16 A14 0
  [.int .i64 n3, .int .i64 n4, .string s5, .int .i64 n10, .int .i64 n11, .string s12] → 2 ≤ c15 → post A14 2 c15 H16) := by kernel_rfl
theorem law0_Vals {x y : Int} {H : Heap} (hx : 0 ≤ x) (hy : 0 ≤ y) : ConT Try.prog 23 [.int .u16 x, .int .u16 y] H shS (fun A n c H' => Sl H' A n c [lv0 x, lv1 y]) := by
  refine con_of_vc (an := an23) (fn := Try.f23) mix tabOK Try.func23 (by kernel_rfl) (extra := 0) ?_
  rw [vc23]
  refine ⟨_, law0_Value0 hx, ?_⟩
  intro H1 l1 k n s h
  obtain ⟨rfl, rfl, rfl⟩ := val_eta h
  refine ⟨_, law0_Value1 hy, ?_⟩
  intro H2 l2 k n s h
  obtain ⟨rfl, rfl, rfl⟩ := val_eta h
  intro A c H3 l3 hc hn
  exact Row.sl (H := H3) (T := Val) (l := [lv0 x, lv1 y]) ⟨[_, _, _], [_, _, _], rfl, ⟨rfl, lv0_ok hx⟩, [_, _, _], [], rfl, ⟨rfl, lv1_ok hy⟩, rfl⟩ (hle_refl H3) hc rfl hn (by decide) (by decide)
def awA : Tup := ⟨[lv0 0, lv1 0], ⟨0, 5⟩, [1]⟩
def awB : Tup := ⟨[lv0 0, lv1 1], ⟨3, 9⟩, [2]⟩
theorem perm_two {T : Type} {x y : T} {g : List T} (h : g.Perm [x, y]) : g = [x, y] ∨ g = [y, x] := by
  match g, h.length_eq with
  | [u, v], _ =>
    have hu : u = x ∨ u = y := by have := h.subset (a := u) (by simp); simpa using this
    rcases hu with rfl | rfl
    · have := (List.perm_cons u).1 h
      have := List.perm_singleton.1 this
      left; rw [this]
    · have h2 : [u, v].Perm [u, x] := h.trans (List.Perm.swap _ _ _)
      have := (List.perm_cons u).1 h2
      have := List.perm_singleton.1 this
      right; rw [this]
theorem aw_sorted {g : List Kd} {cols : List Int} (h1 : g.Perm (byKeyL [awA, awB] cols)) (h2 : g.Pairwise (fun a b => ¬ cmpKd b a < 0)) (hc : cmpKd ⟨keyVals awA.vals cols, awA⟩ ⟨keyVals awB.vals cols, awB⟩ < 0) : g = byKeyL [awA, awB] cols := by
  have e : byKeyL [awA, awB] cols = [⟨keyVals awA.vals cols, awA⟩, ⟨keyVals awB.vals cols, awB⟩] := rfl
  rw [e] at h1 ⊢
  rcases perm_two h1 with rfl | rfl
  · rfl
  · simp only [List.pairwise_cons, List.mem_singleton] at h2
    exact absurd hc (h2.1 _ rfl)
theorem sortI_eq {l m : List Int} (hp : m.Perm l) (hs : m.Pairwise (fun a b => a ≤ b)) : sortI l = m := by
  have h1 := List.pairwise_mergeSort (le := fun x y : Int => decide (x ≤ y)) (fun a b c h1 h2 => by simp only [decide_eq_true_eq] at *; omega) (fun a b => by simp only [Bool.or_eq_true, decide_eq_true_eq]; omega) l
  refine List.Perm.eq_of_pairwise (le := fun a b : Int => a ≤ b) (fun a b _ _ h h' => by omega) (h1.imp fun h => by simpa using h) hs ?_
  exact (List.mergeSort_perm l _).trans hp.symm
theorem aw_viol0 : violL (byKeyL [awA, awB] [0]) = [⟨⟨3, 5⟩, [1, 2]⟩] := by
  have e : byKeyL [awA, awB] [0] = [⟨[lv0 0], awA⟩, ⟨[lv0 0], awB⟩] := by decide +kernel
  rw [e, violL_cons]
  have t1 : List.takeWhile (sameK ⟨[lv0 0], awA⟩) [⟨[lv0 0], awB⟩] = [⟨[lv0 0], awB⟩] := by decide +kernel
  have t2 : List.dropWhile (sameK ⟨[lv0 0], awA⟩) [⟨[lv0 0], awB⟩] = [] := by decide +kernel
  rw [t1, t2, if_pos (by decide)]
  have p1 : sortI (ends [⟨[lv0 0], awA⟩, ⟨[lv0 0], awB⟩]) = [0, 3, 5, 9] := sortI_eq (by decide +kernel) (by decide)
  have p2 : Lib.compact ([0, 3, 5, 9] : List Int) = [0, 3, 5, 9] := by decide +kernel
  have m1 : mergedL [⟨[lv0 0], awA⟩, ⟨[lv0 0], awB⟩] = [1, 2] := by
    unfold mergedL mergeLin
    rw [sortI_eq (m := [1, 2]) (by decide +kernel) (by decide)]
    decide +kernel
  have s0 : stepA 0 [] [⟨[lv0 0], awA⟩, ⟨[lv0 0], awB⟩] = [⟨[lv0 0], awA⟩] := by decide +kernel
  have r0 : stepR 0 [⟨[lv0 0], awA⟩, ⟨[lv0 0], awB⟩] = [⟨[lv0 0], awB⟩] := by decide +kernel
  have s1 : stepA 3 [⟨[lv0 0], awA⟩] [⟨[lv0 0], awB⟩] = [⟨[lv0 0], awA⟩, ⟨[lv0 0], awB⟩] := by decide +kernel
  have r1 : stepR 3 [⟨[lv0 0], awB⟩] = [] := by decide +kernel
  have s2 : stepA 5 [⟨[lv0 0], awA⟩, ⟨[lv0 0], awB⟩] [] = [⟨[lv0 0], awB⟩] := by decide +kernel
  have r2 : stepR 5 [] = [] := rfl
  unfold confl points
  rw [p1, p2, confGo, s0, r0, if_neg (by decide), confGo, s1, r1, if_pos (by decide), m1, confGo, s2, if_neg (by decide)]
  decide +kernel
theorem aw_viol1 : (violL (byKeyL [awA, awB] [0, 1])).length = 0 := by decide +kernel
def an9 : Ann where
  res := fun _ => none
  lend := fun | 41 => true | 49 => true | _ => false
  sch := fun _ => .done
  lt := fun _ => []
  tup := tups

theorem vc9 (P : Program) (H : Heap)  (post : Bool → Heap → Prop) :
  vcFn P tab an9 Try.f9 [] 0 H ⟨false, [(false, [.bool])]⟩ post =
  (  ∃ (post0 : Option Addr → Nat → Nat → Heap → Prop), ConT P 23 [.int .u16 (0 : Int), .int .u16 (0 : Int)] H ⟨false, [(false, [.sl])]⟩ post0 ∧ ∀ (H1 : Heap), Heap.le H H1 → ∀ (A3 : Option
  Addr) (n4 c5 : Nat), post0 A3 n4 c5 H1 → ∃ (post7 : Option Addr → Nat → Nat → Heap → Prop), ConT P 23 [.int .u16 (0 : Int), .int .u16 (1 : Int)] H1 ⟨false, [(false, [.sl])]⟩ post7 ∧ ∀ (H8 :
  Heap), Heap.le H1 H8 → ∀ (A10 : Option Addr) (n11 c12 : Nat), post7 A10 n11 c12 H8 → ∀ (A14 : Option Addr) (c15 : Nat) (H16 : Heap), Heap.le H8 H16 → Cells H16 A14 0 [.int .i64 (1 : Int)] →
  1 ≤ c15 → ∀ (A20 : Option Addr) (c21 : Nat) (H22 : Heap), Heap.le H16 H22 → Cells H22 A20 0 [.int .i64 (2 : Int)] → 1 ≤ c21 → ∀ (A26 : Option Addr) (c27 : Nat) (H28 : Heap), Heap.le H22 H28
  → Cells H28 A26 0 [.slice A3 n4 c5, .int .i64 (0 : Int), .int .i64 (5 : Int), .slice A14 1 c15, .slice A10 n11 c12, .int .i64 (3 : Int), .int .i64 (9 : Int), .slice A20 1 c21] → 2 ≤ c27 → ∀
  (A32 : Option Addr) (c33 : Nat) (H34 : Heap), Heap.le H28 H34 → Cells H34 A32 0 [.int .i64 (0 : Int)] → 1 ≤ c33 → ∃ (post38 : Option Addr → Nat → Nat → Heap → Prop), ConT P 16 [.slice A26 2
  c27, .slice A32 1 c33] H34 ⟨false, [(false, [.sl])]⟩ post38 ∧ ∀ (H39 : Heap), Heap.le H34 H39 → ∀ (A41 : Option Addr) (n42 c43 : Nat), post38 A41 n42 c43 H39 → (decide ((↑n42 : Int) = (1 :
  Int)) = true → someA A41 ∧ (0 : Int) ≤ (0 : Int) ∧ (0 : Int) < (↑n42 : Int) ∧ ∃ (n46 : Int), ∃ (n47 : Int), Cells H39 A41 (Int.toNat (0 : Int) * 3 + 0) [.int .i64 n46, .int .i64 n47] ∧
  ((decide (n46 = (3 : Int)) && decide (n47 = (5 : Int))) = true → someA A41 ∧ (0 : Int) ≤ (0 : Int) ∧ (0 : Int) < (↑n42 : Int) ∧ ∃ (A49 : Option Addr), ∃ (n50 : Nat), ∃ (c51 : Nat), Cells
  H39 A41 (Int.toNat (0 : Int) * 3 + 2) [.slice A49 n50 c51] ∧ (decide ((↑n50 : Int) = (2 : Int)) = true → ∃ (post53 : Bool → Heap → Prop), (∀ (A54 : Option Addr) (c55 : Nat) (H56 : Heap),
  Heap.le H39 H56 → Cells H56 A54 0 [.slice A3 n4 c5, .int .i64 (0 : Int), .int .i64 (5 : Int), .slice A14 1 c15, .slice A10 n11 c12, .int .i64 (3 : Int), .int .i64 (9 : Int), .slice A20 1
  c21] → 2 ≤ c55 → ∀ (A60 : Option Addr) (c61 : Nat) (H62 : Heap), Heap.le H56 H62 → Cells H62 A60 0 [.int .i64 (0 : Int)] → 1 ≤ c61 → ConT P 17 [.slice A54 2 c55, .slice A60 1 c61] H62
  ⟨false, [(false, [.bool])]⟩ post53) ∧ ∀ (H66 : Heap) (b67 : Bool), post53 b67 H66 → ((!b67) = true → ∃ (post70 : Bool → Heap → Prop), (∀ (A71 : Option Addr) (c72 : Nat) (H73 : Heap),
  Heap.le H39 H73 → Cells H73 A71 0 [.slice A3 n4 c5, .int .i64 (0 : Int), .int .i64 (5 : Int), .slice A14 1 c15, .slice A10 n11 c12, .int .i64 (3 : Int), .int .i64 (9 : Int), .slice A20 1
  c21] → 2 ≤ c72 → ∀ (A77 : Option Addr) (c78 : Nat) (H79 : Heap), Heap.le H73 H79 → Cells H79 A77 0 [.int .i64 (0 : Int), .int .i64 (1 : Int)] → 2 ≤ c78 → ConT P 17 [.slice A71 2 c72, .slice
  A77 2 c78] H79 ⟨false, [(false, [.bool])]⟩ post70) ∧ ∀ (H83 : Heap) (b84 : Bool), post70 b84 H83 → (b84 = true → ∀ (A87 : Option Addr) (c88 : Nat) (H89 : Heap), Heap.le H39 H89 → Cells H89
  A87 0 [.int .i64 (1 : Int), .int .i64 (7 : Int)] → 2 ≤ c88 → ∃ (post93 : Option Addr → Nat → Nat → Heap → Prop), ConT P 11 [.slice A3 n4 c5, .slice A87 2 c88] H89 ⟨false, [(false, [.sl])]⟩
  post93 ∧ ∀ (H94 : Heap), Heap.le H89 H94 → ∀ (A96 : Option Addr) (n97 c98 : Nat), post93 A96 n97 c98 H94 → post (decide ((↑n97 : Int) = (2 : Int))) H94) ∧ (b84 = false → post false H39)) ∧
  ((!b67) = false → post false H39)) ∧ (decide ((↑n50 : Int) = (2 : Int)) = false → post false H39)) ∧ ((decide (n46 = (3 : Int)) && decide (n47 = (5 : Int))) = false → post false H39)) ∧
  (decide ((↑n42 : Int) = (1 : Int)) = false → post false H39)) := by kernel_rfl
set_option maxHeartbeats 1000000 in
theorem law22_awake {H : Heap} : ConT Try.prog 9 [] H shB (fun r _ => r = true) := by
  refine con_of_vc (an := an9) (fn := Try.f9) mix tabOK Try.func9 (by kernel_rfl) (extra := 0) ?_
  rw [vc9]
  refine ⟨_, law0_Vals (x := 0) (y := 0) (by decide) (by decide), ?_⟩
  intro H1 l1 A3 n4 c5 h3
  refine ⟨_, law0_Vals (x := 0) (y := 1) (by decide) (by decide), ?_⟩
  intro H8 l8 A10 n11 c12 h10 A14 c15 H16 l16 hc14 hn14 A20 c21 H22 l22 hc20 hn20 A26 c27 H28 l28 hc26 hn26 A32 c33 H34 l34 hc32 hn32
  have s14 : Sl H16 A14 1 c15 [(1 : Int)] := Row.sl (H := H16) (T := Int) (l := [1]) ⟨[_], [], rfl, ⟨rfl, by decide⟩, rfl⟩ (hle_refl _) hc14 rfl hn14 (by decide) (by decide)
  have s20 : Sl H22 A20 1 c21 [(2 : Int)] := Row.sl (H := H22) (T := Int) (l := [2]) ⟨[_], [], rfl, ⟨rfl, by decide⟩, rfl⟩ (hle_refl _) hc20 rfl hn20 (by decide) (by decide)
  have tups : ∀ {H' : Heap} {A : Option Addr} {c : Nat}, Heap.le H22 H' → Cells H' A 0 [.slice A3 n4 c5, .int .i64 0, .int .i64 5, .slice A14 1 c15, .slice A10 n11 c12, .int .i64 3, .int .i64 9, .slice A20 1 c21] → 2 ≤ c → Sl H' A 2 c [awA, awB] := by
    intro H' A c hle hc hn
    have k1 : Rep.rel H' [Value.slice A3 n4 c5, .int .i64 0, .int .i64 5, .slice A14 1 c15] awA := ⟨_, _, _, _, _, _, rfl, h3.mono (hle_trans l8 (hle_trans l16 (hle_trans l22 hle))), by decide, by decide, s14.mono (hle_trans l22 hle)⟩
    have k2 : Rep.rel H' [Value.slice A10 n11 c12, .int .i64 3, .int .i64 9, .slice A20 1 c21] awB := ⟨_, _, _, _, _, _, rfl, h10.mono (hle_trans l16 (hle_trans l22 hle)), by decide, by decide, s20.mono hle⟩
    exact Row.sl (H := H') (T := Tup) (l := [awA, awB]) ⟨[_, _, _, _], [_, _, _, _], rfl, k1, [_, _, _, _], [], rfl, k2, rfl⟩ (hle_refl _) hc rfl hn (by decide) (by decide)
  have cols1 : ∀ {H' : Heap} {A : Option Addr} {c : Nat}, Cells H' A 0 [.int .i64 0] → 1 ≤ c → Sl H' A 1 c [(0 : Int)] := fun {H' A c} hc hn => Row.sl (H := H') (T := Int) (l := [0]) ⟨[_], [], rfl, ⟨rfl, by decide⟩, rfl⟩ (hle_refl _) hc rfl hn (by decide) (by decide)
  have cols2 : ∀ {H' : Heap} {A : Option Addr} {c : Nat} {x y : Int}, rng .i64 x → rng .i64 y → Cells H' A 0 [.int .i64 x, .int .i64 y] → 2 ≤ c → Sl H' A 2 c [x, y] := fun {H' A c x y} hx hy hc hn => Row.sl (H := H') (T := Int) (l := [x, y]) ⟨[_], [_], rfl, ⟨rfl, hx⟩, [_], [], rfl, ⟨rfl, hy⟩, rfl⟩ (hle_refl _) hc rfl hn (by decide) (by decide)
  have l2234 := hle_trans l28 l34
  refine ⟨_, keys_Violations ((tups l28 hc26 hn26).mono l34) (cols1 hc32 hn32) (by decide) (by decide) (by decide), ?_⟩
  rintro H39 l39 A41 n42 c43 ⟨g, g1, g2, g3⟩
  rw [aw_sorted g1 g2 (by decide +kernel), aw_viol0] at g3
  have hl := g3.len
  simp only [List.length_cons, List.length_nil] at hl
  subst hl
  obtain ⟨hi, hA, _, hc, ⟨A1, n1, c1, rfl, q1, q2, q3⟩⟩ := g3.at (hle_refl H39) (i := 0) (by omega) (by omega)
  have q3l := q3.len
  simp at q3l
  subst q3l
  have l2239 := hle_trans l2234 l39
  refine ⟨fun _ => ⟨hA, by omega, by omega, _, _, hc.at2 (k := 0) rfl rfl, fun _ => ⟨hA, by omega, by omega, _, _, _, hc.at1 (k := 2) rfl, fun _ => ⟨_, fun A54 c55 H56 l56 hc54 hn54 A60 c61 H62 l62 hc60 hn60 => keys_Holds ((tups (hle_trans l2239 l56) hc54 hn54).mono l62) (cols1 hc60 hn60) (by decide) (by decide) (by decide), ?_⟩, fun h => by simp at h⟩, fun h => by simp at h⟩, fun h => by simp at h⟩
  rintro H66 b ⟨g', w1, w2, rfl⟩
  rw [aw_sorted w1 w2 (by decide +kernel), aw_viol0]
  refine ⟨fun _ => ⟨_, fun A71 c72 H73 l73 hc71 hn71 A77 c78 H79 l79 hc77 hn77 => keys_Holds ((tups (hle_trans l2239 l73) hc71 hn71).mono l79) (cols2 (by decide) (by decide) hc77 hn77) (by decide) (by decide) (by decide), ?_⟩, fun h => by simp at h⟩
  rintro H83 b ⟨g', v1, v2, rfl⟩
  rw [aw_sorted v1 v2 (by decide +kernel), aw_viol1]
  refine ⟨fun _ => ?_, fun h => by simp at h⟩
  intro A87 c88 H89 l89 hc87 hn87
  refine ⟨_, keys_Values (h3.mono (hle_trans l8 (hle_trans l16 (hle_trans l22 (hle_trans l2239 l89))))) (cols2 (by decide) (by decide) hc87 hn87) (by decide), ?_⟩
  intro H94 l94 A96 n97 c98 h96
  have := h96.len
  simp only [keyVals, List.length_map, List.length_cons, List.length_nil] at this
  simp [← this]
end Go.Vc
