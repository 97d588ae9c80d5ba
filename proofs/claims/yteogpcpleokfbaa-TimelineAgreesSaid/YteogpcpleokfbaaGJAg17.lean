/- slices.BinarySearch at ints; splitting tuples. -/
import Derived.Test.YteogpcpleokfbaaGJAg15
import Derived.Test.YteogpcpleokfbaaGJAg16
import Derived.Test.YteogpcpleokfbaaGJAg13
import Derived.Test.YteogpcpleokfbaaGJAg7
set_option linter.unusedSectionVars false
set_option linter.unusedSimpArgs false
set_option linter.unusedVariables false
namespace Go.Vc
open Go Go.Proofs Go.Shelf
abbrev shIB : RSh := ⟨true, [(false, [.int .i64]), (false, [.bool])]⟩
def an79 : Ann where
  res := fun _ => none
  lend := fun _ => false
  sch := fun _ => .done
  lt := fun _ => []
  tup := tups

theorem vc79 (P : Program) (H : Heap) (x : Int) (post : Bool → Heap → Prop) :
  vcFn P tab an79 Try.f79 [.int .i64 x] 0 H ⟨false, [(false, [.bool])]⟩ post =
  (  post (!decide (x = x)) H) := by kernel_rfl
theorem slices_isNaN {x : Int} {H : Heap} : ConT Try.prog 79 [.int .i64 x] H shB (fun r _ => r = false) := by
  refine con_of_vc (an := an79) (fn := Try.f79) mix tabOK Try.func79 (by kernel_rfl) (extra := 0) ?_
  rw [vc79]
  simp
def an78 : Ann where
  res := fun _ => none
  lend := fun | 6 => true | 9 => true | _ => false
  sch := fun _ => .done
  lt := fun _ => []
  tup := tups

theorem vc78 (P : Program) (H : Heap) (x : Int) (y : Int) (post : Bool → Heap → Prop) :
  vcFn P tab an78 Try.f78 [.int .i64 x, .int .i64 y] 0 H ⟨false, [(false, [.bool])]⟩ post =
  (  ∃ (post0 : Bool → Heap → Prop), ConT P 73 [.int .i64 x] H ⟨false, [(false, [.bool])]⟩ post0 ∧ ∀ (H1 : Heap), Heap.le H H1 → ∀ (b3 : Bool), post0 b3 H1 → (b3 = true → ∃ (post6 : Bool → Heap
  → Prop), ConT P 73 [.int .i64 y] H1 ⟨false, [(false, [.bool])]⟩ post6 ∧ ∀ (H7 : Heap), Heap.le H1 H7 → ∀ (b9 : Bool), post6 b9 H7 → ((!b9) = true → post true H7) ∧ ((!b9) = false → post
  (decide (x < y)) H7)) ∧ (b3 = false → post (decide (x < y)) H1)) := by kernel_rfl
theorem cmp_Less {x y : Int} {H : Heap} : ConT Try.prog 78 [.int .i64 x, .int .i64 y] H shB (fun r _ => r = decide (x < y)) := by
  refine con_of_vc (an := an78) (fn := Try.f78) mix tabOK Try.func78 (by kernel_rfl) (extra := 0) ?_
  rw [vc78]
  refine ⟨_, cmp_isNaN, ?_⟩
  rintro H1 _ _ rfl
  refine ⟨fun h => (by cases h), fun _ => rfl⟩
/- where a search ends: what stands there, and ahead of it -/
def BSt (l : List Int) (t i j : Int) : Prop := (∀ x, l[i.toNat - 1]? = some x → 0 < i → x < t) ∧ ∀ x, l[j.toNat]? = some x → t ≤ x
def an59 : Ann where
  res := fun _ => none
  lend := fun | 27 => true | 47 => true | 50 => true | _ => false
  sch := fun _ => .done
  lt := fun | 3 => [.slot 7 false [.int .i64], .slot 8 false [.int .i64]] | _ => []
  tup := tups

theorem vc59 (P : Program) (H : Heap) (xA : Option Addr) (xN xC : Nat) (target : Int) (post : Int → Bool → Heap → Prop) :
  vcFn P tab an59 Try.f59 [.slice xA xN xC, .int .i64 target] 0 H ⟨true, [(false, [.int .i64]), (false, [.bool])]⟩ post =
  (  ∃ (inv0 : Int → Int → Heap → Prop), ∃ (m1 : Int → Int → Nat), inv0 (0 : Int) (↑xN : Int) H ∧ ∀ (H2 : Heap), Heap.le H H2 → ∀ (n4 n5 : Int), inv0 n4 n5 H2 → (decide (n4 < n5) = true → rng
  .i64 (n4 + n5) ∧ ∃ (e8 : Int), IntKind.wrap IntKind.u64 (n4 + n5) = e8 ∧ (1 : Int) = (1 : Int) ∧ ∃ (e9 : Int), IntKind.wrap IntKind.i64 (Int.fdiv e8 (2 : Int)) = e9 ∧ someA xA ∧ (0 : Int) ≤
  e9 ∧ e9 < (↑xN : Int) ∧ ∃ (n10 : Int), Cells H2 xA (Int.toNat e9 * 1) [.int .i64 n10] ∧ ∃ (post11 : Bool → Heap → Prop), ConT P 78 [.int .i64 n10, .int .i64 target] H2 ⟨false, [(false,
  [.bool])]⟩ post11 ∧ ∀ (H12 : Heap), Heap.le H2 H12 → ∀ (b14 : Bool), post11 b14 H12 → (b14 = true → rng .i64 (e9 + (1 : Int)) ∧ inv0 (e9 + (1 : Int)) n5 H12 ∧ m1 (e9 + (1 : Int)) n5 < m1 n4
  n5) ∧ (b14 = false → inv0 n4 e9 H12 ∧ m1 n4 e9 < m1 n4 n5)) ∧ (decide (n4 < n5) = false → (decide (n4 < (↑xN : Int)) = true → someA xA ∧ (0 : Int) ≤ n4 ∧ n4 < (↑xN : Int) ∧ ∃ (n20 : Int),
  Cells H2 xA (Int.toNat n4 * 1) [.int .i64 n20] ∧ (decide (n20 = target) = true → post n4 true H2) ∧ (decide (n20 = target) = false → someA xA ∧ (0 : Int) ≤ n4 ∧ n4 < (↑xN : Int) ∧ ∃ (n23 :
  Int), Cells H2 xA (Int.toNat n4 * 1) [.int .i64 n23] ∧ ∃ (post24 : Bool → Heap → Prop), ConT P 79 [.int .i64 n23] H2 ⟨false, [(false, [.bool])]⟩ post24 ∧ ∀ (H25 : Heap), Heap.le H2 H25 → ∀
  (b27 : Bool), post24 b27 H25 → (b27 = true → ∃ (post30 : Bool → Heap → Prop), ConT P 79 [.int .i64 target] H25 ⟨false, [(false, [.bool])]⟩ post30 ∧ ∀ (H31 : Heap), Heap.le H25 H31 → ∀ (b33
  : Bool), post30 b33 H31 → post n4 b33 H31) ∧ (b27 = false → post n4 false H25))) ∧ (decide (n4 < (↑xN : Int)) = false → post n4 false H2))) := by kernel_rfl
theorem BinarySearch_Int {H : Heap} {A : Option Addr} {n c : Nat} {l : List Int} {t : Int} (hs : Sl H A n c l) :
    ConT Try.prog 59 [.slice A n c, .int .i64 t] H shIB (fun i b _ => 0 ≤ i ∧ i ≤ n ∧ BSt l t i i ∧ b = decide (l[i.toNat]? = some t)) := by
  refine con_of_vc (an := an59) (fn := Try.f59) mix tabOK Try.func59 (by kernel_rfl) (extra := 0) ?_
  rw [vc59]
  have hb := hs.bn; have hl := hs.len
  refine ⟨fun i j _ => 0 ≤ i ∧ i ≤ j ∧ j ≤ n ∧ BSt l t i j, fun i j => (j - i).toNat, ⟨by omega, by omega, by omega, fun x _ h => by omega, fun x h => by rw [List.getElem?_eq_none (by omega)] at h; cases h⟩, ?_⟩
  rintro H2 hle i j ⟨h0, hij, hjn, p1, p2⟩
  refine ⟨fun hlt => ?_, fun hge => ?_⟩
  · have hlt := of_decide_eq_true hlt
    refine ⟨by simp only [rng]; omega, _, half_u (by omega) (by omega), rfl, (i + j) / 2, half_i (by omega) (by omega), ?_⟩
    obtain ⟨m, hm⟩ : ∃ m, m = (i + j) / 2 := ⟨_, rfl⟩
    rw [← hm]
    have hm1 : i ≤ m ∧ m < j := by omega
    clear hm
    obtain ⟨hi, hA, _, hc, ⟨rfl, hr⟩⟩ := hs.at hle (i := m) (by omega) (by omega)
    have hget : l[m.toNat]? = some l[m.toNat] := List.getElem?_eq_getElem hi
    refine ⟨hA, by omega, by omega, _, hc, _, cmp_Less, ?_⟩
    rintro H12 l12 _ rfl
    refine ⟨fun h => ?_, fun h => ?_⟩
    · have h := of_decide_eq_true h
      refine ⟨by simp only [rng]; omega, ⟨by omega, by omega, hjn, fun x hx _ => ?_, p2⟩, by dsimp only; omega⟩
      rw [show (m + 1).toNat - 1 = m.toNat by omega, hget] at hx
      cases hx; exact h
    · have h := of_decide_eq_false h
      refine ⟨⟨h0, by omega, by omega, p1, fun x hx => ?_⟩, by dsimp only; omega⟩
      rw [hget] at hx; cases hx; omega
  · have hge := of_decide_eq_false hge
    obtain rfl : i = j := by omega
    refine ⟨fun hlt => ?_, fun hge2 => ?_⟩
    · have hlt := of_decide_eq_true hlt
      obtain ⟨hi, hA, _, hc, ⟨rfl, hr⟩⟩ := hs.at hle h0 hlt
      have hget : l[i.toNat]? = some l[i.toNat] := List.getElem?_eq_getElem hi
      refine ⟨hA, h0, hlt, _, hc, fun he => ?_, fun hne => ?_⟩
      · have he := of_decide_eq_true he
        exact ⟨h0, by omega, ⟨p1, p2⟩, by rw [hget, he]; simp⟩
      · have hne := of_decide_eq_false hne
        refine ⟨hA, h0, hlt, _, hc, _, slices_isNaN, ?_⟩
        rintro H25 l25 _ rfl
        refine ⟨fun h => (by cases h), fun _ => ⟨h0, by omega, ⟨p1, p2⟩, ?_⟩⟩
        rw [hget]; simp [hne]
    · have hge2 := of_decide_eq_false hge2
      refine ⟨h0, by omega, ⟨p1, p2⟩, ?_⟩
      rw [List.getElem?_eq_none (by omega)]; simp
end Go.Vc
/- Timelines: how events and an index lie; searching. -/
namespace Go.Vc
open Go Go.Proofs Go.Shelf
structure Ev where
  tm : Int
  id : Int
  fin : Bool
deriving DecidableEq
instance : Rep Ev where
  sz := 3
  byt := 24
  rel _ vs e := vs = [.int .i64 e.tm, .int .i64 e.id, .bool e.fin] ∧ rng .i64 e.tm ∧ rng .i64 e.id
  mono _ h := h
  len h := by simp [h.1]
  pos := by decide
  bpos := by decide
  one h := by rw [h.1]; simp [Value.oneCell']
/- a list of numbers as an element -/
structure IL where
  l : List Int
instance : Rep IL where
  sz := 1
  byt := 24
  rel H vs r := ∃ A n c, vs = [.slice A n c] ∧ Sl H A n c r.l
  mono := fun hle ⟨A, n, c, h1, h2⟩ => ⟨A, n, c, h1, h2.mono hle⟩
  len := fun ⟨A, n, c, h1, _⟩ => by simp [h1]
  pos := by decide
  bpos := by decide
  one := fun ⟨A, n, c, h1, _⟩ => by rw [h1]; simp [Value.oneCell']
abbrev ixL (i j : Nat) : List Leaf := [.int .i64, .row i 33, .mp, .row j 44, .int .i64]
abbrev ixC (q0 : Int) (q1N : Nat) (q1Xs : List Value) (q2 : Option Nat) (q3N : Nat) (q3Xs : List Value) (q4 : Int) : List BC := [.v (.int .i64 q0), .row 33 q1N q1Xs, .v (.map q2), .row 44 q3N q3Xs, .v (.int .i64 q4)]
/- a contract with one number as its result, weakened -/
theorem ConT.weakI {P : Program} {f : FuncId} {args : List Value} {H : Heap} {k : IntKind} {post post' : Int → Heap → Prop} (h : ConT P f args H ⟨false, [(false, [.int k])]⟩ post) (hk : ∀ r H', post r H' → post' r H') : ConT P f args H ⟨false, [(false, [.int k])]⟩ post' := by
  refine ⟨h.1, fun w hs => ?_⟩
  refine (h.2 w hs).mono ?_
  rintro e w' ⟨v, H', nr, h1, h2, h3⟩
  refine ⟨v, H', nr, h1, ?_, h3⟩
  obtain ⟨n, x, hx, h4, h5, h6⟩ := h2
  exact ⟨n, x, hx, h4, h5, hk _ _ h6⟩
def an60 : Ann where
  res := fun _ => none
  lend := fun | 20 => true | _ => false
  sch := fun _ => .done
  lt := fun | 2 => [.slot 5 false [.int .i64], .slot 6 false [.int .i64]] | _ => []
  tup := tups

theorem vc60 (P : Program) (H : Heap) (n : Int) (fF : FuncId) (fP fP1 : Value) (post : Int → Heap → Prop) :
  vcFn P tab an60 Try.f60 [.int .i64 n, .func (.func fF) #[] #[fP, fP1]] 0 H ⟨false, [(false, [.int .i64])]⟩ post =
  (  ∃ (inv0 : Int → Int → Heap → Prop), ∃ (m1 : Int → Int → Nat), inv0 (0 : Int) n H ∧ ∀ (H2 : Heap), Heap.le H H2 → ∀ (n4 n5 : Int), inv0 n4 n5 H2 → (decide (n4 < n5) = true → rng .i64 (n4 +
  n5) ∧ ∃ (e8 : Int), IntKind.wrap IntKind.u64 (n4 + n5) = e8 ∧ (1 : Int) = (1 : Int) ∧ ∃ (e9 : Int), IntKind.wrap IntKind.i64 (Int.fdiv e8 (2 : Int)) = e9 ∧ ∃ (post10 : Bool → Heap → Prop),
  ConT P fF [.int .i64 e9, fP, fP1] H2 ⟨false, [(false, [.bool])]⟩ post10 ∧ ∀ (H11 : Heap), Heap.le H2 H11 → ∀ (b13 : Bool), post10 b13 H11 → ((!b13) = true → rng .i64 (e9 + (1 : Int)) ∧ inv0
  (e9 + (1 : Int)) n5 H11 ∧ m1 (e9 + (1 : Int)) n5 < m1 n4 n5) ∧ ((!b13) = false → inv0 n4 e9 H11 ∧ m1 n4 e9 < m1 n4 n5)) ∧ (decide (n4 < n5) = false → post n4 H2)) := by kernel_rfl
theorem sort_Search {H : Heap} {n : Int} {F : FuncId} {p1 p2 : Value} {p : Nat → Bool} (h0 : 0 ≤ n) (hb : n ≤ 140737488355328) (hf : ∀ (i : Int) (H' : Heap), 0 ≤ i → i < n → Heap.le H H' → ConT Try.prog F [.int .i64 i, p1, p2] H' shB (fun r _ => r = p i.toNat))
    (hm : ∀ i j : Nat, i ≤ j → (j : Int) < n → p i = true → p j = true) :
    ConT Try.prog 60 [.int .i64 n, .func (.func F) #[] #[p1, p2]] H shI (fun r _ => 0 ≤ r ∧ r ≤ n ∧ (∀ i : Nat, (i : Int) < r → p i = false) ∧ ∀ i : Nat, r ≤ i → (i : Int) < n → p i = true) := by
  refine con_of_vc (an := an60) (fn := Try.f60) mix tabOK Try.func60 (by kernel_rfl) (extra := 0) ?_
  rw [vc60]
  refine ⟨fun i j _ => 0 ≤ i ∧ i ≤ j ∧ j ≤ n ∧ (∀ k : Nat, (k : Int) < i → p k = false) ∧ ∀ k : Nat, j ≤ k → (k : Int) < n → p k = true, fun i j => (j - i).toNat, ⟨by omega, h0, by omega, fun k hk => by omega, fun k hk hk2 => by omega⟩, ?_⟩
  rintro H2 hle i j ⟨i0, hij, hjn, p1', p2'⟩
  refine ⟨fun hlt => ?_, fun hge => ?_⟩
  · have hlt := of_decide_eq_true hlt
    refine ⟨by simp only [rng]; omega, _, half_u (by omega) (by omega), rfl, (i + j) / 2, half_i (by omega) (by omega), ?_⟩
    obtain ⟨m, hm'⟩ : ∃ m, m = (i + j) / 2 := ⟨_, rfl⟩
    rw [← hm']
    have hm1 : i ≤ m ∧ m < j := by omega
    clear hm'
    refine ⟨_, hf m H2 (by omega) (by omega) hle, ?_⟩
    rintro H11 l11 _ rfl
    refine ⟨fun h => ?_, fun h => ?_⟩
    · have h : p m.toNat = false := by simpa using h
      refine ⟨by simp only [rng]; omega, ⟨by omega, by omega, hjn, fun k hk => ?_, p2'⟩, by dsimp only; omega⟩
      cases hp : p k with
      | false => rfl
      | true =>
        have := hm k m.toNat (by omega) (by omega) hp
        rw [h] at this; cases this
    · have h : p m.toNat = true := by simpa using h
      refine ⟨⟨i0, by omega, by omega, p1', fun k hk hk2 => hm m.toNat k (by omega) hk2 h⟩, by dsimp only; omega⟩
  · have hge := of_decide_eq_false hge
    obtain rfl : i = j := by omega
    exact ⟨i0, hjn, p1', p2'⟩
def an61 : Ann where
  res := fun _ => none
  lend := fun _ => false
  sch := fun | 1 => (tk [0, 1, 2, 3, 4, 5, 6, 7, 8, 9, 10] .done) | _ => .done
  lt := fun _ => []
  tup := tups

theorem vc61 (P : Program) (H : Heap) (i : Int) (free0B : Nat) (free1B : Nat) (post : Bool → Heap → Prop) :
  vcFn P tab an61 Try.f61 [.int .i64 i, .pointer (some ⟨free0B, 0, none⟩), .pointer (some ⟨free1B, 0, none⟩)] 0 H ⟨false, [(false, [.bool])]⟩ post =
  (  ∃ (b0 : Nat), ∃ (o1 : Nat), Cells H (some ⟨free0B, 0, none⟩) 0 [.pointer (some ⟨b0, o1, none⟩)] ∧ ∃ (A2 : Option Addr), ∃ (n3 : Nat), ∃ (c4 : Nat), Cells H (some ⟨b0, o1, none⟩) (0 + 1)
  [.slice A2 n3 c4] ∧ someA A2 ∧ (0 : Int) ≤ i ∧ i < (↑n3 : Int) ∧ ∃ (n5 : Int), Cells H A2 (Int.toNat i * 3 + 0) [.int .i64 n5] ∧ ∃ (n6 : Int), Cells H (some ⟨free1B, 0, none⟩) 0 [.int .i64
  n6] ∧ post (decide (n6 < n5)) H) := by kernel_rfl
theorem tl_until1 {H : Heap} {i t : Int} {g14 g18 g22 : Nat} {A : Option Addr} {n c : Nat} {q0 : Int} {q2 : Option Nat} {v3 : Value} {q4 : Int} {evs : List Ev}
    (h1 : Cells H (some ⟨g18, 0, none⟩) 0 [.pointer (some ⟨g14, 0, none⟩)]) (h2 : Cells H (some ⟨g14, 0, none⟩) 0 [.int .i64 q0, .slice A n c, .map q2, v3, .int .i64 q4])
    (h3 : Cells H (some ⟨g22, 0, none⟩) 0 [.int .i64 t]) (hs : Sl H A n c evs) (i0 : 0 ≤ i) (i1 : i < n) :
    ConT Try.prog 61 [.int .i64 i, .pointer (some ⟨g18, 0, none⟩), .pointer (some ⟨g22, 0, none⟩)] H shB (fun r _ => r = decide (t < (evs[i.toNat]?.map (·.tm)).getD 0)) := by
  refine con_of_vc (an := an61) (fn := Try.f61) mix tabOK Try.func61 (by kernel_rfl) (extra := 0) ?_
  rw [vc61]
  obtain ⟨hi, hA, vs, hc, ⟨rfl, r1, r2⟩⟩ := hs.at (hle_refl _) i0 i1
  have hp := Cells.part (xs := [.int .i64 q0]) (ys := [.slice A n c]) (zs := [.map q2, v3, .int .i64 q4]) h2
  have ht := Cells.part (xs := []) (ys := [.int .i64 evs[i.toNat].tm]) (zs := [.int .i64 evs[i.toNat].id, .bool evs[i.toNat].fin]) hc
  exact ⟨g14, 0, h1, A, n, c, hp, hA, i0, i1, _, ht, t, h3, by rw [List.getElem?_eq_getElem hi]; rfl⟩
/- how many events there are up to an instant -/
def ncur (evs : List Ev) (t : Int) : Nat := (evs.takeWhile fun e => decide (e.tm ≤ t)).length
theorem ncur_eq : ∀ {evs : List Ev} {t : Int} {r : Nat}, r ≤ evs.length → (∀ i (h : i < evs.length), i < r → evs[i].tm ≤ t) → (∀ h : r < evs.length, t < evs[r].tm) → ncur evs t = r
  | [], t, r, h, _, _ => by simp at h; subst h; rfl
  | e :: evs, t, 0, _, _, h2 => by
    have := h2 (by simp)
    unfold ncur
    rw [List.takeWhile_cons, if_neg (by simp at this ⊢; omega)]; rfl
  | e :: evs, t, r + 1, h, h1, h2 => by
    have h0 := h1 0 (by simp) (by omega)
    unfold ncur
    rw [List.takeWhile_cons, if_pos (by simpa using h0), List.length_cons]
    have := ncur_eq (evs := evs) (t := t) (r := r) (by simpa using h) (fun i hi hr => h1 (i + 1) (Nat.succ_lt_succ hi) (Nat.succ_lt_succ hr)) (fun hh => h2 (Nat.succ_lt_succ hh))
    unfold ncur at this
    rw [this]
theorem ncur_le (evs : List Ev) (t : Int) : ncur evs t ≤ evs.length := (List.takeWhile_sublist _).length_le
def an43 : Ann where
  res := fun _ => none
  lend := fun | 11 => true | _ => false
  sch := fun _ => .done
  lt := fun _ => []
  tup := tups

theorem vc43 (P : Program) (H : Heap) (at0 : Int) (q0 : Int) (q1N : Nat) (q1Xs : List Value) (bi1 : Nat) (q2 : Option Nat) (q3N : Nat) (q3Xs : List Value) (bi3 : Nat) (q4 : Int) (O : OMap) (post : Int → Nat → List Value → Option Nat → Nat → List Value → Int → Int → Heap → OMap → Prop) :
  vcFnB P tab an43 Try.f43 [BA.me, BA.v (.int .i64 at0)] 0 68 [BC.v (.int .i64 q0), BC.row 33 q1N q1Xs, BC.v (.map q2), BC.row 44 q3N q3Xs, BC.v (.int .i64 q4)] 0 H O [.int .i64, .row bi1 33, .mp, .row bi3 44, .int .i64] ⟨false, [(false, [.int .i64])]⟩ post =
  (  ∀ (a0 : Nat), ∃ (post1 : Int → Heap → Prop), (∀ (A2 : Option Addr) (c3 : Nat) (H4 : Heap), Heap.le H H4 → Cells H4 A2 0 q1Xs → q1N ≤ c3 → ∀ (A8 : Option Addr) (c9 : Nat) (H10 : Heap),
  Heap.le H4 H10 → Cells H10 A8 0 q3Xs → q3N ≤ c9 → ∀ (g14 : Nat) (H15 : Heap), Heap.le H10 H15 → Cells H15 (some ⟨g14, 0, none⟩) 0 [.int .i64 q0, .slice A2 q1N c3, Value.map q2, .slice A8
  q3N c9, .int .i64 q4] → ∀ (g18 : Nat) (H19 : Heap), Heap.le H15 H19 → Cells H19 (some ⟨g18, 0, none⟩) 0 [.pointer (some ⟨g14, 0, none⟩)] → ∀ (g22 : Nat) (H23 : Heap), Heap.le H19 H23 →
  Cells H23 (some ⟨g22, 0, none⟩) 0 [.int .i64 at0] → ConT P 60 [.int .i64 (↑q1N : Int), .func (.func 61) ⟨[]⟩ ⟨[.pointer (some ⟨g18, 0, none⟩), .pointer (some ⟨g22, 0, none⟩)]⟩] H23 ⟨false,
  [(false, [.int .i64])]⟩ post1) ∧ ∀ (H26 : Heap) (n27 : Int), post1 n27 H26 → a0 = a0 ∧ post q0 q1N q1Xs q2 q3N q3Xs q4 n27 H O) := by kernel_rfl
theorem tl_until {H : Heap} {O : OMap} {q0 t q4 : Int} {q1N q3N : Nat} {q1Xs q3Xs : List Value} {q2 : Option Nat} {evs : List Ev} {cps : List IL} {bi1 bi3 : Nat}
    (he : Row H q1Xs evs) (hel : evs.length = q1N) (hb : q1N ≤ 1000000) (hc : Row H q3Xs cps) (hs : evs.Pairwise fun a b => a.tm ≤ b.tm) :
    ConB Try.prog 43 [.me, .v (.int .i64 t)] 68 (ixC q0 q1N q1Xs q2 q3N q3Xs q4) H O (ixL bi1 bi3) shI
      (fun n0 n1 xs1 A2 n3 xs3 n4 r H' O' => (n0 = q0 ∧ n1 = q1N ∧ xs1 = q1Xs ∧ A2 = q2 ∧ n3 = q3N ∧ xs3 = q3Xs ∧ n4 = q4 ∧ O' = O) ∧ r = (ncur evs t : Int)) := by
  refine conB_of_vc (k := 0) (an := an43) (fn := Try.f43) mix tabOK Try.func43 (by kernel_rfl) (extra := 0) trivial ?_
  rw [vc43]
  intro a0
  refine ⟨fun r _ => r = (ncur evs t : Int), ?_, fun H26 n27 h => ⟨rfl, ⟨rfl, rfl, rfl, rfl, rfl, rfl, rfl, rfl⟩, h⟩⟩
  intro A2 c3 H4 l4 hc4 hn4 A8 c9 H10 l10 hc10 hn10 g14 H15 l15 hc15 g18 H19 l19 hc19 g22 H23 l23 hc23
  have hsl : Sl H23 A2 q1N c3 evs := he.sl (hle_trans l4 (hle_trans l10 (hle_trans l15 (hle_trans l19 l23)))) (hc4.mono (hle_trans l10 (hle_trans l15 (hle_trans l19 l23)))) hel hn4 (by show q1N * 24 ≤ _; omega) (by omega)
  have k15 := hle_trans l19 l23
  refine ConT.weakI (sort_Search (p := fun i => decide (t < (evs[i]?.map (·.tm)).getD 0)) (by omega) (by omega) (fun i H' i0 i1 hle => ?_) (fun i j hij hj hp => ?_)) ?_
  · exact tl_until1 (hc19.mono (hle_trans l23 hle)) (hc15.mono (hle_trans k15 hle)) (hc23.mono hle) (hsl.mono hle) i0 i1
  · have hj' : j < evs.length := by omega
    have hi' : i < evs.length := by omega
    rw [List.getElem?_eq_getElem hi'] at hp
    rw [List.getElem?_eq_getElem hj']
    simp only [Option.map_some, Option.getD_some, decide_eq_true_eq] at hp ⊢
    rcases Nat.eq_or_lt_of_le hij with rfl | hlt
    · exact hp
    · have := List.pairwise_iff_getElem.1 hs i j hi' hj' hlt
      omega
  · rintro r H' ⟨r0, r1, p1, p2⟩
    have := ncur_eq (evs := evs) (t := t) (r := r.toNat) (by omega) (fun i hi hr => ?_) (fun hr => ?_)
    · omega
    · have := p1 i (by omega)
      rw [List.getElem?_eq_getElem hi] at this
      simpa using this
    · have := p2 r.toNat (by omega) (by omega)
      rw [List.getElem?_eq_getElem hr] at this
      simpa using this
end Go.Vc
