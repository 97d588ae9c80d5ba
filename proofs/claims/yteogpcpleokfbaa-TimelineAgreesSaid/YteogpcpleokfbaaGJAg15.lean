/- Tuples by key, their boundaries, merged lineages. -/
import Derived.Test.YteogpcpleokfbaaGJAg13
import Derived.Test.YteogpcpleokfbaaGJAg14
import Derived.Test.YteogpcpleokfbaaGJAg10
import Derived.Test.YteogpcpleokfbaaGJAg2
set_option linter.unusedSectionVars false
set_option linter.unusedSimpArgs false
set_option linter.unusedVariables false
namespace Go.Vc
open Go Go.Proofs Go.Shelf
def sortI (l : List Int) : List Int := l.mergeSort fun x y => decide (x ≤ y)
def ends (l : List Kd) : List Int := l.flatMap fun k => [k.t.p.lo, k.t.p.hi]
def points (l : List Kd) : List Int := Lib.compact (sortI (ends l))
def mergeLin (a b : List Int) : List Int := Lib.compact (sortI (a ++ b))
end Go.Vc
/- Violations of one key: extending, the active tuples. -/
namespace Go.Vc
open Go Go.Proofs Go.Shelf
theorem Row.take {T : Type} [Rep T] {H : Heap} : ∀ {xs : List Value} {l : List T} (i : Nat), Row H xs l → Row H (xs.take (i * Rep.sz T)) (l.take i)
  | xs, [], i, h => by rw [show xs = [] from h]; simp [Row]
  | xs, t :: l, 0, h => by simp [Row]
  | xs, t :: l, i + 1, ⟨vs, ys, h1, h2, h3⟩ => by
    have hl := Rep.len h2
    refine ⟨vs, ys.take (i * Rep.sz T), ?_, h2, Row.take i h3⟩
    rw [h1, Nat.succ_mul, List.take_append, List.take_of_length_le (by omega), hl, Nat.add_sub_cancel]
end Go.Vc
/- Violations of one key: the program's sweep. -/
namespace Go.Vc
open Go Go.Proofs Go.Shelf
end Go.Vc
/- keys.Violations and keys.Holds (fewer than twenty tuples). -/
namespace Go.Vc
open Go Go.Proofs Go.Shelf
end Go.Vc
/- Plain laws of the violations of one key: in ascending order, separated or with other IDs. -/
namespace Go.Vc
open Go
def apartV (u v : Vio) : Prop := u.p.hi ≤ v.p.lo ∧ ¬ (u.p.hi = v.p.lo ∧ u.ids = v.ids)
def chainV : List Vio → Prop
  | [] => True
  | [_] => True
  | u :: v :: r => apartV u v ∧ chainV (v :: r)
end Go.Vc
/- Plain laws: dropping neighbours that are equal, out of an ascending list. -/
namespace Go.Vc
open Go
theorem snoc_ind {T : Type} {p : List T → Prop} (h0 : p []) (h1 : ∀ l x, p l → p (l ++ [x])) (l : List T) : p l := by
  have key : ∀ r : List T, p r.reverse := by
    intro r
    induction r with
    | nil => exact h0
    | cons x r ih => rw [List.reverse_cons]; exact h1 _ _ ih
  have := key l.reverse
  rwa [List.reverse_reverse] at this
theorem compact_last (l : List Int) : (Lib.compact l).getLast? = l.getLast? := by
  refine snoc_ind (p := fun l => (Lib.compact l).getLast? = l.getLast?) rfl (fun l x ih => ?_) l
  rw [compact_snoc]
  split
  · rename_i h
    rw [List.append_nil, ih, h]; simp
  · simp
theorem compact_mem (l : List Int) (y : Int) : y ∈ Lib.compact l ↔ y ∈ l := by
  refine snoc_ind (p := fun l => y ∈ Lib.compact l ↔ y ∈ l) (by simp [show Lib.compact ([] : List Int) = [] from rfl]) (fun l x ih => ?_) l
  rw [compact_snoc]
  split
  · rename_i h
    have hx : x ∈ l := List.mem_of_getLast? h
    rw [List.append_nil, ih]
    simp only [List.mem_append, List.mem_singleton]
    exact ⟨.inl, fun h => h.elim id (fun e => e ▸ hx)⟩
  · simp [ih]
theorem compact_asc (l : List Int) (h : l.Pairwise (fun a b => a ≤ b)) : (Lib.compact l).Pairwise (fun a b => a < b) := by
  revert h
  refine snoc_ind (p := fun l => l.Pairwise (fun a b => a ≤ b) → (Lib.compact l).Pairwise (fun a b => a < b)) (fun _ => by simp [show Lib.compact ([] : List Int) = [] from rfl]) (fun l x ih => ?_) l
  intro h
  obtain ⟨h1, -, h2⟩ := List.pairwise_append.1 h
  have h2 : ∀ a ∈ l, a ≤ x := fun a ha => h2 a ha x (by simp)
  rw [compact_snoc]
  split
  · rw [List.append_nil]; exact ih h1
  · rename_i hne
    refine List.pairwise_append.2 ⟨ih h1, by simp, fun a ha b hb => ?_⟩
    simp at hb; subst hb
    -- a is below the last, which is below x
    obtain ⟨z, hz⟩ : ∃ z, (Lib.compact l).getLast? = some z := by
      cases hl : (Lib.compact l).getLast? with
      | none => rw [List.getLast?_eq_none_iff] at hl; rw [hl] at ha; cases ha
      | some z => exact ⟨z, rfl⟩
    have hzl : l.getLast? = some z := by rw [← compact_last]; exact hz
    have hzx : z ≠ b := fun e => hne (by rw [hzl, e])
    have hz1 := h2 z (List.mem_of_getLast? hzl)
    obtain ⟨l', hl'⟩ := List.getLast?_eq_some_iff.1 hz
    have hp := ih h1
    rw [hl'] at hp ha
    rcases List.mem_append.1 ha with ha | ha
    · have := (List.pairwise_append.1 hp).2.2 a ha z (by simp)
      omega
    · simp at ha; subst ha; omega
theorem sortI_asc (l : List Int) : (sortI l).Pairwise (fun a b => a ≤ b) := by
  have h1 := List.pairwise_mergeSort (le := fun x y : Int => decide (x ≤ y)) (fun a b c h1 h2 => by simp only [decide_eq_true_eq] at *; omega) (fun a b => by simp only [Bool.or_eq_true, decide_eq_true_eq]; omega) l
  exact h1.imp fun h => by simpa using h
end Go.Vc
/- Plain laws: which days the violations of one key cover. -/
namespace Go.Vc
open Go
def inV (v : Vio) (d : Int) : Prop := v.p.lo ≤ d ∧ d < v.p.hi
end Go.Vc
/- Plain laws: the tuples that the sweep holds active are those that hold on the day. -/
namespace Go.Vc
open Go
end Go.Vc
/- Plain laws: the groups of equal key values; which days the violations of a key cover. -/
namespace Go.Vc
open Go
theorem cmpVs_zero {a b : List Val} : cmpVs a b = 0 ↔ a = b := ⟨fun h => cmpVs_ord.eq _ _ h, fun h => h ▸ cmpVs_ord.refl _⟩
end Go.Vc
/- The laws' data; the sanity check; the reference's key values. -/
namespace Go.Vc
open Go Go.Proofs Go.Shelf
abbrev shV : RSh := ⟨false, [(true, [.int .i64, .int .i64, .str])]⟩
def txt (r : Int) : ByteArray := if r = 0 then ⟨#[]⟩ else if r = 1 then ⟨#[97]⟩ else ⟨#[98, 39]⟩
def lv0 (x : Int) : Val := if x.tmod 7 = 6 then val0 else ⟨1, x.tmod 3 - 1, ⟨#[]⟩⟩
def lv1 (x : Int) : Val := if x.tmod 7 = 6 then val0 else ⟨2, 0, txt (x.tmod 3)⟩
theorem tmod3 {x : Int} (h : 0 ≤ x) : x.tmod 3 = 0 ∨ x.tmod 3 = 1 ∨ x.tmod 3 = 2 := by
  have h1 := Int.tmod_eq_emod_of_nonneg h (b := 3)
  omega
def an88 : Ann where
  res := fun _ => none
  lend := fun _ => false
  sch := fun _ => .done
  lt := fun _ => []
  tup := tups

theorem vc88 (P : Program) (H : Heap) (n : Int) (post : Int → Int → ByteArray → Heap → Prop) :
  vcFn P tab an88 Try.f88 [.int .i64 n] 0 H ⟨false, [(true, [.int .i64, .int .i64, .str])]⟩ post =
  (  post (1 : Int) n ⟨⟨[]⟩⟩ H) := by kernel_rfl
theorem law0_IntValue {n : Int} {H : Heap} : ConT Try.prog 88 [.int .i64 n] H shV (fun k m s _ => k = 1 ∧ m = n ∧ s = ⟨#[]⟩) := by
  refine con_of_vc (an := an88) (fn := Try.f88) mix tabOK Try.func88 (by kernel_rfl) (extra := 0) ?_
  rw [vc88]
  exact ⟨rfl, rfl, rfl⟩
def an77 : Ann where
  res := fun _ => none
  lend := fun _ => false
  sch := fun _ => .done
  lt := fun _ => []
  tup := tups

theorem vc77 (P : Program) (H : Heap) (col : Int) (x : Int) (post : Int → Int → ByteArray → Heap → Prop) :
  vcFn P tab an77 Try.f77 [.int .i64 col, .int .u16 x] 0 H ⟨false, [(true, [.int .i64, .int .i64, .str])]⟩ post =
  (  (7 : Int) ≠ (0 : Int) ∧ (decide (Int.tmod x (7 : Int) = (6 : Int)) = true → post (0 : Int) (0 : Int) ⟨⟨[]⟩⟩ H) ∧ (decide (Int.tmod x (7 : Int) = (6 : Int)) = false → (2 : Int) ≠ (0 : Int) ∧
  (decide (Int.tmod col (2 : Int) = (0 : Int)) = true → (3 : Int) ≠ (0 : Int) ∧ ∃ (e3 : Int), IntKind.wrap IntKind.i64 (Int.tmod x (3 : Int)) = e3 ∧ rng .i64 (e3 - (1 : Int)) ∧ ∃ (post4 : Int
  → Int → ByteArray → Heap → Prop), ConT P 88 [.int .i64 (e3 - (1 : Int))] H ⟨false, [(true, [.int .i64, .int .i64, .str])]⟩ post4 ∧ ∀ (H5 : Heap), Heap.le H H5 → ∀ (n7 n8 : Int) (s9 :
  ByteArray), post4 n7 n8 s9 H5 → post n7 n8 s9 H5) ∧ (decide (Int.tmod col (2 : Int) = (0 : Int)) = false → (3 : Int) ≠ (0 : Int) ∧ (0 : Int) ≤ Int.tmod x (3 : Int) ∧ Int.tmod x (3 : Int) <
  (↑3 : Int) ∧ ∃ (s12 : ByteArray), win [.string ⟨⟨[]⟩⟩, .string { data := ⟨[(97 : UInt8)]⟩ }, .string { data := ⟨[(98 : UInt8), (39 : UInt8)]⟩ }] (Int.toNat (Int.tmod x (3 : Int)) * 1) 1 =
  [.string s12] ∧ post (2 : Int) (0 : Int) s12 H))) := by kernel_rfl
theorem law0_Value0 {x : Int} {H : Heap} (hx : 0 ≤ x) : ConT Try.prog 77 [.int .i64 0, .int .u16 x] H shV (fun k n s _ => (⟨k, n, s⟩ : Val) = lv0 x) := by
  refine con_of_vc (an := an77) (fn := Try.f77) mix tabOK Try.func77 (by kernel_rfl) (extra := 0) ?_
  rw [vc77]
  refine ⟨by decide, fun h => ?_, fun h => ⟨by decide, fun _ => ⟨by decide, ?_⟩, fun h => absurd h (by decide)⟩⟩
  · have h := of_decide_eq_true h
    simp [lv0, h, val0]
  · have h := of_decide_eq_false h
    rcases tmod3 hx with e | e | e <;> rw [e] <;> refine ⟨_, rfl, by decide, _, law0_IntValue, ?_⟩ <;> rintro H5 _ _ _ _ ⟨rfl, rfl, rfl⟩ <;> simp only [lv0, if_neg h, e] <;> rfl
theorem law0_Value1 {x : Int} {H : Heap} (hx : 0 ≤ x) : ConT Try.prog 77 [.int .i64 1, .int .u16 x] H shV (fun k n s _ => (⟨k, n, s⟩ : Val) = lv1 x) := by
  refine con_of_vc (an := an77) (fn := Try.f77) mix tabOK Try.func77 (by kernel_rfl) (extra := 0) ?_
  rw [vc77]
  refine ⟨by decide, fun h => ?_, fun h => ⟨by decide, fun h => absurd h (by decide), fun _ => ⟨by decide, ?_⟩⟩⟩
  · have h := of_decide_eq_true h
    simp [lv1, h, val0]
  · have h := of_decide_eq_false h
    rcases tmod3 hx with e | e | e <;> rw [e] <;> refine ⟨by decide, by decide, _, rfl, ?_⟩ <;> simp only [lv1, if_neg h, e] <;> rfl
theorem val_eta {k n : Int} {s : ByteArray} {v : Val} (h : (⟨k, n, s⟩ : Val) = v) : k = v.kind ∧ n = v.n ∧ s = v.s := by subst h; exact ⟨rfl, rfl, rfl⟩
theorem lv0_ok {x : Int} (hx : 0 ≤ x) : rng .i64 (lv0 x).kind ∧ rng .i64 (lv0 x).n ∧ str (lv0 x).s := by
  unfold lv0
  split
  · exact ⟨by decide, by decide, by unfold str val0; decide⟩
  · refine ⟨(by decide : rng .i64 1), ?_, (by unfold str; decide : str ⟨#[]⟩)⟩
    rcases tmod3 hx with e | e | e <;> simp only [e] <;> decide
theorem lv1_ok {x : Int} (hx : 0 ≤ x) : rng .i64 (lv1 x).kind ∧ rng .i64 (lv1 x).n ∧ str (lv1 x).s := by
  unfold lv1
  split
  · exact ⟨by decide, by decide, by unfold str val0; decide⟩
  · refine ⟨(by decide : rng .i64 2), (by decide : rng .i64 0), ?_⟩
    rcases tmod3 hx with e | e | e <;> simp only [e] <;> unfold str txt <;> decide
def an56 : Ann where
  res := fun _ => none
  lend := fun _ => false
  sch := fun _ => .done
  lt := fun _ => []
  tup := tups

theorem vc56 (P : Program) (H : Heap) (x : Int) (y : Int) (post : Option Addr → Nat → Nat → Heap → Prop) :
  vcFn P tab an56 Try.f56 [.int .u16 x, .int .u16 y] 0 H ⟨false, [(false, [.sl])]⟩ post =
  (  ∃ (post0 : Int → Int → ByteArray → Heap → Prop), ConT P 77 [.int .i64 (0 : Int), .int .u16 x] H ⟨false, [(true, [.int .i64, .int .i64, .str])]⟩ post0 ∧ ∀ (H1 : Heap), Heap.le H H1 → ∀ (n3
  n4 : Int) (s5 : ByteArray), post0 n3 n4 s5 H1 → ∃ (post7 : Int → Int → ByteArray → Heap → Prop), ConT P 77 [.int .i64 (1 : Int), .int .u16 y] H1 ⟨false, [(true, [.int .i64, .int .i64,
  .str])]⟩ post7 ∧ ∀ (H8 : Heap), Heap.le H1 H8 → ∀ (n10 n11 : Int) (s12 : ByteArray), post7 n10 n11 s12 H8 → ∀ (A14 : Option Addr) (c15 : Nat) (H16 : Heap), Heap.le H8 H16 → Cells H16 A14 0
  [.int .i64 n3, .int .i64 n4, .string s5, .int .i64 n10, .int .i64 n11, .string s12] → 2 ≤ c15 → post A14 2 c15 H16) := by kernel_rfl
theorem law0_Vals {x y : Int} {H : Heap} (hx : 0 ≤ x) (hy : 0 ≤ y) : ConT Try.prog 56 [.int .u16 x, .int .u16 y] H shS (fun A n c H' => Sl H' A n c [lv0 x, lv1 y]) := by
  refine con_of_vc (an := an56) (fn := Try.f56) mix tabOK Try.func56 (by kernel_rfl) (extra := 0) ?_
  rw [vc56]
  refine ⟨_, law0_Value0 hx, ?_⟩
  intro H1 l1 k n s h
  obtain ⟨rfl, rfl, rfl⟩ := val_eta h
  refine ⟨_, law0_Value1 hy, ?_⟩
  intro H2 l2 k n s h
  obtain ⟨rfl, rfl, rfl⟩ := val_eta h
  intro A c H3 l3 hc hn
  exact Row.sl (H := H3) (T := Val) (l := [lv0 x, lv1 y]) ⟨[_, _, _], [_, _, _], rfl, ⟨rfl, lv0_ok hx⟩, [_, _, _], [], rfl, ⟨rfl, lv1_ok hy⟩, rfl⟩ (hle_refl H3) hc rfl hn (by decide) (by decide)
theorem sortI_eq {l m : List Int} (hp : m.Perm l) (hs : m.Pairwise (fun a b => a ≤ b)) : sortI l = m := by
  have h1 := List.pairwise_mergeSort (le := fun x y : Int => decide (x ≤ y)) (fun a b c h1 h2 => by simp only [decide_eq_true_eq] at *; omega) (fun a b => by simp only [Bool.or_eq_true, decide_eq_true_eq]; omega) l
  refine List.Perm.eq_of_pairwise (le := fun a b : Int => a ≤ b) (fun a b _ _ h h' => by omega) (h1.imp fun h => by simpa using h) hs ?_
  exact (List.mergeSort_perm l _).trans hp.symm
end Go.Vc
/- The laws' drawn tuples; comparing lists of ints. -/
namespace Go.Vc
open Go Go.Proofs Go.Shelf
theorem wrap_i64 {e : Int} (h0 : 0 ≤ e) (h1 : e < 100000) : IntKind.wrap .i64 e = e := by
  simp [IntKind.wrap, IntKind.bits, IntKind.signed]; omega
theorem tmod_bd {x : Int} (h : 0 ≤ x) {m : Int} (hm : 0 < m) : 0 ≤ x.tmod m ∧ x.tmod m < m := by
  rw [Int.tmod_eq_emod_of_nonneg h]
  exact ⟨Int.emod_nonneg _ (by omega), Int.emod_lt_of_pos _ hm⟩
def lPer (a b : Int) : Per := ⟨a.tmod 40, if b.tmod 11 = 0 then 1000000 else a.tmod 40 + 1 + b.tmod 15⟩
def an57 : Ann where
  res := fun _ => none
  lend := fun _ => false
  sch := fun _ => .done
  lt := fun _ => []
  tup := tups

theorem vc57 (P : Program) (H : Heap) (from0 : Int) (length : Int) (post : Int → Int → Heap → Prop) :
  vcFn P tab an57 Try.f57 [.int .u16 from0, .int .u16 length] 0 H ⟨false, [(true, [.int .i64, .int .i64])]⟩ post =
  (  (40 : Int) ≠ (0 : Int) ∧ ∃ (e0 : Int), IntKind.wrap IntKind.i64 (Int.tmod from0 (40 : Int)) = e0 ∧ (11 : Int) ≠ (0 : Int) ∧ (decide (Int.tmod length (11 : Int) = (0 : Int)) = true → post e0
  (1000000 : Int) H) ∧ (decide (Int.tmod length (11 : Int) = (0 : Int)) = false → rng .i64 (e0 + (1 : Int)) ∧ (15 : Int) ≠ (0 : Int) ∧ ∃ (e3 : Int), IntKind.wrap IntKind.i64 (Int.tmod length
  (15 : Int)) = e3 ∧ rng .i64 (e0 + (1 : Int) + e3) ∧ post e0 (e0 + (1 : Int) + e3) H)) := by kernel_rfl
theorem law0_Period {a b : Int} {H : Heap} (ha : 0 ≤ a) (hb : 0 ≤ b) : ConT Try.prog 57 [.int .u16 a, .int .u16 b] H ⟨false, [(true, [.int .i64, .int .i64])]⟩ (fun x y _ => (⟨x, y⟩ : Per) = lPer a b) := by
  refine con_of_vc (an := an57) (fn := Try.f57) mix tabOK Try.func57 (by kernel_rfl) (extra := 0) ?_
  rw [vc57]
  have h1 := tmod_bd ha (m := 40) (by decide)
  have h2 := tmod_bd hb (m := 15) (by decide)
  refine ⟨by decide, _, wrap_i64 h1.1 (by omega), by decide, fun h => ?_, fun h => ⟨by simp only [rng]; omega, by decide, _, wrap_i64 h2.1 (by omega), by simp only [rng]; omega, ?_⟩⟩
  · have h := of_decide_eq_true h
    simp [lPer, h]
  · have h := of_decide_eq_false h
    simp [lPer, h]
structure U5 where
  a : Int
  b : Int
  c : Int
  d : Int
  e : Int
instance : Rep U5 where
  sz := 5
  byt := 10
  rel _ vs v := vs = [.int .u16 v.a, .int .u16 v.b, .int .u16 v.c, .int .u16 v.d, .int .u16 v.e] ∧ rng .u16 v.a ∧ rng .u16 v.b ∧ rng .u16 v.c ∧ rng .u16 v.d ∧ rng .u16 v.e
  mono _ h := h
  len h := by simp [h.1]
  pos := by decide
  bpos := by decide
  one h := by rw [h.1]; simp [Value.oneCell']
end Go.Vc
/- The laws' drawn tuples, all of them. -/
namespace Go.Vc
open Go Go.Proofs Go.Shelf
end Go.Vc
/- KeysApart: the law's text. -/
namespace Go.Vc
open Go Go.Proofs Go.Shelf
end Go.Vc
/- Rows: comparing, copying, sorting; the rows of a day. -/
namespace Go.Vc
open Go Go.Proofs Go.Shelf
def an46 : Ann where
  res := fun _ => none
  lend := fun _ => false
  sch := fun _ => .done
  lt := fun _ => []
  tup := tups

theorem vc46 (P : Program) (H : Heap) (sA : Option Addr) (sN sC : Nat) (post : Option Addr → Nat → Nat → Heap → Prop) :
  vcFn P tab an46 Try.f46 [.slice sA sN sC] 0 H ⟨false, [(false, [.sl])]⟩ post =
  (  (Option.isNone sA = true → post none 0 0 H) ∧ (Option.isNone sA = false → ∃ (ys2 : List Value), Cells H sA 0 ys2 ∧ List.length ys2 = sN * 3 ∧ (0 + sN) * 32 ≤ 140737488355328 ∧ ∀ (A3 :
  Option Addr) (c4 : Nat) (H5 : Heap), Heap.le H H5 → Cells H5 A3 0 ([] ++ ys2) → 0 + sN ≤ c4 → post A3 (0 + sN) c4 H5)) := by kernel_rfl
theorem Clone_Val {H : Heap} {A : Option Addr} {n c : Nat} {l : List Val} (hs : Sl H A n c l) :
    ConT Try.prog 46 [.slice A n c] H shS (fun A' n' c' H' => Sl H' A' n' c' l) := by
  refine con_of_vc (an := an46) (fn := Try.f46) mix tabOK Try.func46 (by kernel_rfl) (extra := 0) ?_
  rw [vc46]
  refine ⟨fun hA => ?_, fun hA => ?_⟩
  · have : n = 0 := by
      rcases Nat.eq_zero_or_pos n with h | h
      · exact h
      · obtain ⟨b, o, e⟩ := hs.someA h; simp [e] at hA
    subst this
    rw [List.eq_nil_of_length_eq_zero hs.len]; exact Sl.nil
  · obtain ⟨ys, h1, h2⟩ := hs.row
    refine ⟨ys, h1, by rw [h2.length, hs.len]; rfl, by have := hs.bnd; rw [Nat.zero_add]; exact this, fun A' c' H' hle hc hn => ?_⟩
    rw [Nat.zero_add] at hn ⊢
    exact h2.sl hle (by simpa using hc) hs.len hn hs.bnd hs.bn
def an45 : Ann where
  res := fun _ => none
  lend := fun | 6 => true | _ => false
  sch := fun _ => .done
  lt := fun _ => []
  tup := tups

theorem vc45 (P : Program) (H : Heap) (pFrom : Int) (pTo : Int) (t : Int) (post : Bool → Heap → Prop) :
  vcFn P tab an45 Try.f45 [.agg #[.int .i64 pFrom, .int .i64 pTo], .int .i64 t] 0 H ⟨false, [(false, [.bool])]⟩ post =
  (  ∃ (post0 : Bool → Heap → Prop), ConT P 27 [.agg ⟨[.int .i64 pFrom, .int .i64 pTo]⟩] H ⟨false, [(false, [.bool])]⟩ post0 ∧ ∀ (H1 : Heap), Heap.le H H1 → ∀ (b3 : Bool), post0 b3 H1 → (b3 =
  true → (decide (pFrom ≤ t) = true → post (decide (t < pTo)) H1) ∧ (decide (pFrom ≤ t) = false → post false H1)) ∧ (b3 = false → post false H1)) := by kernel_rfl
theorem period_Includes {a b t : Int} {H : Heap} : ConT Try.prog 45 [.agg ⟨[.int .i64 a, .int .i64 b]⟩, .int .i64 t] H shB (fun r _ => r = pIn ⟨a, b⟩ t) := by
  refine con_of_vc (an := an45) (fn := Try.f45) mix tabOK Try.func45 (by kernel_rfl) (extra := 0) ?_
  rw [vc45]
  refine ⟨_, period_Valid, ?_⟩
  rintro H1 l1 _ rfl
  refine ⟨fun h => ⟨fun h1 => ?_, fun h1 => ?_⟩, fun h => ?_⟩ <;> simp only [pIn, *] <;> simp
end Go.Vc
/- The laws' column lists; the laws' tuples as a public slice. -/
namespace Go.Vc
open Go Go.Proofs Go.Shelf
end Go.Vc
/- The reference's rows: comparing, sorting. -/
namespace Go.Vc
open Go Go.Proofs Go.Shelf
/- sorted lists -/
def leF {T : Type} (f : T → T → Int) (x y : T) : Prop := ¬ f y x < 0
section
variable {T : Type} {f : T → T → Int}
/- merging two sorted lists -/
structure Mrg (f : T → T → Int) (a b out : List T) (i k : Nat) : Prop where
  perm : out.Perm (a.take i ++ b.take k)
  sorted : out.Pairwise (leF f)
  le : ∀ x ∈ out, ∀ y ∈ a.drop i ++ b.drop k, leF f x y
theorem Mrg.nil {a b : List T} : Mrg f a b [] 0 0 := ⟨by simp, by simp, fun x h => by cases h⟩
theorem Mrg.left (hO : Ord3 f) {a b out : List T} {i k : Nat} (h : Mrg f a b out i k) (ha : a.Pairwise (leF f)) (hi : i < a.length) (hb : ∀ y ∈ b.drop k, leF f a[i] y) : Mrg f a b (out ++ [a[i]]) (i + 1) k := by
  have hd : a.drop i = a[i] :: a.drop (i + 1) := List.drop_eq_getElem_cons hi
  refine ⟨?_, ?_, ?_⟩
  · rw [List.take_succ_eq_append_getElem hi, List.append_assoc]
    refine (List.Perm.append_right _ h.perm).trans ?_
    rw [List.append_assoc]
    exact List.Perm.append_left _ List.perm_append_comm
  · refine List.pairwise_append.2 ⟨h.sorted, by simp, fun x hx y hy => ?_⟩
    simp at hy; subst hy
    exact h.le x hx _ (List.mem_append_left _ (hd ▸ List.mem_cons_self))
  · intro x hx y hy
    rcases List.mem_append.1 hx with hx | hx
    · refine h.le x hx y ?_
      rcases List.mem_append.1 hy with hy | hy
      · exact List.mem_append_left _ (hd ▸ List.mem_cons_of_mem _ hy)
      · exact List.mem_append_right _ hy
    · simp at hx; subst hx
      rcases List.mem_append.1 hy with hy | hy
      · have := List.Pairwise.sublist (List.drop_sublist i a) ha
        rw [hd] at this
        exact (List.pairwise_cons.1 this).1 y hy
      · exact hb y hy
theorem Mrg.right (hO : Ord3 f) {a b out : List T} {i k : Nat} (h : Mrg f a b out i k) (hb : b.Pairwise (leF f)) (hk : k < b.length) (ha : ∀ y ∈ a.drop i, leF f b[k] y) : Mrg f a b (out ++ [b[k]]) i (k + 1) := by
  have hd : b.drop k = b[k] :: b.drop (k + 1) := List.drop_eq_getElem_cons hk
  refine ⟨?_, ?_, ?_⟩
  · rw [List.take_succ_eq_append_getElem hk, ← List.append_assoc]
    exact List.Perm.append_right _ h.perm
  · refine List.pairwise_append.2 ⟨h.sorted, by simp, fun x hx y hy => ?_⟩
    simp at hy; subst hy
    exact h.le x hx _ (List.mem_append_right _ (hd ▸ List.mem_cons_self))
  · intro x hx y hy
    rcases List.mem_append.1 hx with hx | hx
    · refine h.le x hx y ?_
      rcases List.mem_append.1 hy with hy | hy
      · exact List.mem_append_left _ hy
      · exact List.mem_append_right _ (hd ▸ List.mem_cons_of_mem _ hy)
    · simp at hx; subst hx
      rcases List.mem_append.1 hy with hy | hy
      · exact ha y hy
      · have := List.Pairwise.sublist (List.drop_sublist k b) hb
        rw [hd] at this
        exact (List.pairwise_cons.1 this).1 y hy
end
end Go.Vc
/- The reference's MergeLineage. -/
namespace Go.Vc
open Go Go.Proofs Go.Shelf
/- ascending without duplicates, the members of p -/
structure InsP (out p : List Int) : Prop where
  asc : out.Pairwise (fun a b => a < b)
  mem : ∀ y, y ∈ out ↔ y ∈ p
  len : out.length ≤ p.length
theorem InsP.nil : InsP [] [] := ⟨List.Pairwise.nil, fun _ => Iff.rfl, Nat.le_refl _⟩
theorem InsP.old {out p : List Int} {x : Int} (h : InsP out p) (hx : x ∈ out) : InsP out (p ++ [x]) := by
  refine ⟨h.asc, fun y => ?_, by have := h.len; simp; omega⟩
  rw [List.mem_append, List.mem_singleton, ← h.mem]
  exact ⟨.inl, fun h => h.elim id (fun e => e ▸ hx)⟩
theorem InsP.ins {out p : List Int} {x : Int} {k : Nat} (h : InsP out p) (hk : k ≤ out.length) (hlt : ∀ y ∈ out.take k, y < x) (hge : ∀ z, out[k]? = some z → x < z) :
    InsP (out.take k ++ [x] ++ out.drop k) (p ++ [x]) := by
  have hall : ∀ y ∈ out.drop k, x < y := by
    intro y hy
    by_cases hk' : k < out.length
    · have hd : out.drop k = out[k] :: out.drop (k + 1) := List.drop_eq_getElem_cons hk'
      have hs := List.Pairwise.sublist (List.drop_sublist k out) h.asc
      rw [hd] at hy hs
      have := hge _ (List.getElem?_eq_getElem hk')
      rcases List.mem_cons.1 hy with rfl | hy
      · exact this
      · have := (List.pairwise_cons.1 hs).1 y hy
        omega
    · rw [List.drop_eq_nil_of_le (by omega)] at hy; cases hy
  refine ⟨?_, fun y => ?_, ?_⟩
  · refine List.pairwise_append.2 ⟨List.pairwise_append.2 ⟨List.Pairwise.sublist (List.take_sublist k out) h.asc, by simp, fun a ha b hb => ?_⟩, List.Pairwise.sublist (List.drop_sublist k out) h.asc, fun a ha b hb => ?_⟩
    · simp at hb; subst hb; exact hlt a ha
    · have := hall b hb
      rcases List.mem_append.1 ha with ha | ha
      · have := hlt a ha; omega
      · simp at ha; subst ha; omega
  · rw [List.mem_append, List.mem_append, List.mem_append, ← h.mem y]
    conv => rhs; rw [← List.take_append_drop k out, List.mem_append]
    constructor
    · rintro ((h | h) | h)
      · exact .inl (.inl h)
      · exact .inr h
      · exact .inl (.inr h)
    · rintro ((h | h) | h)
      · exact .inl (.inl h)
      · exact .inr h
      · exact .inl (.inr h)
  · have := h.len
    simp only [List.length_append, List.length_take, List.length_drop, List.length_cons, List.length_nil]; omega
theorem asc_unique {l m : List Int} (hl : l.Pairwise (fun a b => a < b)) (hm : m.Pairwise (fun a b => a < b)) (h : ∀ y, y ∈ l ↔ y ∈ m) : l = m := by
  have n1 : l.Nodup := hl.imp (fun h => by omega)
  have n2 : m.Nodup := hm.imp (fun h => by omega)
  exact List.Perm.eq_of_pairwise (le := fun a b : Int => a < b) (fun a b _ _ h h' => by omega) hl hm ((List.perm_ext_iff_of_nodup n1 n2).2 h)
theorem mergeLin_asc (a b : List Int) : (mergeLin a b).Pairwise (fun a b => a < b) := compact_asc _ (sortI_asc _)
theorem mergeLin_mem (a b : List Int) (y : Int) : y ∈ mergeLin a b ↔ y ∈ a ∨ y ∈ b := by
  rw [mergeLin, compact_mem, sortI, List.mem_mergeSort, List.mem_append]
theorem InsP.eq {out a b : List Int} (h : InsP out (a ++ b)) : out = mergeLin a b :=
  asc_unique h.asc (mergeLin_asc a b) fun y => by rw [h.mem, mergeLin_mem, List.mem_append]
def mlInv (p : List Int) (A : Option Addr) (n c : Nat) (H : Heap) : Prop := ∃ out, Sl H A n c out ∧ InsP out p
def InsAlt (H24 : Heap) (A33 A35 : Option Addr) (n26 : Int) (n16 : Nat) (n21 : Int) (R : Prop) (K : Option Addr → Nat → Nat → Heap → Prop) : Prop :=
  ∃ (ys37 : List Value), Cells H24 A33 0 ys37 ∧ List.length ys37 = (Int.toNat n26 - Int.toNat (0 : Int)) * 1 ∧ (Int.toNat n26 - Int.toNat (0 : Int)) * 8 ≤ 140737488355328 ∧ (Int.toNat n26 - Int.toNat (0 : Int) + 1) * 8 ≤ 140737488355328 ∧
    ∃ (ys38 : List Value), Cells H24 A35 0 ys38 ∧ List.length ys38 = (Int.toNat (↑n16 : Int) - Int.toNat n26) * 1 ∧ (Int.toNat n26 - Int.toNat (0 : Int) + 1 + (Int.toNat (↑n16 : Int) - Int.toNat n26)) * 8 ≤ 140737488355328 ∧ R ∧
    ∀ (A39 : Option Addr) (c40 : Nat) (H41 : Heap), Heap.le H24 H41 → Cells H41 A39 0 (ys37 ++ [.int .i64 n21] ++ ys38) → Int.toNat n26 - Int.toNat (0 : Int) + 1 + (Int.toNat (↑n16 : Int) - Int.toNat n26) ≤ c40 →
      K A39 (Int.toNat n26 - Int.toNat (0 : Int) + 1 + (Int.toNat (↑n16 : Int) - Int.toNat n26)) c40 H41
def InsF (H : Heap) (A : Option Addr) (n c : Nat) (k x : Int) (R : Prop) (K : Option Addr → Nat → Nat → Heap → Prop) : Prop :=
  (0 : Int) ≤ (0 : Int) ∧ (0 : Int) ≤ k ∧ k ≤ (↑c : Int) ∧ ∀ (A33 : Option Addr), A33 = subA A c (Int.toNat (0 : Int)) 1 → (0 : Int) ≤ k ∧ k ≤ (↑n : Int) ∧ (↑n : Int) ≤ (↑c : Int) ∧ ∀ (A35 : Option Addr), A35 = subA A c (Int.toNat k) 1 →
    InsAlt H A33 A35 k n x R K ∧ InsAlt H A33 A35 k n x R K
theorem insF_ok {H : Heap} {A : Option Addr} {n c : Nat} {k x : Int} {R : Prop} {K : Option Addr → Nat → Nat → Heap → Prop} {out : List Int} (hs : Sl H A n c out) (h0 : 0 ≤ k) (hk : k ≤ n) (hb : (n + 1) * 8 ≤ 140737488355328) (hR : R) (hx : rng .i64 x)
    (hK : ∀ A' m c' H', m = n + 1 → Heap.le H H' → Sl H' A' m c' (out.take k.toNat ++ [x] ++ out.drop k.toNat) → K A' m c' H') : InsF H A n c k x R K := by
  have hl := hs.len; have hc := hs.cap
  refine ⟨by omega, h0, by omega, ?_⟩
  rintro _ rfl
  refine ⟨h0, hk, by omega, ?_⟩
  rintro _ rfl
  have s1 := hs.sub (j := 0) (k := k.toNat) (by omega) (by omega)
  have s2 := hs.sub (j := k.toNat) (k := n) (by omega) (by omega)
  rw [List.drop_zero] at s1
  rw [List.take_of_length_le (by omega)] at s2
  obtain ⟨ys1, u1, u2⟩ := s1.row
  obtain ⟨ys2, v1, v2⟩ := s2.row
  have e1 : Int.toNat k - Int.toNat (0 : Int) + 1 + (Int.toNat (↑n : Int) - Int.toNat k) = n + 1 := by simp; omega
  have key : InsAlt H (subA A c (Int.toNat (0 : Int)) 1) (subA A c (Int.toNat k) 1) k n x R K := by
    refine ⟨ys1, u1, ?_, ?_, ?_, ys2, v1, ?_, ?_, hR, fun A' c' H' l hc' hn' => hK _ _ _ _ e1 l ?_⟩
    · rw [u2.length, List.length_take]; simp; show _ * 1 = _; omega
    · simp; omega
    · simp; omega
    · rw [v2.length, List.length_drop]; simp; show _ * 1 = _; omega
    · rw [e1]; exact hb
    · refine Row.sl (H := H) ((u2.append (Row.one ⟨rfl, hx⟩)).append v2) l hc' ?_ hn' ?_ ?_
      · rw [e1]; simp; omega
      · rw [e1]; exact hb
      · rw [e1]; omega
  exact ⟨key, key⟩
def MLT (inv11 : Option Addr → Nat → Nat → Int → Heap → Prop) (m12 : Option Addr → Nat → Nat → Int → Nat) (H24 : Heap) (A15 : Option Addr) (n16 c17 : Nat) (n18 n21 n26 : Int) : Prop :=
  (decide (n26 = (↑n16 : Int)) = true → InsF H24 A15 n16 c17 n26 n21 (rng .i64 (n18 + 1)) fun A m c H' => inv11 A m c (n18 + 1) H' ∧ m12 A m c (n18 + 1) < m12 A15 n16 c17 n18) ∧
  (decide (n26 = (↑n16 : Int)) = false → someA A15 ∧ (0 : Int) ≤ n26 ∧ n26 < (↑n16 : Int) ∧ ∃ (n54 : Int), Cells H24 A15 (Int.toNat n26 * 1) [.int .i64 n54] ∧
    ((!decide (n54 = n21)) = true → InsF H24 A15 n16 c17 n26 n21 (rng .i64 (n18 + 1)) fun A m c H' => inv11 A m c (n18 + 1) H' ∧ m12 A m c (n18 + 1) < m12 A15 n16 c17 n18) ∧
    ((!decide (n54 = n21)) = false → rng .i64 (n18 + (1 : Int)) ∧ inv11 A15 n16 c17 (n18 + (1 : Int)) H24 ∧ m12 A15 n16 c17 (n18 + (1 : Int)) < m12 A15 n16 c17 n18))
def MLI (H2 : Heap) (aA : Option Addr) (aN : Nat) (A4 : Option Addr) (n5 c6 : Nat) (K : Option Addr → Nat → Nat → Heap → Prop) : Prop :=
  ∃ (inv11 : Option Addr → Nat → Nat → Int → Heap → Prop), ∃ (m12 : Option Addr → Nat → Nat → Int → Nat), inv11 A4 n5 c6 (0 : Int) H2 ∧ ∀ (H13 : Heap), Heap.le H2 H13 → ∀ (A15 : Option Addr) (n16 c17 : Nat) (n18 : Int), inv11 A15 n16 c17 n18 H13 →
    (decide (n18 < (↑aN : Int)) = true → someA aA ∧ (0 : Int) ≤ n18 ∧ n18 < (↑aN : Int) ∧ ∃ (n21 : Int), Cells H13 aA (Int.toNat n18 * 1) [.int .i64 n21] ∧ ∃ (inv22 : Int → Heap → Prop), ∃ (m23 : Int → Nat), inv22 (0 : Int) H13 ∧
      ∀ (H24 : Heap), Heap.le H13 H24 → ∀ (n26 : Int), inv22 n26 H24 →
        (decide (n26 < (↑n16 : Int)) = true → someA A15 ∧ (0 : Int) ≤ n26 ∧ n26 < (↑n16 : Int) ∧ ∃ (n29 : Int), Cells H24 A15 (Int.toNat n26 * 1) [.int .i64 n29] ∧
          (decide (n29 < n21) = true → rng .i64 (n26 + (1 : Int)) ∧ inv22 (n26 + (1 : Int)) H24 ∧ m23 (n26 + (1 : Int)) < m23 n26) ∧ (decide (n29 < n21) = false → MLT inv11 m12 H24 A15 n16 c17 n18 n21 n26)) ∧
        (decide (n26 < (↑n16 : Int)) = false → MLT inv11 m12 H24 A15 n16 c17 n18 n21 n26)) ∧
    (decide (n18 < (↑aN : Int)) = false → K A15 n16 c17 H13)
theorem mli {H H2 : Heap} {aA : Option Addr} {aN aC : Nat} {a p : List Int} (hs : Sl H aA aN aC a) (hle : Heap.le H H2) (hb : (p.length + aN) * 8 ≤ 140737488355328) {A4 : Option Addr} {n5 c6 : Nat} (h : mlInv p A4 n5 c6 H2)
    {K : Option Addr → Nat → Nat → Heap → Prop} (hK : ∀ A n c H', Heap.le H2 H' → mlInv (p ++ a) A n c H' → K A n c H') : MLI H2 aA aN A4 n5 c6 K := by
  have hal := hs.len
  refine ⟨fun A n c j H' => 0 ≤ j ∧ j ≤ aN ∧ mlInv (p ++ a.take j.toNat) A n c H', fun _ _ _ j => aN - j.toNat, ⟨by omega, by omega, by simpa using h⟩, ?_⟩
  rintro H13 l13 A15 n16 c17 j ⟨j0, j1, out, ho, hi⟩
  have hol := ho.len
  have hil := hi.len
  rw [List.length_append, List.length_take] at hil
  refine ⟨fun hlt => ?_, fun hge => ?_⟩
  · have hlt := of_decide_eq_true hlt
    obtain ⟨hj, hA, _, hc, ⟨rfl, hx⟩⟩ := hs.at (hle_trans hle l13) j0 hlt
    have hsu : p ++ a.take (j + 1).toNat = (p ++ a.take j.toNat) ++ [a[j.toNat]] := by
      rw [show (j + 1).toNat = j.toNat + 1 by omega, List.take_succ_eq_append_getElem hj, List.append_assoc]
    generalize a[j.toNat] = x at hc hx hsu
    refine ⟨hA, j0, hlt, x, hc, fun k _ => 0 ≤ k ∧ k ≤ n16 ∧ ∀ y ∈ out.take k.toNat, y < x, fun k => n16 - k.toNat, ⟨by omega, by omega, by simp⟩, ?_⟩
    rintro H24 l24 k ⟨k0, k1, hbel⟩
    have ho24 := ho.mono l24
    have ins : (∀ z, out[k.toNat]? = some z → x < z) → InsF H24 A15 n16 c17 k x (rng .i64 (j + 1)) fun A m c H' => (0 ≤ j + 1 ∧ j + 1 ≤ aN ∧ mlInv (p ++ a.take (j + 1).toNat) A m c H') ∧ aN - (j + 1).toNat < aN - j.toNat := by
      have hins := hi.ins (x := x) (k := k.toNat) (by omega) hbel
      intro hge
      have hins := hins hge
      clear hge
      refine insF_ok ho24 k0 k1 (by omega) (by simp only [rng]; omega) hx ?_
      rintro A' m c' H' - l' hs'
      refine ⟨⟨by omega, by omega, _, hs', ?_⟩, by omega⟩
      rw [hsu]
      exact hins
    have tail : (∀ z, out[k.toNat]? = some z → x ≤ z) → MLT (fun A n c j H' => 0 ≤ j ∧ j ≤ aN ∧ mlInv (p ++ a.take j.toNat) A n c H') (fun _ _ _ j => aN - j.toNat) H24 A15 n16 c17 j x k := by
      intro hge
      refine ⟨fun he => ins fun z hz => ?_, fun he => ?_⟩
      · have he := of_decide_eq_true he
        rw [List.getElem?_eq_none (by omega)] at hz; cases hz
      · have he := of_decide_eq_false he
        have hkn0 : k < n16 := by omega
        obtain ⟨hk, hB, _, hd, ⟨rfl, hx'⟩⟩ := ho.at l24 k0 hkn0
        have hg := hge _ (List.getElem?_eq_getElem hk)
        have hkn : k < n16 := by omega
        refine ⟨hB, k0, hkn, _, hd, fun hne => ?_, fun heq => ⟨by simp only [rng]; omega, ⟨by omega, by omega, out, ho24, ?_⟩, by dsimp only; omega⟩⟩
        · have hne : ¬ out[k.toNat] = x := by simpa using hne
          have hlt' : x < out[k.toNat] := by omega
          exact ins fun z hz => by rw [List.getElem?_eq_getElem hk] at hz; cases hz; exact hlt'
        · have heq : out[k.toNat] = x := by simpa using heq
          rw [hsu]
          exact hi.old (heq ▸ List.getElem_mem hk)
    refine ⟨fun hlk => ?_, fun hgk => ?_⟩
    · have hlk := of_decide_eq_true hlk
      obtain ⟨hk, hB, _, hd, ⟨rfl, hx'⟩⟩ := ho.at l24 k0 hlk
      refine ⟨hB, k0, hlk, _, hd, fun h1 => ⟨by simp only [rng]; omega, ⟨by omega, by omega, ?_⟩, by dsimp only; omega⟩, fun h1 => ?_⟩
      · have h1 := of_decide_eq_true h1
        rw [show (k + 1).toNat = k.toNat + 1 by omega, List.take_succ_eq_append_getElem hk]
        intro y hy
        rcases List.mem_append.1 hy with hy | hy
        · exact hbel y hy
        · simp at hy; subst hy; exact h1
      · have h1 := of_decide_eq_false h1
        have h2 : x ≤ out[k.toNat] := by omega
        exact tail fun z hz => by rw [List.getElem?_eq_getElem hk] at hz; cases hz; exact h2
    · have hgk := of_decide_eq_false hgk
      have h2 : ¬ k.toNat < out.length := by omega
      exact tail fun z hz => by rw [List.getElem?_eq_none (by omega)] at hz; cases hz
  · have hge := of_decide_eq_false hge
    rw [List.take_of_length_le (by omega)] at hi
    exact hK _ _ _ _ l13 ⟨out, ho, hi⟩
def an26 : Ann where
  res := fun _ => none
  lend := fun _ => false
  sch := fun | 12 => (tk [0, 1, 2, 4, 7, 8, 9] (.alt 3 (.alt 5 (.alt 6 (.alt 10 (tk [11] .done) .fin) .fin) .fin) (.alt 5 (.alt 3 (.alt 6 (.alt 10 (tk [11] .done) .fin) .fin) .fin) .fin))) | _ => .done
  lt := fun | 3 => [.slot 5 false [.sl], .slot 14 false [.int .i64]] | 6 => [.slot 5 false [.sl], .slot 19 false [.int .i64]] | 9 => [.slot 10 false [.int .i64]] | _ => []
  tup := tups

theorem vc26 (P : Program) (H : Heap) (aA : Option Addr) (aN aC : Nat) (bA : Option Addr) (bN bC : Nat) (post : Option Addr → Nat → Nat → Heap → Prop) :
  vcFn P tab an26 Try.f26 [.slice aA aN aC, .slice bA bN bC] 0 H ⟨false, [(false, [.sl])]⟩ post =
  (  ∃ (inv0 : Option Addr → Nat → Nat → Int → Heap → Prop), ∃ (m1 : Option Addr → Nat → Nat → Int → Nat), inv0 none 0 0 (0 : Int) H ∧ ∀ (H2 : Heap), Heap.le H H2 → ∀ (A4 : Option Addr) (n5 c6 :
  Nat) (n7 : Int), inv0 A4 n5 c6 n7 H2 → (decide (n7 < (2 : Int)) = true → (0 : Int) ≤ n7 ∧ n7 < (↑2 : Int) ∧ (n7 = (↑0 : Int) → ∃ (inv11 : Option Addr → Nat → Nat → Int → Heap → Prop), ∃
  (m12 : Option Addr → Nat → Nat → Int → Nat), inv11 A4 n5 c6 (0 : Int) H2 ∧ ∀ (H13 : Heap), Heap.le H2 H13 → ∀ (A15 : Option Addr) (n16 c17 : Nat) (n18 : Int), inv11 A15 n16 c17 n18 H13 →
  (decide (n18 < (↑aN : Int)) = true → someA aA ∧ (0 : Int) ≤ n18 ∧ n18 < (↑aN : Int) ∧ ∃ (n21 : Int), Cells H13 aA (Int.toNat n18 * 1) [.int .i64 n21] ∧ ∃ (inv22 : Int → Heap → Prop), ∃ (m23
  : Int → Nat), inv22 (0 : Int) H13 ∧ ∀ (H24 : Heap), Heap.le H13 H24 → ∀ (n26 : Int), inv22 n26 H24 → (decide (n26 < (↑n16 : Int)) = true → someA A15 ∧ (0 : Int) ≤ n26 ∧ n26 < (↑n16 : Int) ∧
  ∃ (n29 : Int), Cells H24 A15 (Int.toNat n26 * 1) [.int .i64 n29] ∧ (decide (n29 < n21) = true → rng .i64 (n26 + (1 : Int)) ∧ inv22 (n26 + (1 : Int)) H24 ∧ m23 (n26 + (1 : Int)) < m23 n26) ∧
  (decide (n29 < n21) = false → (decide (n26 = (↑n16 : Int)) = true → (0 : Int) ≤ (0 : Int) ∧ (0 : Int) ≤ n26 ∧ n26 ≤ (↑c17 : Int) ∧ ∀ (A33 : Option Addr), A33 = subA A15 c17 (Int.toNat (0 :
  Int)) 1 → (0 : Int) ≤ n26 ∧ n26 ≤ (↑n16 : Int) ∧ (↑n16 : Int) ≤ (↑c17 : Int) ∧ ∀ (A35 : Option Addr), A35 = subA A15 c17 (Int.toNat n26) 1 → (∃ (ys37 : List Value), Cells H24 A33 0 ys37 ∧
  List.length ys37 = (Int.toNat n26 - Int.toNat (0 : Int)) * 1 ∧ (Int.toNat n26 - Int.toNat (0 : Int)) * 8 ≤ 140737488355328 ∧ (Int.toNat n26 - Int.toNat (0 : Int) + 1) * 8 ≤ 140737488355328
  ∧ ∃ (ys38 : List Value), Cells H24 A35 0 ys38 ∧ List.length ys38 = (Int.toNat (↑n16 : Int) - Int.toNat n26) * 1 ∧ (Int.toNat n26 - Int.toNat (0 : Int) + 1 + (Int.toNat (↑n16 : Int) -
  Int.toNat n26)) * 8 ≤ 140737488355328 ∧ rng .i64 (n18 + (1 : Int)) ∧ ∀ (A39 : Option Addr) (c40 : Nat) (H41 : Heap), Heap.le H24 H41 → Cells H41 A39 0 (ys37 ++ [.int .i64 n21] ++ ys38) →
  Int.toNat n26 - Int.toNat (0 : Int) + 1 + (Int.toNat (↑n16 : Int) - Int.toNat n26) ≤ c40 → inv11 A39 (Int.toNat n26 - Int.toNat (0 : Int) + 1 + (Int.toNat (↑n16 : Int) - Int.toNat n26)) c40
  (n18 + (1 : Int)) H41 ∧ m12 A39 (Int.toNat n26 - Int.toNat (0 : Int) + 1 + (Int.toNat (↑n16 : Int) - Int.toNat n26)) c40 (n18 + (1 : Int)) < m12 A15 n16 c17 n18) ∧ ∃ (ys45 : List Value),
  Cells H24 A33 0 ys45 ∧ List.length ys45 = (Int.toNat n26 - Int.toNat (0 : Int)) * 1 ∧ (Int.toNat n26 - Int.toNat (0 : Int)) * 8 ≤ 140737488355328 ∧ (Int.toNat n26 - Int.toNat (0 : Int) + 1)
  * 8 ≤ 140737488355328 ∧ ∃ (ys46 : List Value), Cells H24 A35 0 ys46 ∧ List.length ys46 = (Int.toNat (↑n16 : Int) - Int.toNat n26) * 1 ∧ (Int.toNat n26 - Int.toNat (0 : Int) + 1 + (Int.toNat
  (↑n16 : Int) - Int.toNat n26)) * 8 ≤ 140737488355328 ∧ rng .i64 (n18 + (1 : Int)) ∧ ∀ (A47 : Option Addr) (c48 : Nat) (H49 : Heap), Heap.le H24 H49 → Cells H49 A47 0 (ys45 ++ [.int .i64
  n21] ++ ys46) → Int.toNat n26 - Int.toNat (0 : Int) + 1 + (Int.toNat (↑n16 : Int) - Int.toNat n26) ≤ c48 → inv11 A47 (Int.toNat n26 - Int.toNat (0 : Int) + 1 + (Int.toNat (↑n16 : Int) -
  Int.toNat n26)) c48 (n18 + (1 : Int)) H49 ∧ m12 A47 (Int.toNat n26 - Int.toNat (0 : Int) + 1 + (Int.toNat (↑n16 : Int) - Int.toNat n26)) c48 (n18 + (1 : Int)) < m12 A15 n16 c17 n18) ∧
  (decide (n26 = (↑n16 : Int)) = false → someA A15 ∧ (0 : Int) ≤ n26 ∧ n26 < (↑n16 : Int) ∧ ∃ (n54 : Int), Cells H24 A15 (Int.toNat n26 * 1) [.int .i64 n54] ∧ ((!decide (n54 = n21)) = true →
  (0 : Int) ≤ (0 : Int) ∧ (0 : Int) ≤ n26 ∧ n26 ≤ (↑c17 : Int) ∧ ∀ (A56 : Option Addr), A56 = subA A15 c17 (Int.toNat (0 : Int)) 1 → (0 : Int) ≤ n26 ∧ n26 ≤ (↑n16 : Int) ∧ (↑n16 : Int) ≤
  (↑c17 : Int) ∧ ∀ (A58 : Option Addr), A58 = subA A15 c17 (Int.toNat n26) 1 → (∃ (ys60 : List Value), Cells H24 A56 0 ys60 ∧ List.length ys60 = (Int.toNat n26 - Int.toNat (0 : Int)) * 1 ∧
  (Int.toNat n26 - Int.toNat (0 : Int)) * 8 ≤ 140737488355328 ∧ (Int.toNat n26 - Int.toNat (0 : Int) + 1) * 8 ≤ 140737488355328 ∧ ∃ (ys61 : List Value), Cells H24 A58 0 ys61 ∧ List.length
  ys61 = (Int.toNat (↑n16 : Int) - Int.toNat n26) * 1 ∧ (Int.toNat n26 - Int.toNat (0 : Int) + 1 + (Int.toNat (↑n16 : Int) - Int.toNat n26)) * 8 ≤ 140737488355328 ∧ rng .i64 (n18 + (1 : Int))
  ∧ ∀ (A62 : Option Addr) (c63 : Nat) (H64 : Heap), Heap.le H24 H64 → Cells H64 A62 0 (ys60 ++ [.int .i64 n21] ++ ys61) → Int.toNat n26 - Int.toNat (0 : Int) + 1 + (Int.toNat (↑n16 : Int) -
  Int.toNat n26) ≤ c63 → inv11 A62 (Int.toNat n26 - Int.toNat (0 : Int) + 1 + (Int.toNat (↑n16 : Int) - Int.toNat n26)) c63 (n18 + (1 : Int)) H64 ∧ m12 A62 (Int.toNat n26 - Int.toNat (0 :
  Int) + 1 + (Int.toNat (↑n16 : Int) - Int.toNat n26)) c63 (n18 + (1 : Int)) < m12 A15 n16 c17 n18) ∧ ∃ (ys68 : List Value), Cells H24 A56 0 ys68 ∧ List.length ys68 = (Int.toNat n26 -
  Int.toNat (0 : Int)) * 1 ∧ (Int.toNat n26 - Int.toNat (0 : Int)) * 8 ≤ 140737488355328 ∧ (Int.toNat n26 - Int.toNat (0 : Int) + 1) * 8 ≤ 140737488355328 ∧ ∃ (ys69 : List Value), Cells H24
  A58 0 ys69 ∧ List.length ys69 = (Int.toNat (↑n16 : Int) - Int.toNat n26) * 1 ∧ (Int.toNat n26 - Int.toNat (0 : Int) + 1 + (Int.toNat (↑n16 : Int) - Int.toNat n26)) * 8 ≤ 140737488355328 ∧
  rng .i64 (n18 + (1 : Int)) ∧ ∀ (A70 : Option Addr) (c71 : Nat) (H72 : Heap), Heap.le H24 H72 → Cells H72 A70 0 (ys68 ++ [.int .i64 n21] ++ ys69) → Int.toNat n26 - Int.toNat (0 : Int) + 1 +
  (Int.toNat (↑n16 : Int) - Int.toNat n26) ≤ c71 → inv11 A70 (Int.toNat n26 - Int.toNat (0 : Int) + 1 + (Int.toNat (↑n16 : Int) - Int.toNat n26)) c71 (n18 + (1 : Int)) H72 ∧ m12 A70
  (Int.toNat n26 - Int.toNat (0 : Int) + 1 + (Int.toNat (↑n16 : Int) - Int.toNat n26)) c71 (n18 + (1 : Int)) < m12 A15 n16 c17 n18) ∧ ((!decide (n54 = n21)) = false → rng .i64 (n18 + (1 :
  Int)) ∧ inv11 A15 n16 c17 (n18 + (1 : Int)) H24 ∧ m12 A15 n16 c17 (n18 + (1 : Int)) < m12 A15 n16 c17 n18)))) ∧ (decide (n26 < (↑n16 : Int)) = false → (decide (n26 = (↑n16 : Int)) = true →
  (0 : Int) ≤ (0 : Int) ∧ (0 : Int) ≤ n26 ∧ n26 ≤ (↑c17 : Int) ∧ ∀ (A79 : Option Addr), A79 = subA A15 c17 (Int.toNat (0 : Int)) 1 → (0 : Int) ≤ n26 ∧ n26 ≤ (↑n16 : Int) ∧ (↑n16 : Int) ≤
  (↑c17 : Int) ∧ ∀ (A81 : Option Addr), A81 = subA A15 c17 (Int.toNat n26) 1 → (∃ (ys83 : List Value), Cells H24 A79 0 ys83 ∧ List.length ys83 = (Int.toNat n26 - Int.toNat (0 : Int)) * 1 ∧
  (Int.toNat n26 - Int.toNat (0 : Int)) * 8 ≤ 140737488355328 ∧ (Int.toNat n26 - Int.toNat (0 : Int) + 1) * 8 ≤ 140737488355328 ∧ ∃ (ys84 : List Value), Cells H24 A81 0 ys84 ∧ List.length
  ys84 = (Int.toNat (↑n16 : Int) - Int.toNat n26) * 1 ∧ (Int.toNat n26 - Int.toNat (0 : Int) + 1 + (Int.toNat (↑n16 : Int) - Int.toNat n26)) * 8 ≤ 140737488355328 ∧ rng .i64 (n18 + (1 : Int))
  ∧ ∀ (A85 : Option Addr) (c86 : Nat) (H87 : Heap), Heap.le H24 H87 → Cells H87 A85 0 (ys83 ++ [.int .i64 n21] ++ ys84) → Int.toNat n26 - Int.toNat (0 : Int) + 1 + (Int.toNat (↑n16 : Int) -
  Int.toNat n26) ≤ c86 → inv11 A85 (Int.toNat n26 - Int.toNat (0 : Int) + 1 + (Int.toNat (↑n16 : Int) - Int.toNat n26)) c86 (n18 + (1 : Int)) H87 ∧ m12 A85 (Int.toNat n26 - Int.toNat (0 :
  Int) + 1 + (Int.toNat (↑n16 : Int) - Int.toNat n26)) c86 (n18 + (1 : Int)) < m12 A15 n16 c17 n18) ∧ ∃ (ys91 : List Value), Cells H24 A79 0 ys91 ∧ List.length ys91 = (Int.toNat n26 -
  Int.toNat (0 : Int)) * 1 ∧ (Int.toNat n26 - Int.toNat (0 : Int)) * 8 ≤ 140737488355328 ∧ (Int.toNat n26 - Int.toNat (0 : Int) + 1) * 8 ≤ 140737488355328 ∧ ∃ (ys92 : List Value), Cells H24
  A81 0 ys92 ∧ List.length ys92 = (Int.toNat (↑n16 : Int) - Int.toNat n26) * 1 ∧ (Int.toNat n26 - Int.toNat (0 : Int) + 1 + (Int.toNat (↑n16 : Int) - Int.toNat n26)) * 8 ≤ 140737488355328 ∧
  rng .i64 (n18 + (1 : Int)) ∧ ∀ (A93 : Option Addr) (c94 : Nat) (H95 : Heap), Heap.le H24 H95 → Cells H95 A93 0 (ys91 ++ [.int .i64 n21] ++ ys92) → Int.toNat n26 - Int.toNat (0 : Int) + 1 +
  (Int.toNat (↑n16 : Int) - Int.toNat n26) ≤ c94 → inv11 A93 (Int.toNat n26 - Int.toNat (0 : Int) + 1 + (Int.toNat (↑n16 : Int) - Int.toNat n26)) c94 (n18 + (1 : Int)) H95 ∧ m12 A93
  (Int.toNat n26 - Int.toNat (0 : Int) + 1 + (Int.toNat (↑n16 : Int) - Int.toNat n26)) c94 (n18 + (1 : Int)) < m12 A15 n16 c17 n18) ∧ (decide (n26 = (↑n16 : Int)) = false → someA A15 ∧ (0 :
  Int) ≤ n26 ∧ n26 < (↑n16 : Int) ∧ ∃ (n100 : Int), Cells H24 A15 (Int.toNat n26 * 1) [.int .i64 n100] ∧ ((!decide (n100 = n21)) = true → (0 : Int) ≤ (0 : Int) ∧ (0 : Int) ≤ n26 ∧ n26 ≤ (↑c17
  : Int) ∧ ∀ (A102 : Option Addr), A102 = subA A15 c17 (Int.toNat (0 : Int)) 1 → (0 : Int) ≤ n26 ∧ n26 ≤ (↑n16 : Int) ∧ (↑n16 : Int) ≤ (↑c17 : Int) ∧ ∀ (A104 : Option Addr), A104 = subA A15
  c17 (Int.toNat n26) 1 → (∃ (ys106 : List Value), Cells H24 A102 0 ys106 ∧ List.length ys106 = (Int.toNat n26 - Int.toNat (0 : Int)) * 1 ∧ (Int.toNat n26 - Int.toNat (0 : Int)) * 8 ≤
  140737488355328 ∧ (Int.toNat n26 - Int.toNat (0 : Int) + 1) * 8 ≤ 140737488355328 ∧ ∃ (ys107 : List Value), Cells H24 A104 0 ys107 ∧ List.length ys107 = (Int.toNat (↑n16 : Int) - Int.toNat
  n26) * 1 ∧ (Int.toNat n26 - Int.toNat (0 : Int) + 1 + (Int.toNat (↑n16 : Int) - Int.toNat n26)) * 8 ≤ 140737488355328 ∧ rng .i64 (n18 + (1 : Int)) ∧ ∀ (A108 : Option Addr) (c109 : Nat)
  (H110 : Heap), Heap.le H24 H110 → Cells H110 A108 0 (ys106 ++ [.int .i64 n21] ++ ys107) → Int.toNat n26 - Int.toNat (0 : Int) + 1 + (Int.toNat (↑n16 : Int) - Int.toNat n26) ≤ c109 → inv11
  A108 (Int.toNat n26 - Int.toNat (0 : Int) + 1 + (Int.toNat (↑n16 : Int) - Int.toNat n26)) c109 (n18 + (1 : Int)) H110 ∧ m12 A108 (Int.toNat n26 - Int.toNat (0 : Int) + 1 + (Int.toNat (↑n16
  : Int) - Int.toNat n26)) c109 (n18 + (1 : Int)) < m12 A15 n16 c17 n18) ∧ ∃ (ys114 : List Value), Cells H24 A102 0 ys114 ∧ List.length ys114 = (Int.toNat n26 - Int.toNat (0 : Int)) * 1 ∧
  (Int.toNat n26 - Int.toNat (0 : Int)) * 8 ≤ 140737488355328 ∧ (Int.toNat n26 - Int.toNat (0 : Int) + 1) * 8 ≤ 140737488355328 ∧ ∃ (ys115 : List Value), Cells H24 A104 0 ys115 ∧ List.length
  ys115 = (Int.toNat (↑n16 : Int) - Int.toNat n26) * 1 ∧ (Int.toNat n26 - Int.toNat (0 : Int) + 1 + (Int.toNat (↑n16 : Int) - Int.toNat n26)) * 8 ≤ 140737488355328 ∧ rng .i64 (n18 + (1 :
  Int)) ∧ ∀ (A116 : Option Addr) (c117 : Nat) (H118 : Heap), Heap.le H24 H118 → Cells H118 A116 0 (ys114 ++ [.int .i64 n21] ++ ys115) → Int.toNat n26 - Int.toNat (0 : Int) + 1 + (Int.toNat
  (↑n16 : Int) - Int.toNat n26) ≤ c117 → inv11 A116 (Int.toNat n26 - Int.toNat (0 : Int) + 1 + (Int.toNat (↑n16 : Int) - Int.toNat n26)) c117 (n18 + (1 : Int)) H118 ∧ m12 A116 (Int.toNat n26
  - Int.toNat (0 : Int) + 1 + (Int.toNat (↑n16 : Int) - Int.toNat n26)) c117 (n18 + (1 : Int)) < m12 A15 n16 c17 n18) ∧ ((!decide (n100 = n21)) = false → rng .i64 (n18 + (1 : Int)) ∧ inv11
  A15 n16 c17 (n18 + (1 : Int)) H24 ∧ m12 A15 n16 c17 (n18 + (1 : Int)) < m12 A15 n16 c17 n18)))) ∧ (decide (n18 < (↑aN : Int)) = false → rng .i64 (n7 + (1 : Int)) ∧ inv0 A15 n16 c17 (n7 + (1
  : Int)) H13 ∧ m1 A15 n16 c17 (n7 + (1 : Int)) < m1 A4 n5 c6 n7)) ∧ (n7 = (↑1 : Int) → ∃ (inv125 : Option Addr → Nat → Nat → Int → Heap → Prop), ∃ (m126 : Option Addr → Nat → Nat → Int →
  Nat), inv125 A4 n5 c6 (0 : Int) H2 ∧ ∀ (H127 : Heap), Heap.le H2 H127 → ∀ (A129 : Option Addr) (n130 c131 : Nat) (n132 : Int), inv125 A129 n130 c131 n132 H127 → (decide (n132 < (↑bN : Int))
  = true → someA bA ∧ (0 : Int) ≤ n132 ∧ n132 < (↑bN : Int) ∧ ∃ (n135 : Int), Cells H127 bA (Int.toNat n132 * 1) [.int .i64 n135] ∧ ∃ (inv136 : Int → Heap → Prop), ∃ (m137 : Int → Nat),
  inv136 (0 : Int) H127 ∧ ∀ (H138 : Heap), Heap.le H127 H138 → ∀ (n140 : Int), inv136 n140 H138 → (decide (n140 < (↑n130 : Int)) = true → someA A129 ∧ (0 : Int) ≤ n140 ∧ n140 < (↑n130 : Int)
  ∧ ∃ (n143 : Int), Cells H138 A129 (Int.toNat n140 * 1) [.int .i64 n143] ∧ (decide (n143 < n135) = true → rng .i64 (n140 + (1 : Int)) ∧ inv136 (n140 + (1 : Int)) H138 ∧ m137 (n140 + (1 :
  Int)) < m137 n140) ∧ (decide (n143 < n135) = false → (decide (n140 = (↑n130 : Int)) = true → (0 : Int) ≤ (0 : Int) ∧ (0 : Int) ≤ n140 ∧ n140 ≤ (↑c131 : Int) ∧ ∀ (A147 : Option Addr), A147 =
  subA A129 c131 (Int.toNat (0 : Int)) 1 → (0 : Int) ≤ n140 ∧ n140 ≤ (↑n130 : Int) ∧ (↑n130 : Int) ≤ (↑c131 : Int) ∧ ∀ (A149 : Option Addr), A149 = subA A129 c131 (Int.toNat n140) 1 → (∃
  (ys151 : List Value), Cells H138 A147 0 ys151 ∧ List.length ys151 = (Int.toNat n140 - Int.toNat (0 : Int)) * 1 ∧ (Int.toNat n140 - Int.toNat (0 : Int)) * 8 ≤ 140737488355328 ∧ (Int.toNat
  n140 - Int.toNat (0 : Int) + 1) * 8 ≤ 140737488355328 ∧ ∃ (ys152 : List Value), Cells H138 A149 0 ys152 ∧ List.length ys152 = (Int.toNat (↑n130 : Int) - Int.toNat n140) * 1 ∧ (Int.toNat
  n140 - Int.toNat (0 : Int) + 1 + (Int.toNat (↑n130 : Int) - Int.toNat n140)) * 8 ≤ 140737488355328 ∧ rng .i64 (n132 + (1 : Int)) ∧ ∀ (A153 : Option Addr) (c154 : Nat) (H155 : Heap), Heap.le
  H138 H155 → Cells H155 A153 0 (ys151 ++ [.int .i64 n135] ++ ys152) → Int.toNat n140 - Int.toNat (0 : Int) + 1 + (Int.toNat (↑n130 : Int) - Int.toNat n140) ≤ c154 → inv125 A153 (Int.toNat
  n140 - Int.toNat (0 : Int) + 1 + (Int.toNat (↑n130 : Int) - Int.toNat n140)) c154 (n132 + (1 : Int)) H155 ∧ m126 A153 (Int.toNat n140 - Int.toNat (0 : Int) + 1 + (Int.toNat (↑n130 : Int) -
  Int.toNat n140)) c154 (n132 + (1 : Int)) < m126 A129 n130 c131 n132) ∧ ∃ (ys159 : List Value), Cells H138 A147 0 ys159 ∧ List.length ys159 = (Int.toNat n140 - Int.toNat (0 : Int)) * 1 ∧
  (Int.toNat n140 - Int.toNat (0 : Int)) * 8 ≤ 140737488355328 ∧ (Int.toNat n140 - Int.toNat (0 : Int) + 1) * 8 ≤ 140737488355328 ∧ ∃ (ys160 : List Value), Cells H138 A149 0 ys160 ∧
  List.length ys160 = (Int.toNat (↑n130 : Int) - Int.toNat n140) * 1 ∧ (Int.toNat n140 - Int.toNat (0 : Int) + 1 + (Int.toNat (↑n130 : Int) - Int.toNat n140)) * 8 ≤ 140737488355328 ∧ rng .i64
  (n132 + (1 : Int)) ∧ ∀ (A161 : Option Addr) (c162 : Nat) (H163 : Heap), Heap.le H138 H163 → Cells H163 A161 0 (ys159 ++ [.int .i64 n135] ++ ys160) → Int.toNat n140 - Int.toNat (0 : Int) + 1
  + (Int.toNat (↑n130 : Int) - Int.toNat n140) ≤ c162 → inv125 A161 (Int.toNat n140 - Int.toNat (0 : Int) + 1 + (Int.toNat (↑n130 : Int) - Int.toNat n140)) c162 (n132 + (1 : Int)) H163 ∧ m126
  A161 (Int.toNat n140 - Int.toNat (0 : Int) + 1 + (Int.toNat (↑n130 : Int) - Int.toNat n140)) c162 (n132 + (1 : Int)) < m126 A129 n130 c131 n132) ∧ (decide (n140 = (↑n130 : Int)) = false →
  someA A129 ∧ (0 : Int) ≤ n140 ∧ n140 < (↑n130 : Int) ∧ ∃ (n168 : Int), Cells H138 A129 (Int.toNat n140 * 1) [.int .i64 n168] ∧ ((!decide (n168 = n135)) = true → (0 : Int) ≤ (0 : Int) ∧ (0 :
  Int) ≤ n140 ∧ n140 ≤ (↑c131 : Int) ∧ ∀ (A170 : Option Addr), A170 = subA A129 c131 (Int.toNat (0 : Int)) 1 → (0 : Int) ≤ n140 ∧ n140 ≤ (↑n130 : Int) ∧ (↑n130 : Int) ≤ (↑c131 : Int) ∧ ∀
  (A172 : Option Addr), A172 = subA A129 c131 (Int.toNat n140) 1 → (∃ (ys174 : List Value), Cells H138 A170 0 ys174 ∧ List.length ys174 = (Int.toNat n140 - Int.toNat (0 : Int)) * 1 ∧
  (Int.toNat n140 - Int.toNat (0 : Int)) * 8 ≤ 140737488355328 ∧ (Int.toNat n140 - Int.toNat (0 : Int) + 1) * 8 ≤ 140737488355328 ∧ ∃ (ys175 : List Value), Cells H138 A172 0 ys175 ∧
  List.length ys175 = (Int.toNat (↑n130 : Int) - Int.toNat n140) * 1 ∧ (Int.toNat n140 - Int.toNat (0 : Int) + 1 + (Int.toNat (↑n130 : Int) - Int.toNat n140)) * 8 ≤ 140737488355328 ∧ rng .i64
  (n132 + (1 : Int)) ∧ ∀ (A176 : Option Addr) (c177 : Nat) (H178 : Heap), Heap.le H138 H178 → Cells H178 A176 0 (ys174 ++ [.int .i64 n135] ++ ys175) → Int.toNat n140 - Int.toNat (0 : Int) + 1
  + (Int.toNat (↑n130 : Int) - Int.toNat n140) ≤ c177 → inv125 A176 (Int.toNat n140 - Int.toNat (0 : Int) + 1 + (Int.toNat (↑n130 : Int) - Int.toNat n140)) c177 (n132 + (1 : Int)) H178 ∧ m126
  A176 (Int.toNat n140 - Int.toNat (0 : Int) + 1 + (Int.toNat (↑n130 : Int) - Int.toNat n140)) c177 (n132 + (1 : Int)) < m126 A129 n130 c131 n132) ∧ ∃ (ys182 : List Value), Cells H138 A170 0
  ys182 ∧ List.length ys182 = (Int.toNat n140 - Int.toNat (0 : Int)) * 1 ∧ (Int.toNat n140 - Int.toNat (0 : Int)) * 8 ≤ 140737488355328 ∧ (Int.toNat n140 - Int.toNat (0 : Int) + 1) * 8 ≤
  140737488355328 ∧ ∃ (ys183 : List Value), Cells H138 A172 0 ys183 ∧ List.length ys183 = (Int.toNat (↑n130 : Int) - Int.toNat n140) * 1 ∧ (Int.toNat n140 - Int.toNat (0 : Int) + 1 +
  (Int.toNat (↑n130 : Int) - Int.toNat n140)) * 8 ≤ 140737488355328 ∧ rng .i64 (n132 + (1 : Int)) ∧ ∀ (A184 : Option Addr) (c185 : Nat) (H186 : Heap), Heap.le H138 H186 → Cells H186 A184 0
  (ys182 ++ [.int .i64 n135] ++ ys183) → Int.toNat n140 - Int.toNat (0 : Int) + 1 + (Int.toNat (↑n130 : Int) - Int.toNat n140) ≤ c185 → inv125 A184 (Int.toNat n140 - Int.toNat (0 : Int) + 1 +
  (Int.toNat (↑n130 : Int) - Int.toNat n140)) c185 (n132 + (1 : Int)) H186 ∧ m126 A184 (Int.toNat n140 - Int.toNat (0 : Int) + 1 + (Int.toNat (↑n130 : Int) - Int.toNat n140)) c185 (n132 + (1
  : Int)) < m126 A129 n130 c131 n132) ∧ ((!decide (n168 = n135)) = false → rng .i64 (n132 + (1 : Int)) ∧ inv125 A129 n130 c131 (n132 + (1 : Int)) H138 ∧ m126 A129 n130 c131 (n132 + (1 : Int))
  < m126 A129 n130 c131 n132)))) ∧ (decide (n140 < (↑n130 : Int)) = false → (decide (n140 = (↑n130 : Int)) = true → (0 : Int) ≤ (0 : Int) ∧ (0 : Int) ≤ n140 ∧ n140 ≤ (↑c131 : Int) ∧ ∀ (A193 :
  Option Addr), A193 = subA A129 c131 (Int.toNat (0 : Int)) 1 → (0 : Int) ≤ n140 ∧ n140 ≤ (↑n130 : Int) ∧ (↑n130 : Int) ≤ (↑c131 : Int) ∧ ∀ (A195 : Option Addr), A195 = subA A129 c131
  (Int.toNat n140) 1 → (∃ (ys197 : List Value), Cells H138 A193 0 ys197 ∧ List.length ys197 = (Int.toNat n140 - Int.toNat (0 : Int)) * 1 ∧ (Int.toNat n140 - Int.toNat (0 : Int)) * 8 ≤
  140737488355328 ∧ (Int.toNat n140 - Int.toNat (0 : Int) + 1) * 8 ≤ 140737488355328 ∧ ∃ (ys198 : List Value), Cells H138 A195 0 ys198 ∧ List.length ys198 = (Int.toNat (↑n130 : Int) -
  Int.toNat n140) * 1 ∧ (Int.toNat n140 - Int.toNat (0 : Int) + 1 + (Int.toNat (↑n130 : Int) - Int.toNat n140)) * 8 ≤ 140737488355328 ∧ rng .i64 (n132 + (1 : Int)) ∧ ∀ (A199 : Option Addr)
  (c200 : Nat) (H201 : Heap), Heap.le H138 H201 → Cells H201 A199 0 (ys197 ++ [.int .i64 n135] ++ ys198) → Int.toNat n140 - Int.toNat (0 : Int) + 1 + (Int.toNat (↑n130 : Int) - Int.toNat
  n140) ≤ c200 → inv125 A199 (Int.toNat n140 - Int.toNat (0 : Int) + 1 + (Int.toNat (↑n130 : Int) - Int.toNat n140)) c200 (n132 + (1 : Int)) H201 ∧ m126 A199 (Int.toNat n140 - Int.toNat (0 :
  Int) + 1 + (Int.toNat (↑n130 : Int) - Int.toNat n140)) c200 (n132 + (1 : Int)) < m126 A129 n130 c131 n132) ∧ ∃ (ys205 : List Value), Cells H138 A193 0 ys205 ∧ List.length ys205 = (Int.toNat
  n140 - Int.toNat (0 : Int)) * 1 ∧ (Int.toNat n140 - Int.toNat (0 : Int)) * 8 ≤ 140737488355328 ∧ (Int.toNat n140 - Int.toNat (0 : Int) + 1) * 8 ≤ 140737488355328 ∧ ∃ (ys206 : List Value),
  Cells H138 A195 0 ys206 ∧ List.length ys206 = (Int.toNat (↑n130 : Int) - Int.toNat n140) * 1 ∧ (Int.toNat n140 - Int.toNat (0 : Int) + 1 + (Int.toNat (↑n130 : Int) - Int.toNat n140)) * 8 ≤
  140737488355328 ∧ rng .i64 (n132 + (1 : Int)) ∧ ∀ (A207 : Option Addr) (c208 : Nat) (H209 : Heap), Heap.le H138 H209 → Cells H209 A207 0 (ys205 ++ [.int .i64 n135] ++ ys206) → Int.toNat
  n140 - Int.toNat (0 : Int) + 1 + (Int.toNat (↑n130 : Int) - Int.toNat n140) ≤ c208 → inv125 A207 (Int.toNat n140 - Int.toNat (0 : Int) + 1 + (Int.toNat (↑n130 : Int) - Int.toNat n140)) c208
  (n132 + (1 : Int)) H209 ∧ m126 A207 (Int.toNat n140 - Int.toNat (0 : Int) + 1 + (Int.toNat (↑n130 : Int) - Int.toNat n140)) c208 (n132 + (1 : Int)) < m126 A129 n130 c131 n132) ∧ (decide
  (n140 = (↑n130 : Int)) = false → someA A129 ∧ (0 : Int) ≤ n140 ∧ n140 < (↑n130 : Int) ∧ ∃ (n214 : Int), Cells H138 A129 (Int.toNat n140 * 1) [.int .i64 n214] ∧ ((!decide (n214 = n135)) =
  true → (0 : Int) ≤ (0 : Int) ∧ (0 : Int) ≤ n140 ∧ n140 ≤ (↑c131 : Int) ∧ ∀ (A216 : Option Addr), A216 = subA A129 c131 (Int.toNat (0 : Int)) 1 → (0 : Int) ≤ n140 ∧ n140 ≤ (↑n130 : Int) ∧
  (↑n130 : Int) ≤ (↑c131 : Int) ∧ ∀ (A218 : Option Addr), A218 = subA A129 c131 (Int.toNat n140) 1 → (∃ (ys220 : List Value), Cells H138 A216 0 ys220 ∧ List.length ys220 = (Int.toNat n140 -
  Int.toNat (0 : Int)) * 1 ∧ (Int.toNat n140 - Int.toNat (0 : Int)) * 8 ≤ 140737488355328 ∧ (Int.toNat n140 - Int.toNat (0 : Int) + 1) * 8 ≤ 140737488355328 ∧ ∃ (ys221 : List Value), Cells
  H138 A218 0 ys221 ∧ List.length ys221 = (Int.toNat (↑n130 : Int) - Int.toNat n140) * 1 ∧ (Int.toNat n140 - Int.toNat (0 : Int) + 1 + (Int.toNat (↑n130 : Int) - Int.toNat n140)) * 8 ≤
  140737488355328 ∧ rng .i64 (n132 + (1 : Int)) ∧ ∀ (A222 : Option Addr) (c223 : Nat) (H224 : Heap), Heap.le H138 H224 → Cells H224 A222 0 (ys220 ++ [.int .i64 n135] ++ ys221) → Int.toNat
  n140 - Int.toNat (0 : Int) + 1 + (Int.toNat (↑n130 : Int) - Int.toNat n140) ≤ c223 → inv125 A222 (Int.toNat n140 - Int.toNat (0 : Int) + 1 + (Int.toNat (↑n130 : Int) - Int.toNat n140)) c223
  (n132 + (1 : Int)) H224 ∧ m126 A222 (Int.toNat n140 - Int.toNat (0 : Int) + 1 + (Int.toNat (↑n130 : Int) - Int.toNat n140)) c223 (n132 + (1 : Int)) < m126 A129 n130 c131 n132) ∧ ∃ (ys228 :
  List Value), Cells H138 A216 0 ys228 ∧ List.length ys228 = (Int.toNat n140 - Int.toNat (0 : Int)) * 1 ∧ (Int.toNat n140 - Int.toNat (0 : Int)) * 8 ≤ 140737488355328 ∧ (Int.toNat n140 -
  Int.toNat (0 : Int) + 1) * 8 ≤ 140737488355328 ∧ ∃ (ys229 : List Value), Cells H138 A218 0 ys229 ∧ List.length ys229 = (Int.toNat (↑n130 : Int) - Int.toNat n140) * 1 ∧ (Int.toNat n140 -
  Int.toNat (0 : Int) + 1 + (Int.toNat (↑n130 : Int) - Int.toNat n140)) * 8 ≤ 140737488355328 ∧ rng .i64 (n132 + (1 : Int)) ∧ ∀ (A230 : Option Addr) (c231 : Nat) (H232 : Heap), Heap.le H138
  H232 → Cells H232 A230 0 (ys228 ++ [.int .i64 n135] ++ ys229) → Int.toNat n140 - Int.toNat (0 : Int) + 1 + (Int.toNat (↑n130 : Int) - Int.toNat n140) ≤ c231 → inv125 A230 (Int.toNat n140 -
  Int.toNat (0 : Int) + 1 + (Int.toNat (↑n130 : Int) - Int.toNat n140)) c231 (n132 + (1 : Int)) H232 ∧ m126 A230 (Int.toNat n140 - Int.toNat (0 : Int) + 1 + (Int.toNat (↑n130 : Int) -
  Int.toNat n140)) c231 (n132 + (1 : Int)) < m126 A129 n130 c131 n132) ∧ ((!decide (n214 = n135)) = false → rng .i64 (n132 + (1 : Int)) ∧ inv125 A129 n130 c131 (n132 + (1 : Int)) H138 ∧ m126
  A129 n130 c131 (n132 + (1 : Int)) < m126 A129 n130 c131 n132)))) ∧ (decide (n132 < (↑bN : Int)) = false → rng .i64 (n7 + (1 : Int)) ∧ inv0 A129 n130 c131 (n7 + (1 : Int)) H127 ∧ m1 A129
  n130 c131 (n7 + (1 : Int)) < m1 A4 n5 c6 n7)) ∧ True) ∧ (decide (n7 < (2 : Int)) = false → post A4 n5 c6 H2)) := by kernel_rfl
set_option maxHeartbeats 1000000 in
theorem ref6_MergeLineage {H : Heap} {A B : Option Addr} {n c m d : Nat} {a b : List Int} (hs : Sl H A n c a) (ht : Sl H B m d b) (hb : (n + m) * 8 ≤ 140737488355328) :
    ConT Try.prog 26 [.slice A n c, .slice B m d] H shS (fun A' n' c' H' => Sl H' A' n' c' (mergeLin a b)) := by
  refine con_of_vc (an := an26) (fn := Try.f26) mix tabOK Try.func26 (by kernel_rfl) (extra := 0) ?_
  rw [vc26]
  have hal := hs.len; have hbl := ht.len
  refine ⟨fun A' n' c' i H' => 0 ≤ i ∧ i ≤ 2 ∧ mlInv ([a, b].take i.toNat).flatten A' n' c' H', fun _ _ _ i => 2 - i.toNat, ⟨by omega, by omega, [], Sl.nil, InsP.nil⟩, ?_⟩
  rintro H2 l2 A4 n5 c6 i ⟨i0, i1, hi⟩
  refine ⟨fun hlt => ⟨i0, of_decide_eq_true hlt, fun h0 => ?_, fun h1 => ?_, trivial⟩, fun hge => ?_⟩
  · have h0 : i = 0 := h0
    subst h0
    refine mli (p := []) hs l2 (by simp; omega) hi (K := fun A15 n16 c17 H13 => rng .i64 (0 + (1 : Int)) ∧ (0 ≤ (0 : Int) + 1 ∧ (0 : Int) + 1 ≤ 2 ∧ mlInv ([a, b].take ((0 : Int) + 1).toNat).flatten A15 n16 c17 H13) ∧ 2 - ((0 : Int) + 1).toNat < 2 - (0 : Int).toNat) ?_
    intro A' n' c' H' l' h'
    exact ⟨by decide, ⟨by decide, by decide, by simpa using h'⟩, by decide⟩
  · have h1 : i = 1 := h1
    subst h1
    refine mli (p := a) ht l2 (by omega) (by simpa using hi) (K := fun A15 n16 c17 H13 => rng .i64 (1 + (1 : Int)) ∧ (0 ≤ (1 : Int) + 1 ∧ (1 : Int) + 1 ≤ 2 ∧ mlInv ([a, b].take ((1 : Int) + 1).toNat).flatten A15 n16 c17 H13) ∧ 2 - ((1 : Int) + 1).toNat < 2 - (1 : Int).toNat) ?_
    intro A' n' c' H' l' h'
    exact ⟨by decide, ⟨by decide, by decide, by simpa using h'⟩, by decide⟩
  · have hge := of_decide_eq_false hge
    have : i = 2 := by omega
    subst this
    obtain ⟨out, ho, hp⟩ := hi
    have hp : InsP out (a ++ b) := by simpa using hp
    rw [← hp.eq]; exact ho
end Go.Vc
/- The reference's runs of equal rows: rows that grow in place. -/
namespace Go.Vc
open Go Go.Proofs Go.Shelf
structure RunR where
  vals : List Val
  B : Option Addr
  m : Nat
  d : Nat
  rows : List Rw
  lin : List Int
instance : Rep RunR where
  sz := 3
  byt := 72
  rel H vs r := ∃ A n c C k e, vs = [.slice A n c, .slice r.B r.m r.d, .slice C k e] ∧ Sl H A n c r.vals ∧ Sl H C k e r.lin
  mono := fun hle ⟨A, n, c, C, k, e, h1, h2, h3⟩ => ⟨A, n, c, C, k, e, h1, h2.mono hle, h3.mono hle⟩
  len := fun ⟨A, n, c, C, k, e, h1, _⟩ => by simp [h1]
  pos := by decide
  bpos := by decide
  one := fun ⟨A, n, c, C, k, e, h1, _⟩ => by rw [h1]; simp [Value.oneCell']
end Go.Vc
/- The reference's distinct key values. -/
namespace Go.Vc
open Go Go.Proofs Go.Shelf
def ascV (vs : List (List Val)) : Prop := vs.Pairwise (fun a b => cmpVs a b = -1)
structure GrpV (vs : List (List Val)) (p : List Rw) : Prop where
  asc : ascV vs
  mem : ∀ v, v ∈ vs ↔ ∃ r ∈ p, r.vals = v
  last : vs.getLast? = p.getLast?.map (·.vals)
theorem GrpV.nil : GrpV [] [] := ⟨List.Pairwise.nil, fun v => by simp, rfl⟩
theorem GrpV.old {vs : List (List Val)} {p : List Rw} {r : Rw} (h : GrpV vs p) (hl : vs.getLast? = some r.vals) : GrpV vs (p ++ [r]) := by
  refine ⟨h.asc, fun v => ?_, by rw [hl]; simp⟩
  rw [h.mem]
  constructor
  · rintro ⟨q, h1, h2⟩; exact ⟨q, by simp [h1], h2⟩
  · rintro ⟨q, h1, h2⟩
    rcases List.mem_append.1 h1 with h1 | h1
    · exact ⟨q, h1, h2⟩
    · simp at h1; subst h1
      have := (h.mem q.vals).1 (List.mem_of_getLast? hl)
      obtain ⟨z, z1, z2⟩ := this
      exact ⟨z, z1, by rw [z2, h2]⟩
theorem GrpV.new {vs : List (List Val)} {p : List Rw} {r : Rw} (h : GrpV vs p) (hl : vs.getLast? ≠ some r.vals) (hs : ∀ q ∈ p, leF cmpVs q.vals r.vals) : GrpV (vs ++ [r.vals]) (p ++ [r]) := by
  refine ⟨List.pairwise_append.2 ⟨h.asc, by simp, fun a ha b hb => ?_⟩, fun v => ?_, by simp⟩
  · simp at hb; subst hb
    cases hz : vs.getLast? with
    | none => rw [List.getLast?_eq_none_iff] at hz; rw [hz] at ha; cases ha
    | some z =>
      obtain ⟨q, q1, q2⟩ := (h.mem z).1 (List.mem_of_getLast? hz)
      have hle := hs q q1
      rw [q2] at hle
      have hne : z ≠ r.vals := fun e => hl (by rw [hz, e])
      have hzr : cmpVs z r.vals = -1 := by
        have s := cmpVs_ord.sign z r.vals; have a := cmpVs_ord.anti z r.vals
        have : cmpVs z r.vals ≠ 0 := fun e => hne (cmpVs_zero.1 e)
        unfold leF at hle
        omega
      obtain ⟨l', rfl⟩ := List.getLast?_eq_some_iff.1 hz
      rcases List.mem_append.1 ha with ha | ha
      · exact cmpVs_ord.trans _ _ _ ((List.pairwise_append.1 h.asc).2.2 a ha z (by simp)) hzr
      · simp at ha; subst ha; exact hzr
  · rw [List.mem_append, List.mem_singleton, h.mem]
    constructor
    · rintro (⟨q, h1, h2⟩ | rfl)
      · exact ⟨q, by simp [h1], h2⟩
      · exact ⟨r, by simp, rfl⟩
    · rintro ⟨q, h1, h2⟩
      rcases List.mem_append.1 h1 with h1 | h1
      · exact .inl ⟨q, h1, h2⟩
      · simp at h1; subst h1; exact .inr h2.symm
end Go.Vc
/- The reference's violations of keys: the distinct key values, the tuples of a key. -/
namespace Go.Vc
open Go Go.Proofs Go.Shelf
end Go.Vc
/- The reference's violations of keys. -/
namespace Go.Vc
open Go Go.Proofs Go.Shelf
def an21 : Ann where
  res := fun _ => none
  lend := fun _ => false
  sch := fun | 6 => (tk [0, 1, 2, 3, 4, 5, 6, 7, 8] .done) | _ => .done
  lt := fun | 4 => [.slot 5 false [.int .i64]] | _ => []
  tup := tups

theorem vc21 (P : Program) (H : Heap) (aA : Option Addr) (aN aC : Nat) (bA : Option Addr) (bN bC : Nat) (post : Bool → Heap → Prop) :
  vcFn P tab an21 Try.f21 [.slice aA aN aC, .slice bA bN bC] 0 H ⟨false, [(false, [.bool])]⟩ post =
  (  ((!decide ((↑aN : Int) = (↑bN : Int))) = true → post false H) ∧ ((!decide ((↑aN : Int) = (↑bN : Int))) = false → ∃ (inv2 : Int → Heap → Prop), ∃ (m3 : Int → Nat), inv2 (0 : Int) H ∧ ∀ (H4 :
  Heap), Heap.le H H4 → ∀ (n6 : Int), inv2 n6 H4 → (decide (n6 < (↑aN : Int)) = true → someA aA ∧ (0 : Int) ≤ n6 ∧ n6 < (↑aN : Int) ∧ ∃ (n9 : Int), Cells H4 aA (Int.toNat n6 * 1) [.int .i64
  n9] ∧ someA bA ∧ (0 : Int) ≤ n6 ∧ n6 < (↑bN : Int) ∧ ∃ (n10 : Int), Cells H4 bA (Int.toNat n6 * 1) [.int .i64 n10] ∧ ((!decide (n9 = n10)) = true → post false H4) ∧ ((!decide (n9 = n10)) =
  false → rng .i64 (n6 + (1 : Int)) ∧ inv2 (n6 + (1 : Int)) H4 ∧ m3 (n6 + (1 : Int)) < m3 n6)) ∧ (decide (n6 < (↑aN : Int)) = false → post true H4))) := by kernel_rfl
theorem ref1_SameInts {H : Heap} {A B : Option Addr} {n c m d : Nat} {a b : List Int} (hs : Sl H A n c a) (ht : Sl H B m d b) :
    ConT Try.prog 21 [.slice A n c, .slice B m d] H shB (fun r _ => r = decide (a = b)) := by
  refine con_of_vc (an := an21) (fn := Try.f21) mix tabOK Try.func21 (by kernel_rfl) (extra := 0) ?_
  rw [vc21]
  have hl := hs.len; have hm := ht.len; have hb := hs.bn
  refine ⟨fun hne => ?_, fun he => ?_⟩
  · have : ¬ a = b := fun e => by subst e; simp at hne; omega
    simp [this]
  have hnm' : (n : Int) = m := by simpa using he
  have hnm : n = m := by omega
  refine ⟨fun i _ => 0 ≤ i ∧ i ≤ n ∧ (a = b ↔ a.drop i.toNat = b.drop i.toNat), fun i => n - i.toNat, ⟨by omega, by omega, by simp⟩, ?_⟩
  rintro H2 hle i ⟨h0, h1, h2⟩
  refine ⟨fun hlt => ?_, fun hge => ?_⟩
  · have hlt := of_decide_eq_true hlt
    obtain ⟨hi, hA, _, hc, ⟨rfl, q⟩⟩ := hs.at hle h0 hlt
    obtain ⟨hj, hB, _, hd, ⟨rfl, q'⟩⟩ := ht.at hle h0 (by omega)
    rw [drop_at h0 hi, drop_at h0 hj] at h2
    refine ⟨hA, h0, hlt, _, hc, hB, h0, by omega, _, hd, fun hne => ?_, fun he => ⟨by simp only [rng]; omega, ⟨by omega, by omega, ?_⟩, by dsimp only; omega⟩⟩
    · have : ¬ a = b := fun e => by
        have := h2.1 e
        simp only [List.cons.injEq] at this
        simp [this.1] at hne
      simp [this]
    · have he : a[i.toNat] = b[i.toNat] := by simpa using he
      rw [h2, he]; simp
  · have hge := of_decide_eq_false hge
    rw [drop_end hge hl, List.drop_eq_nil_of_le (by omega)] at h2
    simp [h2.2 rfl]
end Go.Vc
/- Plain law: the program's violations are the reference's. -/
namespace Go.Vc
open Go
end Go.Vc
/- Gaps: plain law. -/
namespace Go.Vc
open Go
end Go.Vc
/- Violations as labelled days; the keys of tuples in ascending order: plain law. -/
namespace Go.Vc
open Go
/- violations as labelled days -/
def labV (l : List Vio) (d : Int) (x : List Int) : Prop := ∃ v ∈ l, inV v d ∧ v.ids = x
structure NormV (l : List Vio) : Prop where
  chain : chainV l
  pos : ∀ v ∈ l, v.p.lo < v.p.hi
theorem chain_tail {u : Vio} : ∀ {r : List Vio}, chainV (u :: r) → chainV r
  | [], _ => trivial
  | _ :: _, h => h.2
theorem chain_ge {u : Vio} : ∀ {r : List Vio}, chainV (u :: r) → (∀ v ∈ r, v.p.lo < v.p.hi) → ∀ v ∈ r, u.p.hi ≤ v.p.lo
  | [], _, _, v, hv => by cases hv
  | w :: r, h, hp, v, hv => by
    rcases List.mem_cons.1 hv with rfl | hv
    · exact h.1.1
    · have := chain_ge h.2 (fun v hv => hp v (by simp [hv])) v hv
      have := h.1.1
      have := hp w (by simp)
      omega
theorem NormV.tail {u : Vio} {r : List Vio} (h : NormV (u :: r)) : NormV r := ⟨chain_tail h.chain, fun v hv => h.pos v (by simp [hv])⟩
theorem NormV.ge {u : Vio} {r : List Vio} (h : NormV (u :: r)) : ∀ v ∈ r, u.p.hi ≤ v.p.lo := chain_ge h.chain fun v hv => h.pos v (by simp [hv])
/- the label at a day is that of the first violation, where this holds there -/
theorem NormV.head {u : Vio} {r : List Vio} (h : NormV (u :: r)) {d : Int} {x : List Int} (hl : labV (u :: r) d x) (hd : d < u.p.hi) : inV u d ∧ u.ids = x := by
  obtain ⟨w, hw, h1, h2⟩ := hl
  rcases List.mem_cons.1 hw with rfl | hw
  · exact ⟨h1, h2⟩
  · have := h.ge w hw; have := h1.1; omega
theorem NormV.first {u : Vio} {r : List Vio} (h : NormV (u :: r)) {d : Int} {x : List Int} (hl : labV (u :: r) d x) : u.p.lo ≤ d := by
  obtain ⟨w, hw, h1, h2⟩ := hl
  rcases List.mem_cons.1 hw with rfl | hw
  · exact h1.1
  · have := h.ge w hw; have := h.pos u (by simp); have := h1.1; omega
end Go.Vc
/- Splitting tuples at days changes neither the violations of keys nor the gaps: plain law. -/
namespace Go.Vc
open Go
/- periods that follow one another from a to b -/
def chn : Int → Int → List Per → Prop
  | a, b, [] => a = b
  | a, b, p :: r => p.lo = a ∧ p.lo < p.hi ∧ chn p.hi b r
/- the tuples l, split -/
inductive SplitR : List Tup → List Tup → Prop
  | nil : SplitR [] []
  | skip {t : Tup} {l l' : List Tup} : pOk t.p = false → SplitR l l' → SplitR (t :: l) l'
  | cons {t : Tup} {l l' : List Tup} {ps : List Per} : pOk t.p = true → chn t.p.lo t.p.hi ps → SplitR l l' → SplitR (t :: l) ((ps.map fun p => ⟨t.vals, p, t.lin⟩) ++ l')
theorem SplitR.append {a a' b b' : List Tup} (h : SplitR a a') (h2 : SplitR b b') : SplitR (a ++ b) (a' ++ b') := by
  induction h with
  | nil => exact h2
  | skip h _ ih => exact .skip h ih
  | cons h hc _ ih => rw [List.cons_append, List.append_assoc]; exact .cons h hc ih
end Go.Vc
/- Normal forms of period sets. -/
namespace Go.Vc
open Go Go.Proofs Go.Shelf
theorem cmpI_lt {x y : Int} : cmpI x y < 0 ↔ x < y := by unfold cmpI; split <;> (try split) <;> omega
end Go.Vc
