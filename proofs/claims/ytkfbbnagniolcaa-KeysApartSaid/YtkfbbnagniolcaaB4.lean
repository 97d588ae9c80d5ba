/- Violations of one key: extending, the active tuples. -/
import Derived.Test.YtkfbbnagniolcaaB3
set_option linter.unusedSectionVars false
set_option linter.unusedSimpArgs false
set_option linter.unusedVariables false
namespace Go.Vc
open Go Go.Proofs Go.Shelf
def an76 : Ann where
  res := fun _ => none
  lend := fun _ => false
  sch := fun | 6 => (tk [0, 1, 2, 3, 4, 5, 6, 7, 8] .done) | _ => .done
  lt := fun | 4 => [.slot 13 false [.int .i64]] | _ => []
  tup := tups

theorem vc76 (P : Program) (H : Heap) (s1A : Option Addr) (s1N s1C : Nat) (s2A : Option Addr) (s2N s2C : Nat) (post : Bool → Heap → Prop) :
  vcFn P tab an76 Try.f76 [.slice s1A s1N s1C, .slice s2A s2N s2C] 0 H ⟨false, [(false, [.bool])]⟩ post =
  (  ((!decide ((↑s1N : Int) = (↑s2N : Int))) = true → post false H) ∧ ((!decide ((↑s1N : Int) = (↑s2N : Int))) = false → ∃ (inv2 : Int → Heap → Prop), ∃ (m3 : Int → Nat), inv2 (0 : Int) H ∧ ∀
  (H4 : Heap), Heap.le H H4 → ∀ (n6 : Int), inv2 n6 H4 → (decide (n6 < (↑s1N : Int)) = true → someA s1A ∧ (0 : Int) ≤ n6 ∧ n6 < (↑s1N : Int) ∧ ∃ (n9 : Int), Cells H4 s1A (Int.toNat n6 * 1)
  [.int .i64 n9] ∧ someA s2A ∧ (0 : Int) ≤ n6 ∧ n6 < (↑s2N : Int) ∧ ∃ (n10 : Int), Cells H4 s2A (Int.toNat n6 * 1) [.int .i64 n10] ∧ ((!decide (n9 = n10)) = true → post false H4) ∧ ((!decide
  (n9 = n10)) = false → rng .i64 (n6 + (1 : Int)) ∧ inv2 (n6 + (1 : Int)) H4 ∧ m3 (n6 + (1 : Int)) < m3 n6)) ∧ (decide (n6 < (↑s1N : Int)) = false → post true H4))) := by kernel_rfl
theorem Equal_Int {H : Heap} {A B : Option Addr} {n c m d : Nat} {a b : List Int} (hs : Sl H A n c a) (ht : Sl H B m d b) :
    ConT Try.prog 76 [.slice A n c, .slice B m d] H shB (fun r _ => r = decide (a = b)) := by
  refine con_of_vc (an := an76) (fn := Try.f76) mix tabOK Try.func76 (by kernel_rfl) (extra := 0) ?_
  rw [vc76]
  have hl := hs.len; have hm := ht.len; have hb := hs.bn
  refine ⟨fun hne => ?_, fun he => ?_⟩
  · have : ¬ a = b := fun e => by subst e; simp at hne; omega
    simp [this]
  have hnm' : (n : Int) = m := by simpa using he
  have hnm : n = m := by omega
  refine ⟨fun i _ => 0 ≤ i ∧ i ≤ n ∧ (a = b ↔ a.drop i.toNat = b.drop i.toNat), fun i => n - i.toNat, ⟨by omega, by omega, by simp⟩, ?_⟩
  rintro H2 hle i ⟨h0, h1, h2⟩
  refine ⟨fun hlt => ?_, fun hge => ?_⟩
  · have hlt := of_decide_eq_true hlt
    obtain ⟨hi, hA, _, hc, ⟨rfl, q⟩⟩ := hs.at hle h0 hlt
    obtain ⟨hj, hB, _, hd, ⟨rfl, q'⟩⟩ := ht.at hle h0 (by omega)
    rw [drop_at h0 hi, drop_at h0 hj] at h2
    refine ⟨hA, h0, hlt, _, hc, hB, h0, by omega, _, hd, fun hne => ?_, fun he => ⟨by simp only [rng]; omega, ⟨by omega, by omega, ?_⟩, by dsimp only; omega⟩⟩
    · have : ¬ a = b := fun e => by
        have := h2.1 e
        simp only [List.cons.injEq] at this
        simp [this.1] at hne
      simp [this]
    · have he : a[i.toNat] = b[i.toNat] := by simpa using he
      rw [h2, he]; simp
  · have hge := of_decide_eq_false hge
    rw [drop_end hge hl, List.drop_eq_nil_of_le (by omega)] at h2
    simp [h2.2 rfl]
theorem set_last {T : Type} {l : List T} {x : T} (h : 0 < l.length) : l.set (l.length - 1) x = l.dropLast ++ [x] := by
  rw [List.set_eq_take_append_cons_drop, if_pos (by omega), List.dropLast_eq_take, show l.length - 1 + 1 = l.length by omega, List.drop_length]
def extV (l : List Vio) (v : Vio) : List Vio := match l.getLast? with
  | some u => if u.p.hi = v.p.lo ∧ u.ids = v.ids then l.dropLast ++ [⟨⟨u.p.lo, v.p.hi⟩, u.ids⟩] else l ++ [v]
  | none => l ++ [v]
def an57 : Ann where
  res := fun _ => none
  lend := fun | 32 => true | _ => false
  sch := fun | 2 => (tk [0, 1, 2, 3, 4, 5, 10, 11, 12] (.alt 6 (tk [7, 8] (.alt 9 (tk [13, 14, 15, 16, 17, 18, 22, 23] (.alt 19 (tk [20] (.alt 21 (.alt 24 (tk [25] .done) .fin) .fin)) .fin)) .fin)) .fin)) | _ => .done
  lt := fun _ => []
  tup := tups

theorem vc57 (P : Program) (H : Heap) (vValidFrom : Int) (vValidTo : Int) (vIDsA : Option Addr) (vIDsN vIDsC : Nat) (rowN : Nat) (rowXs : List Value) (ri0 : Nat) (post : Nat → List Value → Heap → Prop) :
  vcFnM P tab an57 Try.f57 [.slice none 0 0, .agg #[.int .i64 vValidFrom, .int .i64 vValidTo, .slice vIDsA vIDsN vIDsC]] 0 44 rowN rowXs 0 H ⟨false, [(false, [.row ri0 44])]⟩ post =
  (  (decide ((0 : Int) < (↑rowN : Int)) = true → rng .i64 ((↑rowN : Int) - (1 : Int)) ∧ (0 : Int) ≤ (↑rowN : Int) - (1 : Int) ∧ (↑rowN : Int) - (1 : Int) < (↑rowN : Int) ∧ ∃ (n1 : Int), win
  rowXs (Int.toNat ((↑rowN : Int) - (1 : Int)) * 3 + 0 + 1) 1 = [.int .i64 n1] ∧ (decide (n1 = vValidFrom) = true → rng .i64 ((↑rowN : Int) - (1 : Int)) ∧ (0 : Int) ≤ (↑rowN : Int) - (1 :
  Int) ∧ (↑rowN : Int) - (1 : Int) < (↑rowN : Int) ∧ ∃ (A3 : Option Addr), ∃ (n4 : Nat), ∃ (c5 : Nat), win rowXs (Int.toNat ((↑rowN : Int) - (1 : Int)) * 3 + 2) 1 = [.slice A3 n4 c5] ∧ ∃
  (post6 : Bool → Heap → Prop), ConT P 76 [.slice A3 n4 c5, .slice vIDsA vIDsN vIDsC] H ⟨false, [(false, [.bool])]⟩ post6 ∧ ∀ (H7 : Heap), Heap.le H H7 → ∀ (b9 : Bool), post6 b9 H7 → (b9 =
  true → rng .i64 ((↑rowN : Int) - (1 : Int)) ∧ (0 : Int) ≤ (↑rowN : Int) - (1 : Int) ∧ (↑rowN : Int) - (1 : Int) < (↑rowN : Int) ∧ Int.toNat ((↑rowN : Int) - (1 : Int)) * 3 + 0 + 1 + 1 ≤
  List.length rowXs ∧ post rowN (splice rowXs (Int.toNat ((↑rowN : Int) - (1 : Int)) * 3 + 0 + 1) [.int .i64 vValidTo]) H7) ∧ (b9 = false → (rowN + 1) * 40 ≤ 140737488355328 ∧ post (rowN + 1)
  (rowXs ++ [.int .i64 vValidFrom, .int .i64 vValidTo, .slice vIDsA vIDsN vIDsC]) H7)) ∧ (decide (n1 = vValidFrom) = false → (rowN + 1) * 40 ≤ 140737488355328 ∧ post (rowN + 1) (rowXs ++
  [.int .i64 vValidFrom, .int .i64 vValidTo, .slice vIDsA vIDsN vIDsC]) H)) ∧ (decide ((0 : Int) < (↑rowN : Int)) = false → (rowN + 1) * 40 ≤ 140737488355328 ∧ post (rowN + 1) (rowXs ++ [.int
  .i64 vValidFrom, .int .i64 vValidTo, .slice vIDsA vIDsN vIDsC]) H)) := by kernel_rfl
theorem keys_extend {H : Heap} {n r : Nat} {xs : List Value} {l : List Vio} {v : Vio} {A : Option Addr} {m c : Nat} (hr : Row H xs l) (hl : l.length = n) (hb : (n + 1) * 40 ≤ 140737488355328) (h1 : rng .i64 v.p.lo) (h2 : rng .i64 v.p.hi) (hs : Sl H A m c v.ids) :
    ConM Try.prog 57 [.slice none 0 0, .agg ⟨[.int .i64 v.p.lo, .int .i64 v.p.hi, .slice A m c]⟩] 0 44 n xs false H ⟨false, [(false, [.row r 44])]⟩
      (fun _ => fun k ys H' => k = (extV l v).length ∧ Row H' ys (extV l v)) := by
  refine conM_of_vc (an := an57) (fn := Try.f57) mix tabOK Try.func57 (by kernel_rfl) (extra := 0) (by simp) ?_
  rw [vc57]
  have happ : ∀ {H' : Heap}, Heap.le H H' → Row H' (xs ++ [.int .i64 v.p.lo, .int .i64 v.p.hi, .slice A m c]) (l ++ [v]) := fun hle => (hr.mono hle).append ⟨_, [], by simp, ⟨_, _, _, rfl, h1, h2, hs.mono hle⟩, rfl⟩
  have hlen := hr.length
  refine ⟨fun hn => ?_, fun hn => ?_⟩
  · have hn := of_decide_eq_true hn
    have hi : ((n : Int) - 1).toNat < l.length := by omega
    obtain ⟨vs, ⟨A1, n1, c1, rfl, q1, q2, q3⟩, hg, hsp⟩ := hr.getf hi
    have hlast : l.getLast? = some l[((n : Int) - 1).toNat] := by
      rw [List.getLast?_eq_getElem?, List.getElem?_eq_getElem (by omega)]
      congr 2; omega
    have hw1 := hg 1 1 (by decide)
    have hw2 := hg 2 1 (by decide)
    refine ⟨by simp only [rng]; omega, by omega, by omega, _, hw1, fun he => ⟨by simp only [rng]; omega, by omega, by omega, _, _, _, hw2, _, Equal_Int q3 hs, ?_⟩, fun he => ⟨by omega, ?_⟩⟩
    · have he := of_decide_eq_true he
      rintro H3 l3 _ rfl
      refine ⟨fun hq => ?_, fun hq => ⟨by omega, ?_⟩⟩
      · have hq := of_decide_eq_true hq
        have hext : extV l v = l.set ((n : Int) - 1).toNat ⟨⟨l[((n : Int) - 1).toNat].p.lo, v.p.hi⟩, l[((n : Int) - 1).toNat].ids⟩ := by
          unfold extV
          rw [hlast]
          simp only
          rw [if_pos ⟨he, hq⟩, ← set_last (by omega), show l.length - 1 = ((n : Int) - 1).toNat by omega]
        refine ⟨by simp only [rng]; omega, by omega, by omega, ?_, ?_⟩
        · rw [hlen]
          show _ ≤ l.length * 3
          omega
        · rw [hext]
          refine ⟨by simp [hl], ?_⟩
          exact (hsp 1 [.int .i64 v.p.hi] ⟨⟨l[((n : Int) - 1).toNat].p.lo, v.p.hi⟩, l[((n : Int) - 1).toNat].ids⟩ (by show 1 + 1 ≤ 3; omega) ⟨A1, n1, c1, rfl, q1, h2, q3⟩).mono l3
      · have hq := of_decide_eq_false hq
        have hext : extV l v = l ++ [v] := by
          unfold extV
          rw [hlast]
          simp only
          rw [if_neg (fun h => hq h.2)]
        rw [hext]
        exact ⟨by simp [hl], happ l3⟩
    · have he := of_decide_eq_false he
      have hext : extV l v = l ++ [v] := by
        unfold extV
        rw [hlast]
        simp only
        rw [if_neg (fun h => he h.1)]
      rw [hext]
      exact ⟨by simp [hl], happ (hle_refl H)⟩
  · have hn := of_decide_eq_false hn
    have : l = [] := List.eq_nil_of_length_eq_zero (by omega)
    subst this
    exact ⟨by omega, by simp [extV]; omega, happ (hle_refl H)⟩
def an75 : Ann where
  res := fun _ => none
  lend := fun | 16 => true | _ => false
  sch := fun _ => .done
  lt := fun | 2 => [.slot 8 false [.int .i64]] | _ => []
  tup := tups

theorem vc75 (P : Program) (H : Heap) (sA : Option Addr) (sN sC : Nat) (fF : FuncId) (fP : Value) (post : Int → Heap → Prop) :
  vcFn P tab an75 Try.f75 [.slice sA sN sC, .func (.func fF) #[] #[fP]] 0 H ⟨false, [(false, [.int .i64])]⟩ post =
  (  ∃ (inv0 : Int → Heap → Prop), ∃ (m1 : Int → Nat), inv0 (0 : Int) H ∧ ∀ (H2 : Heap), Heap.le H H2 → ∀ (n4 : Int), inv0 n4 H2 → (decide (n4 < (↑sN : Int)) = true → someA sA ∧ (0 : Int) ≤ n4 ∧
  n4 < (↑sN : Int) ∧ ∃ (A7 : Option Addr), ∃ (n8 : Nat), ∃ (c9 : Nat), ∃ (A10 : Option Addr), ∃ (n11 : Nat), ∃ (c12 : Nat), ∃ (n13 : Int), ∃ (n14 : Int), ∃ (A15 : Option Addr), ∃ (n16 : Nat),
  ∃ (c17 : Nat), Cells H2 sA (Int.toNat n4 * 5) [.slice A7 n8 c9, .slice A10 n11 c12, .int .i64 n13, .int .i64 n14, .slice A15 n16 c17] ∧ ∃ (post18 : Bool → Heap → Prop), ConT P fF [.agg
  ⟨[.slice A7 n8 c9, .slice A10 n11 c12, .int .i64 n13, .int .i64 n14, .slice A15 n16 c17]⟩, fP] H2 ⟨false, [(false, [.bool])]⟩ post18 ∧ ∀ (H19 : Heap), Heap.le H2 H19 → ∀ (b21 : Bool),
  post18 b21 H19 → (b21 = true → post n4 H19) ∧ (b21 = false → rng .i64 (n4 + (1 : Int)) ∧ inv0 (n4 + (1 : Int)) H19 ∧ m1 (n4 + (1 : Int)) < m1 n4)) ∧ (decide (n4 < (↑sN : Int)) = false →
  post (-1 : Int) H2)) := by kernel_rfl
theorem IndexFunc_Kd {H : Heap} {A : Option Addr} {n c : Nat} {l : List Kd} {f : FuncId} {q : Value} {p : Kd → Bool} (hs : Sl H A n c l) (hf : PredFn Try.prog Kd H f q p) :
    ConT Try.prog 75 [.slice A n c, .func (.func f) #[] #[q]] H shI (fun r _ => r = idxOf p 0 l) := by
  refine con_of_vc (an := an75) (fn := Try.f75) mix tabOK Try.func75 (by kernel_rfl) (extra := 0) ?_
  rw [vc75]
  refine ⟨fun n _ => 0 ≤ n ∧ n ≤ l.length ∧ idxOf p 0 l = idxOf p n (l.drop n.toNat), fun n => l.length - n.toNat, ⟨by omega, by omega, rfl⟩, ?_⟩
  rintro H2 hle i ⟨h0, h1, h2⟩
  simp only [decide_eq_true_eq, decide_eq_false_iff_not]
  refine ⟨fun hlt => ?_, fun hge => ?_⟩
  · obtain ⟨hi, hA, _, hc, hr⟩ := hs.at hle h0 hlt
    have hcon := hf H2 _ _ hle hr
    obtain ⟨E9, k9, e9, A9, n9, c9, B9, m9, d9, rfl, -⟩ := hr
    refine ⟨hA, h0, hlt, _, _, _, _, _, _, _, _, _, _, _, hc, _, hcon, ?_⟩
    rintro H3 _ b rfl
    rw [drop_at h0 hi, idxOf] at h2
    refine ⟨fun hp => ?_, fun hp => ⟨?_, ⟨by omega, by omega, ?_⟩, by omega⟩⟩
    · rw [h2, if_pos hp]
    · have := hs.bn; have := hs.len; simp only [rng]; omega
    · rw [h2, if_neg (by simp [hp])]
  · rw [drop_end hge hs.len, idxOf] at h2
    exact h2.symm
theorem idxOf_spec {T : Type} (p : T → Bool) : ∀ (l : List T) (i : Int), 0 ≤ i → (idxOf p i l = -1 ∧ l.filter (fun x => !p x) = l) ∨ (∃ k : Nat, idxOf p i l = i + k ∧ k < l.length ∧ (l.take (k + 1)).filter (fun x => !p x) = l.take k)
  | [], i, h => .inl ⟨rfl, rfl⟩
  | x :: r, i, h => by
    by_cases hp : p x = true
    · exact .inr ⟨0, by simp [idxOf, hp], by simp, by simp [hp]⟩
    · have hp' : p x = false := by simpa using hp
      rcases idxOf_spec p r (i + 1) (by omega) with ⟨h1, h2⟩ | ⟨k, h1, h2, h3⟩
      · exact .inl ⟨by simp [idxOf, hp', h1], by simp [hp', h2]⟩
      · refine .inr ⟨k + 1, by simp [idxOf, hp', h1]; omega, by simp; omega, ?_⟩
        rw [List.take_succ_cons, List.filter_cons, if_pos (by simp [hp']), h3, List.take_succ_cons]
theorem Row.take {T : Type} [Rep T] {H : Heap} : ∀ {xs : List Value} {l : List T} (i : Nat), Row H xs l → Row H (xs.take (i * Rep.sz T)) (l.take i)
  | xs, [], i, h => by rw [show xs = [] from h]; simp [Row]
  | xs, t :: l, 0, h => by simp [Row]
  | xs, t :: l, i + 1, ⟨vs, ys, h1, h2, h3⟩ => by
    have hl := Rep.len h2
    refine ⟨vs, ys.take (i * Rep.sz T), ?_, h2, Row.take i h3⟩
    rw [h1, Nat.succ_mul, List.take_append, List.take_of_length_le (by omega), hl, Nat.add_sub_cancel]
/- the head of a row behind which cells were written -/
theorem cut_splice {T : Type} [Rep T] {H : Heap} {ys Z : List Value} {cur : List T} {n i : Nat} (hr : Row H ys cur) (hl : cur.length = n) (hi : i ≤ n) (hZ : Z.length = (n - i) * Rep.sz T) :
    Row H (List.take (List.length (splice ys (i * Rep.sz T) Z) / n * (i - 0)) (splice ys (i * Rep.sz T) Z)) (cur.take i) := by
  have hy := hr.length
  rw [hl] at hy
  have hle : i * Rep.sz T ≤ n * Rep.sz T := Nat.mul_le_mul_right _ hi
  have hsub : (n - i) * Rep.sz T = n * Rep.sz T - i * Rep.sz T := Nat.sub_mul _ _ _
  have hlen : (splice ys (i * Rep.sz T) Z).length = n * Rep.sz T := by
    simp only [splice, List.length_append, List.length_take, List.length_drop]; omega
  have hk : (splice ys (i * Rep.sz T) Z).length / n * (i - 0) = i * Rep.sz T := by
    rw [hlen, Nat.sub_zero]
    rcases Nat.eq_zero_or_pos n with h0 | h0
    · have : i = 0 := by omega
      subst this; simp
    · rw [Nat.mul_div_cancel_left _ h0, Nat.mul_comm]
  rw [hk]
  have : List.take (i * Rep.sz T) (splice ys (i * Rep.sz T) Z) = ys.take (i * Rep.sz T) := by
    simp only [splice]
    rw [List.append_assoc, List.take_append_of_le_length (by rw [List.length_take]; omega), List.take_take, Nat.min_self]
  rw [this]
  exact hr.take i
theorem filter_take_succ {T : Type} (p : T → Bool) {l : List T} {j : Nat} (hj : j < l.length) : (l.take (j + 1)).filter (fun x => !p x) = (l.take j).filter (fun x => !p x) ++ (if p l[j] then [] else [l[j]]) := by
  rw [List.take_succ_eq_append_getElem hj, List.filter_append]
  by_cases h : p l[j] <;> simp [h]
def an55 : Ann where
  res := fun _ => none
  lend := fun | 10 => true | 28 => true | _ => false
  sch := fun _ => .done
  lt := fun | 5 => [.slot 0 false [.row 42 68], .slot 5 false [.int .i64], .slot 6 false [.int .i64]] | _ => []
  tup := tups

theorem vc55 (P : Program) (H : Heap) (delF : FuncId) (delP : Value) (rowN : Nat) (rowXs : List Value) (ri0 : Nat) (post : Nat → List Value → Heap → Prop) :
  vcFnM P tab an55 Try.f55 [.slice none 0 0, .func (.func delF) #[] #[delP]] 0 68 rowN rowXs 1 H ⟨false, [(false, [.row ri0 68])]⟩ post =
  (  ∃ (post0 : Int → Heap → Prop), (∀ (A1 : Option Addr) (c2 : Nat) (H3 : Heap), Heap.le H H3 → Cells H3 A1 0 rowXs → rowN ≤ c2 → ConT P 75 [.slice A1 rowN c2, .func (.func delF) ⟨[]⟩ ⟨[delP]⟩]
  H3 ⟨false, [(false, [.int .i64])]⟩ post0) ∧ ∀ (H7 : Heap) (n8 : Int), post0 n8 H7 → (decide (n8 = (-1 : Int)) = true → post rowN rowXs H) ∧ (decide (n8 = (-1 : Int)) = false → rng .i64 (n8
  + (1 : Int)) ∧ ∃ (inv12 : Nat → List Value → Int → Int → Heap → Prop), ∃ (m13 : Nat → List Value → Int → Int → Nat), inv12 rowN rowXs n8 (n8 + (1 : Int)) H ∧ ∀ (H14 : Heap), Heap.le H H14 →
  ∀ (n16 : Nat) (xs17 : List Value) (n18 n19 : Int), inv12 n16 xs17 n18 n19 H14 → (decide (n19 < (↑n16 : Int)) = true → (0 : Int) ≤ n19 ∧ n19 < (↑n16 : Int) ∧ ∃ (A22 : Option Addr), ∃ (n23 :
  Nat), ∃ (c24 : Nat), ∃ (A25 : Option Addr), ∃ (n26 : Nat), ∃ (c27 : Nat), ∃ (n28 : Int), ∃ (n29 : Int), ∃ (A30 : Option Addr), ∃ (n31 : Nat), ∃ (c32 : Nat), win xs17 (Int.toNat n19 * 5) 5 =
  [.slice A22 n23 c24, .slice A25 n26 c27, .int .i64 n28, .int .i64 n29, .slice A30 n31 c32] ∧ ∃ (post33 : Bool → Heap → Prop), ConT P delF [.agg ⟨[.slice A22 n23 c24, .slice A25 n26 c27,
  .int .i64 n28, .int .i64 n29, .slice A30 n31 c32]⟩, delP] H14 ⟨false, [(false, [.bool])]⟩ post33 ∧ ∀ (H34 : Heap), Heap.le H14 H34 → ∀ (b36 : Bool), post33 b36 H34 → ((!b36) = true → (0 :
  Int) ≤ n18 ∧ n18 < (↑n16 : Int) ∧ Int.toNat n18 * 5 + 5 ≤ List.length xs17 ∧ rng .i64 (n18 + (1 : Int)) ∧ rng .i64 (n19 + (1 : Int)) ∧ inv12 n16 (splice xs17 (Int.toNat n18 * 5) [.slice A22
  n23 c24, .slice A25 n26 c27, .int .i64 n28, .int .i64 n29, .slice A30 n31 c32]) (n18 + (1 : Int)) (n19 + (1 : Int)) H34 ∧ m13 n16 (splice xs17 (Int.toNat n18 * 5) [.slice A22 n23 c24,
  .slice A25 n26 c27, .int .i64 n28, .int .i64 n29, .slice A30 n31 c32]) (n18 + (1 : Int)) (n19 + (1 : Int)) < m13 n16 xs17 n18 n19) ∧ ((!b36) = false → rng .i64 (n19 + (1 : Int)) ∧ inv12 n16
  xs17 n18 (n19 + (1 : Int)) H34 ∧ m13 n16 xs17 n18 (n19 + (1 : Int)) < m13 n16 xs17 n18 n19)) ∧ (decide (n19 < (↑n16 : Int)) = false → (0 : Int) ≤ n18 ∧ n18 ≤ (↑n16 : Int) ∧ (↑n16 : Int) ≤
  (↑n16 : Int) ∧ (0 : Int) ≤ (0 : Int) ∧ (0 : Int) ≤ n18 ∧ n18 ≤ (↑n16 : Int) ∧ post (Int.toNat n18 - 0) (List.take (List.length (splice xs17 (Int.toNat n18 * 5) (repl [.slice none 0 0,
  .slice none 0 0, .int .i64 (0 : Int), .int .i64 (0 : Int), .slice none 0 0] (Int.toNat (↑n16 : Int) - Int.toNat n18))) / n16 * (Int.toNat n18 - 0)) (splice xs17 (Int.toNat n18 * 5) (repl
  [.slice none 0 0, .slice none 0 0, .int .i64 (0 : Int), .int .i64 (0 : Int), .slice none 0 0] (Int.toNat (↑n16 : Int) - Int.toNat n18)))) H14))) := by kernel_rfl
theorem DeleteFunc_Kd {H0 H : Heap} {n r : Nat} {xs : List Value} {l : List Kd} {f : FuncId} {q : Value} {p : Kd → Bool} (hle0 : Heap.le H0 H) (hr : Row H0 xs l) (hl : l.length = n) (hb : n * 88 ≤ 140737488355328) (hf : PredFn Try.prog Kd H f q p) :
    ConM Try.prog 55 [.slice none 0 0, .func (.func f) #[] #[q]] 0 68 n xs false H ⟨false, [(false, [.row r 68])]⟩
      (fun _ => fun k ys _ => k = (l.filter fun x => !p x).length ∧ Row H0 ys (l.filter fun x => !p x)) := by
  refine conM_of_vc (an := an55) (fn := Try.f55) mix tabOK Try.func55 (by kernel_rfl) (extra := 1) (by simp) ?_
  rw [vc55]
  refine ⟨_, fun A1 c1 H3 l3 hc hn => IndexFunc_Kd (hr.sl (hle_trans hle0 l3) hc hl hn hb (by omega)) (fun H' vs t h1 h2 => hf H' vs t (hle_trans l3 h1) h2), ?_⟩
  rintro H7 i0 rfl
  rcases idxOf_spec p l 0 (by omega) with ⟨h1, h2⟩ | ⟨k0, h1, h2, h3⟩
  · refine ⟨fun _ => ⟨by rw [h2, hl], by rw [h2]; exact hr⟩, fun he => ?_⟩
    have := of_decide_eq_false he
    exact absurd h1 this
  rw [h1]
  refine ⟨fun he => by have := of_decide_eq_true he; omega, fun he => ⟨by simp only [rng]; omega, ?_⟩⟩
  refine ⟨fun k ys i j _ => k = n ∧ 0 ≤ i ∧ i < j ∧ j ≤ n ∧ ∃ cur : List Kd, Row H0 ys cur ∧ cur.length = n ∧ cur.take i.toNat = (l.take j.toNat).filter (fun x => !p x) ∧ cur.drop j.toNat = l.drop j.toNat,
    fun _ _ _ j => n - j.toNat, ⟨rfl, by omega, by omega, by omega, l, hr, hl, by rw [show ((0 : Int) + k0 + 1).toNat = k0 + 1 by omega, h3]; congr 1; omega, rfl⟩, ?_⟩
  rintro H14 l14 k ys i j ⟨rfl, i0, hij, hjn, cur, hc, hcl, ht, hd⟩
  have hyl := hc.length
  refine ⟨fun hlt => ?_, fun hge => ?_⟩
  · have hlt := of_decide_eq_true hlt
    have hj : j.toNat < cur.length := by omega
    have hj' : j.toNat < l.length := by omega
    have hcj : cur[j.toNat] = l[j.toNat] := by
      have := congrArg (fun x => x[0]?) hd
      simp only [List.getElem?_drop, Nat.add_zero] at this
      rw [List.getElem?_eq_getElem hj, List.getElem?_eq_getElem hj'] at this
      simpa using this
    have hw := hc.getw hj
    rw [hcj] at hw
    have hset := hc.setw (i := i.toNat) (by omega) hw
    have hcon := hf H14 _ _ l14 (Rep.mono (hle_trans hle0 l14) hw)
    have hsu := filter_take_succ p hj'
    have e1 : (j + 1).toNat = j.toNat + 1 := by omega
    have hdr : cur.drop (j.toNat + 1) = l.drop (j.toNat + 1) := by
      rw [← List.drop_drop, ← List.drop_drop, hd]
    generalize hwv : win ys (j.toNat * Rep.sz Kd) (Rep.sz Kd) = wv at hw hset hcon
    obtain ⟨E9, k9, e9, A9, n9, c9, B9, m9, d9, rfl, -⟩ := hw
    refine ⟨by omega, hlt, _, _, _, _, _, _, _, _, _, _, _, rfl, _, hcon, ?_⟩
    rintro H34 l34 _ rfl
    refine ⟨fun hp => ?_, fun hp => ?_⟩
    · have hp : p l[j.toNat] = false := by simpa using hp
      rw [if_neg (by simp [hp])] at hsu
      refine ⟨i0, by omega, ?_, by simp only [rng]; omega, by simp only [rng]; omega, ⟨rfl, by omega, by omega, by omega, cur.set i.toNat l[j.toNat], hset, by simpa using hcl, ?_, ?_⟩, by dsimp only; omega⟩
      · rw [hyl]
        show i.toNat * 5 + 5 ≤ cur.length * 5
        omega
      · rw [e1, hsu, ← ht, show (i + 1).toNat = i.toNat + 1 by omega, List.take_succ_eq_append_getElem (by simp; omega), List.take_set_of_le (by omega)]
        simp
      · rw [e1, List.drop_set_of_lt (by omega), hdr]
    · have hp : p l[j.toNat] = true := by simpa using hp
      rw [if_pos hp, List.append_nil] at hsu
      exact ⟨by simp only [rng]; omega, ⟨rfl, i0, by omega, by omega, cur, hc, hcl, by rw [e1, hsu]; exact ht, by rw [e1]; exact hdr⟩, by dsimp only; omega⟩
  · have hge := of_decide_eq_false hge
    rw [List.take_of_length_le (by omega : l.length ≤ j.toNat)] at ht
    have hil : i.toNat = (l.filter fun x => !p x).length := by
      rw [← ht, List.length_take]; omega
    have hfin := cut_splice (Z := repl [.slice none 0 0, .slice none 0 0, .int .i64 0, .int .i64 0, .slice none 0 0] (Int.toNat (k : Int) - i.toNat)) hc hcl (i := i.toNat) (by omega) (by rw [repl_length]; simp only [Int.toNat_natCast]; rfl)
    refine ⟨i0, by omega, by omega, by omega, i0, by omega, by omega, ?_⟩
    rw [← ht]
    exact hfin
end Go.Vc
