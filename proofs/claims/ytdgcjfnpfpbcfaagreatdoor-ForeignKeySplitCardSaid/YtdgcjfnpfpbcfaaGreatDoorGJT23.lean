/- Constraints: what the program's parts compute. -/
import Derived.Test.YtdgcjfnpfpbcfaaGreatDoorGJT15
import Derived.Test.YtdgcjfnpfpbcfaaGreatDoorGJT21
import Derived.Test.YtdgcjfnpfpbcfaaGreatDoorGJT22
import Derived.Test.YtdgcjfnpfpbcfaaGreatDoorGJT13
set_option linter.unusedSectionVars false
set_option linter.unusedSimpArgs false
set_option linter.unusedVariables false
namespace Go.Vc
open Go Go.Proofs Go.Shelf
/- the keys' texts fit -/
def keyFit (l : List Tup) (cols : List Int) : Prop := ∀ t ∈ l, (keyBytes (keyVals t.vals cols)).length ≤ 140737488355328
theorem KeysOf.nil {cols : List Int} : KeysOf [] [] cols := fun v => by simp [byKeyL]
theorem KeysOf.skip {vs : List (List Val)} {l : List Tup} {cols : List Int} {i : Nat} (hi : i < l.length) (h : KeysOf vs (l.take i) cols) (hp : pOk l[i].p = false) : KeysOf vs (l.take (i + 1)) cols := by
  intro v
  rw [h v, byKeyL_succ hi, if_neg (by rw [hp]; simp), List.append_nil]
theorem KeysOf.old {vs : List (List Val)} {l : List Tup} {cols : List Int} {i : Nat} (hi : i < l.length) (h : KeysOf vs (l.take i) cols) (hv : keyVals l[i].vals cols ∈ vs) : KeysOf vs (l.take (i + 1)) cols := by
  intro v
  rw [byKeyL_succ hi]
  by_cases hp : pOk l[i].p = true
  · rw [if_pos hp]
    simp only [List.mem_append, List.mem_singleton]
    constructor
    · intro h1
      obtain ⟨k, h2, h3⟩ := (h v).1 h1
      exact ⟨k, .inl h2, h3⟩
    · rintro ⟨k, h1 | rfl, rfl⟩
      · exact (h _).2 ⟨k, h1, rfl⟩
      · exact hv
  · rw [if_neg hp, List.append_nil]; exact h v
theorem KeysOf.new {vs : List (List Val)} {l : List Tup} {cols : List Int} {i : Nat} (hi : i < l.length) (h : KeysOf vs (l.take i) cols) (hp : pOk l[i].p = true) : KeysOf (vs ++ [keyVals l[i].vals cols]) (l.take (i + 1)) cols := by
  intro v
  rw [byKeyL_succ hi, if_pos hp]
  simp only [List.mem_append, List.mem_singleton]
  constructor
  · rintro (h1 | rfl)
    · obtain ⟨k, h2, h3⟩ := (h v).1 h1
      exact ⟨k, .inl h2, h3⟩
    · exact ⟨_, .inr rfl, rfl⟩
  · rintro ⟨k, h1 | rfl, rfl⟩
    · exact .inl ((h _).2 ⟨k, h1, rfl⟩)
    · exact .inr rfl
def an12 : Ann where
  res := fun _ => none
  lend := fun | 21 => true | _ => false
  sch := fun _ => .done
  lt := fun | 3 => [.slot 7 false [.row 31 51], .slot 12 false [.int .i64]] | _ => []
  tup := tups

theorem vc12 (P : Program) (H : Heap) (lA : Option Addr) (lN lC : Nat) (colsA : Option Addr) (colsN colsC : Nat) (keyA : Option Addr) (keyN keyC : Nat) (post : Option Addr → Nat → Nat → Heap → Prop) :
  vcFn P tab an12 Tryz.f12 [.slice lA lN lC, .slice colsA colsN colsC, .slice keyA keyN keyC] 1 H ⟨false, [(false, [.sl])]⟩ post =
  (  ∃ (inv0 : Nat → List Value → Int → Heap → Prop), ∃ (m1 : Nat → List Value → Int → Nat), inv0 0 [] (0 : Int) H ∧ ∀ (H2 : Heap), Heap.le H H2 → ∀ (n4 : Nat) (xs5 : List Value) (n6 : Int),
  inv0 n4 xs5 n6 H2 → (decide (n6 < (↑lN : Int)) = true → someA lA ∧ (0 : Int) ≤ n6 ∧ n6 < (↑lN : Int) ∧ ∃ (A9 : Option Addr), ∃ (n10 : Nat), ∃ (c11 : Nat), ∃ (n12 : Int), ∃ (n13 : Int), ∃
  (A14 : Option Addr), ∃ (n15 : Nat), ∃ (c16 : Nat), Cells H2 lA (Int.toNat n6 * 4) [.slice A9 n10 c11, .int .i64 n12, .int .i64 n13, .slice A14 n15 c16] ∧ ∃ (post17 : Option Addr → Nat → Nat
  → Heap → Prop), ConT P 19 [.slice A9 n10 c11, .slice colsA colsN colsC] H2 ⟨false, [(false, [.sl])]⟩ post17 ∧ ∀ (H18 : Heap), Heap.le H2 H18 → ∀ (A20 : Option Addr) (n21 c22 : Nat), post17
  A20 n21 c22 H18 → ∃ (post24 : Int → Heap → Prop), ConT P 32 [.slice A20 n21 c22, .slice keyA keyN keyC] H18 ⟨false, [(false, [.int .i64])]⟩ post24 ∧ ∀ (H25 : Heap), Heap.le H18 H25 → ∀ (n27
  : Int), post24 n27 H25 → (decide (n27 = (0 : Int)) = true → (n4 + 1) * 16 ≤ 140737488355328 ∧ rng .i64 (n6 + (1 : Int)) ∧ inv0 (n4 + 1) (xs5 ++ [.int .i64 n12, .int .i64 n13]) (n6 + (1 :
  Int)) H25 ∧ m1 (n4 + 1) (xs5 ++ [.int .i64 n12, .int .i64 n13]) (n6 + (1 : Int)) < m1 n4 xs5 n6) ∧ (decide (n27 = (0 : Int)) = false → rng .i64 (n6 + (1 : Int)) ∧ inv0 n4 xs5 (n6 + (1 :
  Int)) H25 ∧ m1 n4 xs5 (n6 + (1 : Int)) < m1 n4 xs5 n6)) ∧ (decide (n6 < (↑lN : Int)) = false → ∀ (A32 : Option Addr) (c33 : Nat) (H34 : Heap), Heap.le H2 H34 → Cells H34 A32 0 xs5 → n4 ≤
  c33 → ∃ (post38 : Option Addr → Nat → Nat → Heap → Prop), ConT P 33 [.slice A32 n4 c33] H34 ⟨false, [(false, [.sl])]⟩ post38 ∧ ∀ (H39 : Heap), Heap.le H34 H39 → ∀ (A41 : Option Addr) (n42
  c43 : Nat), post38 A41 n42 c43 H39 → post A41 n42 c43 H39)) := by kernel_rfl
theorem foreignkey_Covered {H : Heap} {A B C : Option Addr} {n c m d k e : Nat} {l : List Tup} {cols : List Int} {key : List Val} (hs : Sl H A n c l) (ht : Sl H B m d cols) (hu : Sl H C k e key) (hb : m * 32 ≤ 140737488355328) :
    ConT Tryz.prog 12 [.slice A n c, .slice B m d, .slice C k e] H shS (fun A' n' c' H' => Sl H' A' n' c' (covL l cols key)) := by
  refine con_of_vc (an := an12) (fn := Tryz.f12) mix tabOK Tryz.func12 (by kernel_rfl) (extra := 1) ?_
  rw [vc12]
  have hl := hs.len
  have hbd : n * 64 ≤ 140737488355328 := hs.bnd
  have clen : ∀ i, (covT (l.take i) cols key).length ≤ i := fun i => by
    have : (covT (l.take i) cols key).length ≤ (l.take i).length := List.length_filter_le _ _
    rw [List.length_take] at this; omega
  refine ⟨fun k xs i H' => 0 ≤ i ∧ i ≤ n ∧ k = ((covT (l.take i.toNat) cols key).map (·.p)).length ∧ Row H' xs ((covT (l.take i.toNat) cols key).map (·.p)), fun _ _ i => n - i.toNat, ⟨by omega, by omega, rfl, rfl⟩, ?_⟩
  rintro H2 hle k xs i ⟨h0, h1, hk, hr⟩
  have hc1 := clen i.toNat
  have hk' := hk
  rw [List.length_map] at hk'
  have e1 : (i + 1).toNat = i.toNat + 1 := by omega
  refine ⟨fun hlt => ?_, fun hge => ?_⟩
  · have hlt := of_decide_eq_true hlt
    obtain ⟨hi, hA, _, hc, ⟨A9, n9, c9, A14, n15, c16, rfl, q1, q2, q3, q4⟩⟩ := hs.at hle h0 hlt
    have hsu := congrArg (List.map (·.p)) (covT_succ (cols := cols) (key := key) hi)
    rw [List.map_append] at hsu
    refine ⟨hA, h0, hlt, _, _, _, _, _, _, _, _, hc, _, keys_Values q1 (ht.mono hle) hb, ?_⟩
    intro H4 l4 A4 n4 c4 h4
    refine ⟨_, value_CompareRows h4 (hu.mono (hle_trans hle l4)), ?_⟩
    rintro H5 l5 _ rfl
    have l45 := hle_trans l4 l5
    refine ⟨fun he => ?_, fun he => ?_⟩
    · rw [if_pos he] at hsu
      refine ⟨by omega, by simp only [rng]; omega, ⟨by omega, by omega, by rw [e1, hsu, List.length_append, ← hk]; rfl, ?_⟩, by dsimp only; omega⟩
      rw [e1, hsu]
      exact (hr.mono l45).append (Row.one ⟨rfl, q2, q3⟩)
    · rw [if_neg (by rw [he]; simp), List.map_nil, List.append_nil] at hsu
      exact ⟨by simp only [rng]; omega, ⟨by omega, by omega, by rw [e1, hsu]; exact hk, by rw [e1, hsu]; exact hr.mono l45⟩, by dsimp only; omega⟩
  · have hge := of_decide_eq_false hge
    rw [List.take_of_length_le (by omega)] at hk hr
    intro A4 c4 H4 l4 hc4 hn4
    exact ⟨_, periodset_Normalize (hr.sl l4 hc4 hk.symm hn4 (by show k * 16 ≤ _; omega) (by omega)), fun _ _ _ _ _ h => h⟩
end Go.Vc
/- Gaps: the program's and the reference's. -/
namespace Go.Vc
open Go Go.Proofs Go.Shelf
theorem withK_lins (l : List Tup) (cols : List Int) (v : List Val) : (tlins (withK l cols v)).length ≤ (tlins l).length := tlins_sub List.filter_sublist
end Go.Vc
/- Violations of a constraint; the sanity check. -/
namespace Go.Vc
open Go Go.Proofs Go.Shelf
theorem ConT.post {P : Program} {f : FuncId} {args : List Value} {H : Heap} {p q : Option Addr → Nat → Nat → Heap → Prop} (h : ConT P f args H shS p) (hpq : ∀ A n c H', p A n c H' → q A n c H') : ConT P f args H shS q := by
  refine ⟨h.1, fun w hw => (h.2 w hw).mono ?_⟩
  rintro e w' ⟨v, H', nr, rfl, ⟨A, n, c, v', e1, e2, e3, e4⟩, hr⟩
  exact ⟨v, H', nr, rfl, ⟨A, n, c, v', e1, e2, e3, hpq _ _ _ _ e4⟩, hr⟩
/- what a call must be handed -/
structure Fit (l : List Tup) (cols : List Int) : Prop where
  few : l.length < 300
  clen : cols.length * 32 ≤ 140737488355328
  lins : (tlins l).length * 8 ≤ 140737488355328
  keys : keyFit l cols
section
variable {H : Heap} {A B : Option Addr} {n c m d : Nat} {l : List Tup} {cols : List Int}
end
/- the texts of keys fit where the values' strings do -/
theorem digits_len : ∀ (k u : Nat), u < 10 ^ (k + 1) → (Lib.decDigits u).length ≤ k + 1
  | 0, u, h => by rw [Lib.decDigits, dif_pos (by omega)]; simp
  | k + 1, u, h => by
    rw [Lib.decDigits]
    split
    · simp
    · rw [List.length_append, List.length_singleton]
      have := digits_len k (u / 10) (by rw [Nat.div_lt_iff_lt_mul (by decide)]; rw [Nat.pow_succ] at h; exact h)
      omega
theorem itoa_len {n : Int} (h : rng .i64 n) : (Lib.itoa n).length ≤ 21 := by
  simp only [rng] at h
  unfold Lib.itoa
  split
  · have := digits_len 19 n.natAbs (by have : (10 : Nat) ^ (19 + 1) = 100000000000000000000 := by decide
                                       omega)
    first | (rw [List.length_cons]; omega) | (simp only [List.length_cons]; omega)
  · have := digits_len 19 n.natAbs (by have : (10 : Nat) ^ (19 + 1) = 100000000000000000000 := by decide
                                       omega)
    first | omega | (have e : n.toNat = n.natAbs := by omega
                     rw [e]; omega)
def valOk (b : Nat) (v : Val) : Prop := rng .i64 v.kind ∧ rng .i64 v.n ∧ v.s.size ≤ b
theorem valBytes_len {b : Nat} (hb : b ≤ 140737488355328) {v : Val} (h : valOk b v) : (valBytes v).length ≤ 66 + b := by
  have h1 := itoa_len h.1; have h2 := itoa_len h.2.1
  have h3 := itoa_len (n := (v.s.size : Int)) (by have := h.2.2; simp only [rng]; omega)
  have h4 := h.2.2
  have e : v.s.data.toList.length = v.s.size := Array.length_toList
  simp only [valBytes, List.length_append, List.length_cons]; omega
theorem keyBytes_len {b : Nat} (hb : b ≤ 140737488355328) : ∀ {vs : List Val}, (∀ v ∈ vs, valOk b v) → (keyBytes vs).length ≤ vs.length * (66 + b)
  | [], _ => by simp [keyBytes]
  | v :: vs, h => by
    have h1 := valBytes_len hb (h v (by simp))
    have h2 := keyBytes_len hb (vs := vs) fun x hx => h x (by simp [hx])
    have e : (keyBytes (v :: vs)).length = (valBytes v).length + (keyBytes vs).length := by simp [keyBytes]
    rw [e, List.length_cons, Nat.succ_mul]; omega
theorem keyVal_ok {b : Nat} {vals : List Val} {i : Int} (h : ∀ v ∈ vals, valOk b v) : valOk b (keyVal vals i) := by
  have z : valOk b val0 := ⟨by decide, by decide, Nat.zero_le _⟩
  unfold keyVal
  split
  · rw [List.getD_eq_getElem?_getD]
    rcases hv : vals[i.toNat]? with _ | v
    · exact z
    · exact h _ (List.mem_of_getElem? hv)
  · exact z
theorem keyFit_of {l : List Tup} {cols : List Int} {b : Nat} (hb : b ≤ 1048576) (hc : cols.length ≤ 1048576) (h : ∀ t ∈ l, ∀ v ∈ t.vals, valOk b v) : keyFit l cols := by
  intro t ht
  have h1 : ∀ v ∈ keyVals t.vals cols, valOk b v := fun v hv => by
    obtain ⟨i, -, rfl⟩ := List.mem_map.1 hv
    exact keyVal_ok (h t ht)
  have h2 := keyBytes_len (by omega) h1
  have h3 : (keyVals t.vals cols).length = cols.length := List.length_map _
  rw [h3] at h2
  refine Nat.le_trans h2 (Nat.le_trans (Nat.mul_le_mul hc (show 66 + b ≤ 1048642 by omega)) (by decide))
end Go.Vc
/- The laws of chapter 24. -/
namespace Go.Vc
open Go Go.Proofs Go.Shelf
theorem lv0_val {x : Int} (hx : 0 ≤ x) : valOk 2 (lv0 x) := by
  refine ⟨(lv0_ok hx).1, (lv0_ok hx).2.1, ?_⟩
  unfold lv0; split
  · decide
  · exact Nat.zero_le _
theorem lv1_val {x : Int} (hx : 0 ≤ x) : valOk 2 (lv1 x) := by
  refine ⟨(lv1_ok hx).1, (lv1_ok hx).2.1, ?_⟩
  unfold lv1; split
  · decide
  · rcases tmod3 hx with e | e | e <;> simp only [e] <;> unfold txt <;> decide
theorem two_val {x y : Int} (hx : 0 ≤ x) (hy : 0 ≤ y) : ∀ v ∈ [lv0 x, lv1 y], valOk 2 v := by
  intro v hv
  simp only [List.mem_cons, List.not_mem_nil, or_false] at hv
  rcases hv with rfl | rfl
  · exact lv0_val hx
  · exact lv1_val hy
theorem fit_of {l : List Tup} {cols : List Int} (h1 : l.length < 300) (h2 : cols.length ≤ 2) (h3 : (tlins l).length ≤ 100000) (h4 : ∀ t ∈ l, ∀ v ∈ t.vals, valOk 2 v) : Fit l cols :=
  ⟨h1, by omega, by omega, keyFit_of (b := 2) (by decide) (by omega) h4⟩
theorem u5_nn {H : Heap} {A : Option Addr} {n c : Nat} {l : List U5} (h : Sl H A n c l) : ∀ y ∈ l, 0 ≤ y.a ∧ 0 ≤ y.b ∧ 0 ≤ y.c ∧ 0 ≤ y.d := by
  intro y hy
  obtain ⟨i, hi, rfl⟩ := List.getElem_of_mem hy
  obtain ⟨vs, -, -, r1, r2, r3, r4, -⟩ := h.get i hi
  simp only [rng] at r1 r2 r3 r4
  omega
theorem lTups_val {l : List U5} {most : Nat} (hl : ∀ x ∈ l, 0 ≤ x.c ∧ 0 ≤ x.d) : ∀ t ∈ lTups l most, ∀ v ∈ t.vals, valOk 2 v := by
  intro t ht
  obtain ⟨x, hx, rfl⟩ := List.mem_map.1 ht
  have hx := hl x (List.take_subset _ _ hx)
  exact two_val hx.1 hx.2
end Go.Vc
/- Foreign keys: plain law. -/
namespace Go.Vc
open Go
/- the child rows that hold on a day without parent -/
def fkF (S A : List Tup) (d : Int) : Option (List Int) := if (S.filter (inT d)).length = 0 then none else if (A.filter (inT d)).length = 0 then some (canon (tlins (S.filter (inT d)))) else none
theorem fk_step {S A : List Tup} : ∀ {ps qs : List Int}, (qs ++ ps).Pairwise (fun x y => x < y) → (∀ x ∈ S ++ A, x.p.lo ∈ qs ++ ps ∧ x.p.hi ∈ qs ++ ps) → stepC (fkF S A) ps
  | [], _, _, _ => trivial
  | [_], _, _, _ => trivial
  | f :: t :: ps, qs, hp, hm => by
    have side : ∀ y ∈ qs ++ f :: t :: ps, y ≤ f ∨ t ≤ y := by
      intro y hy
      obtain ⟨-, q2, q3⟩ := List.pairwise_append.1 hp
      obtain ⟨r1, r2⟩ := List.pairwise_cons.1 q2
      obtain ⟨s1, -⟩ := List.pairwise_cons.1 r2
      rcases List.mem_append.1 hy with hy | hy
      · have := q3 y hy f (by simp); omega
      · rcases List.mem_cons.1 hy with rfl | hy
        · omega
        · rcases List.mem_cons.1 hy with rfl | hy
          · omega
          · have := s1 y hy; omega
    refine ⟨fun d h1 h2 => ?_, fk_step (ps := t :: ps) (qs := qs ++ [f]) (by simpa using hp) (by simpa using hm)⟩
    have eS : S.filter (inT d) = S.filter (inT f) := filt_same (ps := []) (fun x hx => .inl (by simp)) (fun x hx => side _ (hm x (by simp [hx])).1) (fun x hx => side _ (hm x (by simp [hx])).2) h1 h2
    have eA : A.filter (inT d) = A.filter (inT f) := filt_same (ps := []) (fun x hx => .inl (by simp)) (fun x hx => side _ (hm x (by simp [hx])).1) (fun x hx => side _ (hm x (by simp [hx])).2) h1 h2
    unfold fkF
    rw [eS, eA]
theorem tends_mem {S : List Tup} (hv : ∀ x ∈ S, pOk x.p = true) {x : Tup} (hx : x ∈ S) : x.p.lo ∈ canon (tends S) ∧ x.p.hi ∈ canon (tends S) := by
  rw [canon_mem, canon_mem]
  unfold tends
  exact ⟨List.mem_flatMap.2 ⟨x, List.mem_filter.2 ⟨hx, hv x hx⟩, by simp⟩, List.mem_flatMap.2 ⟨x, List.mem_filter.2 ⟨hx, hv x hx⟩, by simp⟩⟩
theorem fk_some {S A : List Tup} {d : Int} {x : List Int} : fkF S A d = some x ↔ (∃ y ∈ S, inT d y = true) ∧ (¬ ∃ y ∈ A, inT d y = true) ∧ canon (tlins (S.filter (inT d))) = x := by
  have h : ∀ L : List Tup, (L.filter (inT d)).length = 0 ↔ ¬ ∃ y ∈ L, inT d y = true := by
    intro L
    rw [List.length_eq_zero_iff, List.filter_eq_nil_iff]
    simp
  unfold fkF
  by_cases h1 : ∃ y ∈ S, inT d y = true
  · rw [if_neg (fun hc => (h S).1 hc h1)]
    by_cases h2 : ∃ y ∈ A, inT d y = true
    · rw [if_neg (fun hc => (h A).1 hc h2)]
      simp only [reduceCtorEq, false_iff]
      exact fun hc => hc.2.1 h2
    · rw [if_pos ((h A).2 h2), Option.some.injEq]
      exact ⟨fun hc => ⟨h1, h2, hc⟩, fun hc => hc.2.2⟩
  · rw [if_pos ((h S).2 h1)]
    simp only [reduceCtorEq, false_iff]
    exact fun hc => h1 hc.1
def refV (S A : List Tup) : List Vio := accF (fkF S A) (canon (tends (S ++ A))) []
theorem fk_btw {S A : List Tup} (hS : ∀ x ∈ S, pOk x.p = true) (hA : ∀ x ∈ A, pOk x.p = true) {d : Int} {y : Tup} (hy : y ∈ S) (h : inT d y = true) : btw (canon (tends (S ++ A))) d := by
  have hv : ∀ x ∈ S ++ A, pOk x.p = true := fun x hx => (List.mem_append.1 hx).elim (hS x) (hA x)
  have := tends_mem hv (x := y) (by simp [hy])
  have h := (pIn_iff.1 h).2
  exact btw_of h.1 h.2 (canon_asc _) this.1 this.2
theorem refV_lab {S A : List Tup} (hS : ∀ x ∈ S, pOk x.p = true) (hA : ∀ x ∈ A, pOk x.p = true) : NormV (refV S A) ∧ ∀ d x, labV (refV S A) d x ↔ fkF S A d = some x := by
  have hv : ∀ x ∈ S ++ A, pOk x.p = true := fun x hx => (List.mem_append.1 hx).elim (hS x) (hA x)
  have hst : stepC (fkF S A) (canon (tends (S ++ A))) := fk_step (qs := []) (canon_asc _) fun x hx => tends_mem hv hx
  obtain ⟨a1, a2⟩ := accF_lab (F := fkF S A) (out := []) (canon_asc (tends (S ++ A))) hst ⟨trivial, fun v hv => by cases hv⟩ (fun u f hu => by cases hu)
  refine ⟨a1, fun d x => ?_⟩
  have e : labV [] d x ↔ False := by simp [labV]
  rw [refV, a2, e, false_or]
  refine ⟨fun h => h.2, fun h => ⟨?_, h⟩⟩
  obtain ⟨⟨y, hy, hin⟩, -⟩ := fk_some.1 h
  exact fk_btw hS hA hy hin
/- the program: each step's part without parent -/
def pieces (s : Vio) (ms : List Per) (out : List Vio) : List Vio := (isect [s.p] ms).foldl (fun o p => extV o ⟨p, s.ids⟩) out
def orphGo : List Vio → List Per → List Vio → List Vio
  | s :: r, ms, out => orphGo r ms (pieces s ms out)
  | [], _, out => out
theorem fold_lab {ids : List Int} : ∀ {ps : List Per} {h : Int} {out : List Vio}, nrmGo h ps = true → NormV out → (∀ u p, out.getLast? = some u → ps.head? = some p → u.p.hi ≤ p.lo) →
    NormV (ps.foldl (fun o p => extV o ⟨p, ids⟩) out) ∧ (∀ u, (ps.foldl (fun o p => extV o ⟨p, ids⟩) out).getLast? = some u → (∃ p ∈ ps, u.p.hi = p.hi) ∨ out.getLast? = some u) ∧
      ∀ d x, labV (ps.foldl (fun o p => extV o ⟨p, ids⟩) out) d x ↔ labV out d x ∨ (inSet ps d = true ∧ ids = x)
  | [], h, out, _, hn, _ => ⟨hn, fun u hu => .inr hu, fun d x => by simp [inSet]⟩
  | p :: ps, h, out, hp, hn, hl => by
    obtain ⟨q1, q2, q3⟩ := nrmGo_cons.1 hp
    obtain ⟨b1, b2, b3⟩ := extV_norm (v := ⟨p, ids⟩) hn q1.2.1 (fun u hu => hl u p hu rfl)
    obtain ⟨a1, a2, a3⟩ := fold_lab (ids := ids) (out := extV out ⟨p, ids⟩) q3 b1 (fun u r hu hr => by
      have e1 := b2 u hu
      have e1 : u.p.hi = p.hi := e1
      rcases ps with _ | ⟨r', ps⟩
      · cases hr
      · simp only [List.head?_cons, Option.some.injEq] at hr
        subst hr
        have := (nrmGo_cons.1 q3).2.1
        omega)
    rw [List.foldl_cons]
    refine ⟨a1, fun u hu => ?_, fun d x => ?_⟩
    · rcases a2 u hu with ⟨r, hr, e⟩ | hu
      · exact .inl ⟨r, by simp [hr], e⟩
      · exact .inl ⟨p, by simp, b2 u hu⟩
    · rw [a3, b3, inSet_cons, Bool.or_eq_true]
      have hin : (inV ⟨p, ids⟩ d ∧ ids = x) ↔ (pIn p d = true ∧ ids = x) := by
        rw [pIn_iff]
        constructor
        · rintro ⟨h1, h2⟩; exact ⟨⟨q1, h1.1, h1.2⟩, h2⟩
        · rintro ⟨⟨-, h1⟩, h2⟩; exact ⟨⟨h1.1, h1.2⟩, h2⟩
      constructor
      · rintro ((h | h) | ⟨h1, h2⟩)
        · exact .inl h
        · have := hin.1 h
          exact .inr ⟨.inl this.1, this.2⟩
        · exact .inr ⟨.inr h1, h2⟩
      · rintro (h | ⟨h1 | h1, h2⟩)
        · exact .inl (.inl h)
        · exact .inl (.inr (hin.2 ⟨h1, h2⟩))
        · exact .inr ⟨h1, h2⟩
theorem isect_bd {a : Per} {ms : List Per} : ∀ p ∈ isect [a] ms, a.lo ≤ p.lo ∧ p.hi ≤ a.hi := by
  intro p hp
  unfold isect isectGo at hp
  obtain ⟨q, hq, hx⟩ := List.mem_flatMap.1 hp
  have hq' : q = a := by
    have e : norm [a] = if pOk a then [a] else [] := by
      unfold norm
      simp only [nrmFrom]
      split <;> simp [ins]
    rw [e] at hq
    split at hq
    · exact List.mem_singleton.1 hq
    · cases hq
  subst hq'
  obtain ⟨r, hr, rfl⟩ := List.mem_map.1 hx
  simp only [perInt]; omega
theorem orphGo_lab {ms : List Per} : ∀ {segs : List Vio} {out : List Vio} {h : Int}, segs.Pairwise (fun a b => a.p.hi ≤ b.p.lo) → NormV out → (∀ u s, out.getLast? = some u → segs.head? = some s → u.p.hi ≤ s.p.lo) → (∀ s ∈ segs, s.p.lo < s.p.hi) →
    NormV (orphGo segs ms out) ∧ ∀ d x, labV (orphGo segs ms out) d x ↔ labV out d x ∨ ∃ s ∈ segs, inSet (isect [s.p] ms) d = true ∧ s.ids = x
  | [], out, _, _, hn, _, _ => ⟨hn, fun d x => by simp [orphGo]⟩
  | s :: r, out, h, hp, hn, hl, hpos => by
    obtain ⟨p1, p2⟩ := List.pairwise_cons.1 hp
    have hnr := isect_nrm [s.p] ms
    have hbd := isect_bd (a := s.p) (ms := ms)
    obtain ⟨a1, a2, a3⟩ := fold_lab (ids := s.ids) (ps := isect [s.p] ms) (h := -1) (out := out) hnr hn (fun u p hu hpp => by
      have := hl u s hu rfl
      have := (hbd p (List.mem_of_mem_head? hpp)).1
      omega)
    obtain ⟨b1, b2⟩ := orphGo_lab (ms := ms) (segs := r) (out := pieces s ms out) (h := h) p2 a1 (fun u q hu hq => by
      have hqm := List.mem_of_mem_head? hq
      have hsq := p1 q hqm
      rcases a2 u hu with ⟨p, hpm, e⟩ | hu
      · have := (hbd p hpm).2; omega
      · have := hl u s hu rfl
        have := hpos s (by simp)
        omega) (fun q hq => hpos q (by simp [hq]))
    refine ⟨b1, fun d x => ?_⟩
    rw [orphGo, b2]
    unfold pieces
    rw [a3]
    constructor
    · rintro ((h | h) | ⟨q, hq, h⟩)
      · exact .inl h
      · exact .inr ⟨s, by simp, h⟩
      · exact .inr ⟨q, by simp [hq], h⟩
    · rintro (h | ⟨q, hq, h⟩)
      · exact .inl (.inl h)
      · rcases List.mem_cons.1 hq with rfl | hq
        · exact .inl (.inr h)
        · exact .inr ⟨q, hq, h⟩
theorem segF_asc {F : Int → Option (List Int)} : ∀ {ps : List Int}, ps.Pairwise (fun x y => x < y) → (segF F ps).Pairwise (fun a b => a.p.hi ≤ b.p.lo) ∧ ∀ s ∈ segF F ps, s.p.lo < s.p.hi ∧ s.p.lo ∈ ps ∧ s.p.hi ∈ ps
  | [], _ => ⟨List.Pairwise.nil, fun s hs => by cases hs⟩
  | [_], _ => ⟨List.Pairwise.nil, fun s hs => by cases hs⟩
  | f :: t :: ps, hp => by
    obtain ⟨p1, p2⟩ := List.pairwise_cons.1 hp
    obtain ⟨a1, a2⟩ := segF_asc (F := F) p2
    have hft := p1 t (by simp)
    rw [segF]
    split
    · rename_i x hx
      refine ⟨List.pairwise_cons.2 ⟨fun s hs => ?_, a1⟩, fun s hs => ?_⟩
      · have h1 := (a2 s hs).2.1
        rcases List.mem_cons.1 h1 with h1 | h1
        · show t ≤ s.p.lo; omega
        · have := (List.pairwise_cons.1 p2).1 _ h1
          show t ≤ s.p.lo; omega
      · rcases List.mem_cons.1 hs with rfl | hs
        · exact ⟨hft, by simp, by simp⟩
        · exact ⟨(a2 s hs).1, List.mem_cons_of_mem _ (a2 s hs).2.1, List.mem_cons_of_mem _ (a2 s hs).2.2⟩
    · exact ⟨a1, fun s hs => ⟨(a2 s hs).1, List.mem_cons_of_mem _ (a2 s hs).2.1, List.mem_cons_of_mem _ (a2 s hs).2.2⟩⟩
theorem tset_in {S : List Tup} {d : Int} : inSet (S.map (·.p)) d = true ↔ ∃ y ∈ S, inT d y = true := by
  unfold inSet
  rw [List.any_map, List.any_eq_true]
  rfl
/- the program's violations of one key are the reference's -/
theorem orph_ref {S A : List Tup} {ms : List Per} (hS : ∀ x ∈ S, pOk x.p = true) (hA : ∀ x ∈ A, pOk x.p = true) (hms : ∀ d, inSet ms d = (inSet (S.map (·.p)) d && !inSet (A.map (·.p)) d)) :
    orphGo (segF (fkF S []) (canon (tends S))) ms [] = refV S A := by
  obtain ⟨r1, r2⟩ := refV_lab hS hA
  obtain ⟨s1, s2⟩ := segF_asc (F := fkF S []) (canon_asc (tends S))
  have hst : stepC (fkF S []) (canon (tends S)) := fk_step (qs := []) (canon_asc _) fun x hx => tends_mem hS (by simpa using hx)
  have hsl := fun d x => segF_lab (d := d) (x := x) hst
  obtain ⟨o1, o2⟩ := orphGo_lab (ms := ms) (segs := segF (fkF S []) (canon (tends S))) (out := []) (h := 0) s1 ⟨trivial, fun v hv => by cases hv⟩ (fun u s hu => by cases hu) (fun s hs => (s2 s hs).1)
  refine normV_ext o1 r1 fun d x => ?_
  have e : labV [] d x ↔ False := by simp [labV]
  rw [o2, r2, e, false_or]
  have hok : ∀ s ∈ segF (fkF S []) (canon (tends S)), pOk s.p = true := by
    intro s hs
    obtain ⟨h1, h2, h3⟩ := s2 s hs
    rw [canon_mem] at h2 h3
    unfold tends at h2 h3
    obtain ⟨y, hy, h2⟩ := List.mem_flatMap.1 h2
    obtain ⟨z, hz, h3⟩ := List.mem_flatMap.1 h3
    have b1 := pOk_iff.1 (List.mem_filter.1 hy).2
    have b2 := pOk_iff.1 (List.mem_filter.1 hz).2
    simp only [List.mem_cons, List.not_mem_nil, or_false] at h2 h3
    rw [pOk_iff]; omega
  have hone : ∀ s ∈ segF (fkF S []) (canon (tends S)), (inSet [s.p] d = true ↔ inV s d) := by
    intro s hs
    rw [inSet_cons, inSet_nil, Bool.or_false, pIn_iff]
    have := pOk_iff.1 (hok s hs)
    exact ⟨fun h => h.2, fun h => ⟨this, h⟩⟩
  rw [fk_some]
  constructor
  · rintro ⟨s, hs, h1, h2⟩
    rw [isect_in, Bool.and_eq_true, hone s hs, hms, Bool.and_eq_true] at h1
    obtain ⟨h3, h4, h5⟩ := h1
    obtain ⟨-, h6⟩ := (hsl d x).1 ⟨s, hs, h3, h2⟩
    obtain ⟨a, -, b⟩ := fk_some.1 h6
    refine ⟨a, fun hc => ?_, b⟩
    rw [tset_in.2 hc] at h5; simp at h5
  · rintro ⟨a, b, c⟩
    have h6 : fkF S [] d = some x := fk_some.2 ⟨a, by simp, c⟩
    obtain ⟨y, hy, hin⟩ := a
    have hbt := fk_btw (A := []) hS (fun x hx => by cases hx) hy hin
    rw [List.append_nil] at hbt
    obtain ⟨s, hs, h3, h2⟩ := (hsl d x).2 ⟨hbt, h6⟩
    refine ⟨s, hs, ?_, h2⟩
    rw [isect_in, Bool.and_eq_true, hone s hs, hms, Bool.and_eq_true]
    refine ⟨h3, tset_in.2 ⟨y, hy, hin⟩, ?_⟩
    rcases h : inSet (A.map (·.p)) d with _ | _
    · rw [h]; rfl
    · exact absurd (tset_in.1 h) b
end Go.Vc
/- Sorting tuples by their starts; deleting those that have ended. -/
namespace Go.Vc
open Go Go.Proofs Go.Shelf
def cmpLo (a b : Tup) : Int := cmpI a.p.lo b.p.lo
theorem cmpLo_swo : Sort.SWO (ltOf cmpLo) := swo_of cmpI_ord fun t : Tup => t.p.lo
def insLay_Tup_ren : Go.Shelf.Ren := ⟨fun | 20 => 167 | n => n, fun | 24 => 57 | 22 => 22 | 3 => 3 | 25 => 141 | 4 => 4 | 0 => 0 | n => n, fun n => n⟩
theorem insLay_Tup : SlLaysF0.n20 Tryz.prog insLay_Tup_ren where
  mixed := by kernel_rfl
  f20 := ⟨Tryz.f167.name, by kernel_rfl, Tryz.func167.trans (congrArg some (by kernel_rfl))⟩
  t0 := Tryz.underlying0
  a0 := Tryz.isAgg0
  z0 := Tryz.sizeOf0
  v0 := Tryz.zeroValue0
  t3 := Tryz.underlying3
  a3 := Tryz.isAgg3
  z3 := Tryz.sizeOf3
  v3 := Tryz.zeroValue3
  t4 := Tryz.underlying4
  a4 := Tryz.isAgg4
  z4 := Tryz.sizeOf4
  v4 := Tryz.zeroValue4
  t22 := Tryz.underlying22
  a22 := Tryz.isAgg22
  z22 := Tryz.sizeOf22
  v22 := Tryz.zeroValue22
  t25 := Tryz.underlying141
  a25 := Tryz.isAgg141
  z25 := Tryz.sizeOf141
  v25 := Tryz.zeroValue141
theorem insL_Tup : InsL Tryz.prog insLay_Tup_ren 4 := ⟨insLay_Tup, Tryz.isAgg57, Tryz.sizeOf57, by kernel_rfl⟩
set_option maxRecDepth 100000 in
theorem ins_Tup {H : Heap} {n i j : Nat} (hij : i ≤ j) {xs : List Value} {l : List Tup} (hr : Row H xs l) (hl : l.length = n) (hj : j ≤ n) (hn : n ≤ 140737488355328) {g : FuncId} (hg : FnOK Tryz.prog g) {cf : Tup → Tup → Int} (hO : Sort.SWO (ltOf cf)) (hc : CmpT Tryz.prog Tup H g cf) :
    ConM Tryz.prog 167 [.slice none 0 0, .int .i64 i, .int .i64 j, .func (.func g) #[] #[]] 0 57 n xs true H ⟨true, []⟩
      (fun ys (H' : Heap) => ∃ m : List Tup, Row H' ys (l.take i ++ m ++ l.drop j) ∧ m.Perm ((l.take j).drop i) ∧ m.Pairwise (fun a b => ¬ cf b a < 0)) :=
  by
    have h := ins_con (cap := []) insL_Tup hij hr hl hj hn hg hO (fun H' vs us s t h1 h2 h3 => hc H' vs us s t h1 h2 h3)
    exact h
def an185 : Ann where
  res := fun _ => none
  lend := fun _ => false
  sch := fun | 3 => (tk [0, 1, 2, 3, 4, 5, 6, 7, 8, 9, 10, 11, 14, 15, 16, 17] (.alt 12 (.alt 13 (.alt 18 (.alt 19 (.alt 20 (.alt 21 (.alt 22 (.alt 23 .done .fin) .fin) .fin) .fin) .fin) .fin) (.alt 18 (.alt 13 (.alt 19 (.alt 20 (.alt 21 (.alt 22 (.alt 23 .done .fin) .fin) .fin) .fin) .fin) (.alt 19 (.alt 13 (.alt 20 (.alt 21 (.alt 22 (.alt 23 .done .fin) .fin) .fin) .fin) .fin) .fin)) .fin)) (.alt 18 (.alt 12 (.alt 13 (.alt 19 (.alt 20 (.alt 21 (.alt 22 (.alt 23 .done .fin) .fin) .fin) .fin) .fin) (.alt 19 (.alt 13 (.alt 20 (.alt 21 (.alt 22 (.alt 23 .done .fin) .fin) .fin) .fin) .fin) .fin)) (.alt 19 (.alt 12 (.alt 13 (.alt 20 (.alt 21 (.alt 22 (.alt 23 .done .fin) .fin) .fin) .fin) .fin) .fin) .fin)) .fin))) | _ => .done
  lt := fun | 1 => [.rowc 38 57, .slot 10 false [.int .i64]] | _ => []
  tup := tups

theorem vc185 (P : Program) (H : Heap) (a : Int) (b : Int) (n : Int) (cmpF : FuncId) (rowN : Nat) (rowXs : List Value) (post : List Value → Heap → Prop) :
  vcFnK P tab an185 Tryz.f185 [.slice none 0 0, .int .i64 a, .int .i64 b, .int .i64 n, .func (.func cmpF) #[] #[]] 0 57 rowN rowXs 0 H post =
  (  ∀ (s0 : Value), ∃ (inv1 : Nat → List Value → Int → Heap → Prop), ∃ (m2 : Nat → List Value → Int → Nat), inv1 rowN rowXs (0 : Int) H ∧ ∀ (H3 : Heap), Heap.le H H3 → ∀ (n5 : Nat) (xs6 : List
  Value) (n7 : Int), inv1 n5 xs6 n7 H3 → (decide (n7 < n) = true → rng .i64 (a + n7) ∧ rng .i64 (b + n7) ∧ rng .i64 (b + n7) ∧ rng .i64 (a + n7) ∧ ((0 : Int) ≤ b + n7 ∧ b + n7 < (↑n5 : Int) ∧
  (∃ (A10 : Option Addr), ∃ (n11 : Nat), ∃ (c12 : Nat), ∃ (n13 : Int), ∃ (n14 : Int), ∃ (A15 : Option Addr), ∃ (n16 : Nat), ∃ (c17 : Nat), win xs6 (Int.toNat (b + n7) * 4) 4 = [.slice A10 n11
  c12, .int .i64 n13, .int .i64 n14, .slice A15 n16 c17] ∧ (0 : Int) ≤ a + n7 ∧ a + n7 < (↑n5 : Int) ∧ ∃ (A18 : Option Addr), ∃ (n19 : Nat), ∃ (c20 : Nat), ∃ (n21 : Int), ∃ (n22 : Int), ∃
  (A23 : Option Addr), ∃ (n24 : Nat), ∃ (c25 : Nat), win xs6 (Int.toNat (a + n7) * 4) 4 = [.slice A18 n19 c20, .int .i64 n21, .int .i64 n22, .slice A23 n24 c25] ∧ (0 : Int) ≤ a + n7 ∧ a + n7
  < (↑n5 : Int) ∧ Int.toNat (a + n7) * 4 + 4 ≤ List.length xs6 ∧ (0 : Int) ≤ b + n7 ∧ b + n7 < (↑n5 : Int) ∧ Int.toNat (b + n7) * 4 + 4 ≤ List.length (splice xs6 (Int.toNat (a + n7) * 4)
  [.slice A10 n11 c12, .int .i64 n13, .int .i64 n14, .slice A15 n16 c17]) ∧ rng .i64 (n7 + (1 : Int)) ∧ inv1 n5 (splice (splice xs6 (Int.toNat (a + n7) * 4) [.slice A10 n11 c12, .int .i64
  n13, .int .i64 n14, .slice A15 n16 c17]) (Int.toNat (b + n7) * 4) [.slice A18 n19 c20, .int .i64 n21, .int .i64 n22, .slice A23 n24 c25]) (n7 + (1 : Int)) H3 ∧ m2 n5 (splice (splice xs6
  (Int.toNat (a + n7) * 4) [.slice A10 n11 c12, .int .i64 n13, .int .i64 n14, .slice A15 n16 c17]) (Int.toNat (b + n7) * 4) [.slice A18 n19 c20, .int .i64 n21, .int .i64 n22, .slice A23 n24
  c25]) (n7 + (1 : Int)) < m2 n5 xs6 n7) ∧ (0 : Int) ≤ a + n7 ∧ a + n7 < (↑n5 : Int) ∧ (∃ (A26 : Option Addr), ∃ (n27 : Nat), ∃ (c28 : Nat), ∃ (n29 : Int), ∃ (n30 : Int), ∃ (A31 : Option
  Addr), ∃ (n32 : Nat), ∃ (c33 : Nat), win xs6 (Int.toNat (b + n7) * 4) 4 = [.slice A26 n27 c28, .int .i64 n29, .int .i64 n30, .slice A31 n32 c33] ∧ ∃ (A34 : Option Addr), ∃ (n35 : Nat), ∃
  (c36 : Nat), ∃ (n37 : Int), ∃ (n38 : Int), ∃ (A39 : Option Addr), ∃ (n40 : Nat), ∃ (c41 : Nat), win xs6 (Int.toNat (a + n7) * 4) 4 = [.slice A34 n35 c36, .int .i64 n37, .int .i64 n38,
  .slice A39 n40 c41] ∧ (0 : Int) ≤ a + n7 ∧ a + n7 < (↑n5 : Int) ∧ Int.toNat (a + n7) * 4 + 4 ≤ List.length xs6 ∧ (0 : Int) ≤ b + n7 ∧ b + n7 < (↑n5 : Int) ∧ Int.toNat (b + n7) * 4 + 4 ≤
  List.length (splice xs6 (Int.toNat (a + n7) * 4) [.slice A26 n27 c28, .int .i64 n29, .int .i64 n30, .slice A31 n32 c33]) ∧ rng .i64 (n7 + (1 : Int)) ∧ inv1 n5 (splice (splice xs6 (Int.toNat
  (a + n7) * 4) [.slice A26 n27 c28, .int .i64 n29, .int .i64 n30, .slice A31 n32 c33]) (Int.toNat (b + n7) * 4) [.slice A34 n35 c36, .int .i64 n37, .int .i64 n38, .slice A39 n40 c41]) (n7 +
  (1 : Int)) H3 ∧ m2 n5 (splice (splice xs6 (Int.toNat (a + n7) * 4) [.slice A26 n27 c28, .int .i64 n29, .int .i64 n30, .slice A31 n32 c33]) (Int.toNat (b + n7) * 4) [.slice A34 n35 c36, .int
  .i64 n37, .int .i64 n38, .slice A39 n40 c41]) (n7 + (1 : Int)) < m2 n5 xs6 n7) ∧ ∃ (A42 : Option Addr), ∃ (n43 : Nat), ∃ (c44 : Nat), ∃ (n45 : Int), ∃ (n46 : Int), ∃ (A47 : Option Addr), ∃
  (n48 : Nat), ∃ (c49 : Nat), win xs6 (Int.toNat (a + n7) * 4) 4 = [.slice A42 n43 c44, .int .i64 n45, .int .i64 n46, .slice A47 n48 c49] ∧ ∃ (A50 : Option Addr), ∃ (n51 : Nat), ∃ (c52 :
  Nat), ∃ (n53 : Int), ∃ (n54 : Int), ∃ (A55 : Option Addr), ∃ (n56 : Nat), ∃ (c57 : Nat), win xs6 (Int.toNat (b + n7) * 4) 4 = [.slice A50 n51 c52, .int .i64 n53, .int .i64 n54, .slice A55
  n56 c57] ∧ (0 : Int) ≤ a + n7 ∧ a + n7 < (↑n5 : Int) ∧ Int.toNat (a + n7) * 4 + 4 ≤ List.length xs6 ∧ (0 : Int) ≤ b + n7 ∧ b + n7 < (↑n5 : Int) ∧ Int.toNat (b + n7) * 4 + 4 ≤ List.length
  (splice xs6 (Int.toNat (a + n7) * 4) [.slice A50 n51 c52, .int .i64 n53, .int .i64 n54, .slice A55 n56 c57]) ∧ rng .i64 (n7 + (1 : Int)) ∧ inv1 n5 (splice (splice xs6 (Int.toNat (a + n7) *
  4) [.slice A50 n51 c52, .int .i64 n53, .int .i64 n54, .slice A55 n56 c57]) (Int.toNat (b + n7) * 4) [.slice A42 n43 c44, .int .i64 n45, .int .i64 n46, .slice A47 n48 c49]) (n7 + (1 : Int))
  H3 ∧ m2 n5 (splice (splice xs6 (Int.toNat (a + n7) * 4) [.slice A50 n51 c52, .int .i64 n53, .int .i64 n54, .slice A55 n56 c57]) (Int.toNat (b + n7) * 4) [.slice A42 n43 c44, .int .i64 n45,
  .int .i64 n46, .slice A47 n48 c49]) (n7 + (1 : Int)) < m2 n5 xs6 n7) ∧ (0 : Int) ≤ a + n7 ∧ a + n7 < (↑n5 : Int) ∧ ((0 : Int) ≤ b + n7 ∧ b + n7 < (↑n5 : Int) ∧ (∃ (A58 : Option Addr), ∃
  (n59 : Nat), ∃ (c60 : Nat), ∃ (n61 : Int), ∃ (n62 : Int), ∃ (A63 : Option Addr), ∃ (n64 : Nat), ∃ (c65 : Nat), win xs6 (Int.toNat (b + n7) * 4) 4 = [.slice A58 n59 c60, .int .i64 n61, .int
  .i64 n62, .slice A63 n64 c65] ∧ ∃ (A66 : Option Addr), ∃ (n67 : Nat), ∃ (c68 : Nat), ∃ (n69 : Int), ∃ (n70 : Int), ∃ (A71 : Option Addr), ∃ (n72 : Nat), ∃ (c73 : Nat), win xs6 (Int.toNat (a
  + n7) * 4) 4 = [.slice A66 n67 c68, .int .i64 n69, .int .i64 n70, .slice A71 n72 c73] ∧ (0 : Int) ≤ a + n7 ∧ a + n7 < (↑n5 : Int) ∧ Int.toNat (a + n7) * 4 + 4 ≤ List.length xs6 ∧ (0 : Int)
  ≤ b + n7 ∧ b + n7 < (↑n5 : Int) ∧ Int.toNat (b + n7) * 4 + 4 ≤ List.length (splice xs6 (Int.toNat (a + n7) * 4) [.slice A58 n59 c60, .int .i64 n61, .int .i64 n62, .slice A63 n64 c65]) ∧ rng
  .i64 (n7 + (1 : Int)) ∧ inv1 n5 (splice (splice xs6 (Int.toNat (a + n7) * 4) [.slice A58 n59 c60, .int .i64 n61, .int .i64 n62, .slice A63 n64 c65]) (Int.toNat (b + n7) * 4) [.slice A66 n67
  c68, .int .i64 n69, .int .i64 n70, .slice A71 n72 c73]) (n7 + (1 : Int)) H3 ∧ m2 n5 (splice (splice xs6 (Int.toNat (a + n7) * 4) [.slice A58 n59 c60, .int .i64 n61, .int .i64 n62, .slice
  A63 n64 c65]) (Int.toNat (b + n7) * 4) [.slice A66 n67 c68, .int .i64 n69, .int .i64 n70, .slice A71 n72 c73]) (n7 + (1 : Int)) < m2 n5 xs6 n7) ∧ ∃ (A74 : Option Addr), ∃ (n75 : Nat), ∃
  (c76 : Nat), ∃ (n77 : Int), ∃ (n78 : Int), ∃ (A79 : Option Addr), ∃ (n80 : Nat), ∃ (c81 : Nat), win xs6 (Int.toNat (a + n7) * 4) 4 = [.slice A74 n75 c76, .int .i64 n77, .int .i64 n78,
  .slice A79 n80 c81] ∧ ∃ (A82 : Option Addr), ∃ (n83 : Nat), ∃ (c84 : Nat), ∃ (n85 : Int), ∃ (n86 : Int), ∃ (A87 : Option Addr), ∃ (n88 : Nat), ∃ (c89 : Nat), win xs6 (Int.toNat (b + n7) *
  4) 4 = [.slice A82 n83 c84, .int .i64 n85, .int .i64 n86, .slice A87 n88 c89] ∧ (0 : Int) ≤ a + n7 ∧ a + n7 < (↑n5 : Int) ∧ Int.toNat (a + n7) * 4 + 4 ≤ List.length xs6 ∧ (0 : Int) ≤ b + n7
  ∧ b + n7 < (↑n5 : Int) ∧ Int.toNat (b + n7) * 4 + 4 ≤ List.length (splice xs6 (Int.toNat (a + n7) * 4) [.slice A82 n83 c84, .int .i64 n85, .int .i64 n86, .slice A87 n88 c89]) ∧ rng .i64 (n7
  + (1 : Int)) ∧ inv1 n5 (splice (splice xs6 (Int.toNat (a + n7) * 4) [.slice A82 n83 c84, .int .i64 n85, .int .i64 n86, .slice A87 n88 c89]) (Int.toNat (b + n7) * 4) [.slice A74 n75 c76,
  .int .i64 n77, .int .i64 n78, .slice A79 n80 c81]) (n7 + (1 : Int)) H3 ∧ m2 n5 (splice (splice xs6 (Int.toNat (a + n7) * 4) [.slice A82 n83 c84, .int .i64 n85, .int .i64 n86, .slice A87 n88
  c89]) (Int.toNat (b + n7) * 4) [.slice A74 n75 c76, .int .i64 n77, .int .i64 n78, .slice A79 n80 c81]) (n7 + (1 : Int)) < m2 n5 xs6 n7) ∧ ∃ (A90 : Option Addr), ∃ (n91 : Nat), ∃ (c92 :
  Nat), ∃ (n93 : Int), ∃ (n94 : Int), ∃ (A95 : Option Addr), ∃ (n96 : Nat), ∃ (c97 : Nat), win xs6 (Int.toNat (a + n7) * 4) 4 = [.slice A90 n91 c92, .int .i64 n93, .int .i64 n94, .slice A95
  n96 c97] ∧ (0 : Int) ≤ b + n7 ∧ b + n7 < (↑n5 : Int) ∧ ∃ (A98 : Option Addr), ∃ (n99 : Nat), ∃ (c100 : Nat), ∃ (n101 : Int), ∃ (n102 : Int), ∃ (A103 : Option Addr), ∃ (n104 : Nat), ∃ (c105
  : Nat), win xs6 (Int.toNat (b + n7) * 4) 4 = [.slice A98 n99 c100, .int .i64 n101, .int .i64 n102, .slice A103 n104 c105] ∧ (0 : Int) ≤ a + n7 ∧ a + n7 < (↑n5 : Int) ∧ Int.toNat (a + n7) *
  4 + 4 ≤ List.length xs6 ∧ (0 : Int) ≤ b + n7 ∧ b + n7 < (↑n5 : Int) ∧ Int.toNat (b + n7) * 4 + 4 ≤ List.length (splice xs6 (Int.toNat (a + n7) * 4) [.slice A98 n99 c100, .int .i64 n101,
  .int .i64 n102, .slice A103 n104 c105]) ∧ rng .i64 (n7 + (1 : Int)) ∧ inv1 n5 (splice (splice xs6 (Int.toNat (a + n7) * 4) [.slice A98 n99 c100, .int .i64 n101, .int .i64 n102, .slice A103
  n104 c105]) (Int.toNat (b + n7) * 4) [.slice A90 n91 c92, .int .i64 n93, .int .i64 n94, .slice A95 n96 c97]) (n7 + (1 : Int)) H3 ∧ m2 n5 (splice (splice xs6 (Int.toNat (a + n7) * 4) [.slice
  A98 n99 c100, .int .i64 n101, .int .i64 n102, .slice A103 n104 c105]) (Int.toNat (b + n7) * 4) [.slice A90 n91 c92, .int .i64 n93, .int .i64 n94, .slice A95 n96 c97]) (n7 + (1 : Int)) < m2
  n5 xs6 n7) ∧ (decide (n7 < n) = false → s0 = s0 ∧ n5 = rowN ∧ post xs6 H3)) := by kernel_rfl
set_option maxHeartbeats 1000000 in
theorem swapRange_Tup {H : Heap} {n : Nat} {xs : List Value} {X p r q Y : List Tup} (hr : Row H xs (X ++ p ++ r ++ q ++ Y)) (hl : (X ++ p ++ r ++ q ++ Y).length = n) (hn : n ≤ 140737488355328) (hpq : p.length = q.length) {a b k : Int} (ha : a = X.length) (hb : b = a + p.length + r.length) (hk : k = p.length) {g : FuncId} :
    ConM Tryz.prog 185 [.slice none 0 0, .int .i64 a, .int .i64 b, .int .i64 k, .func (.func g) #[] #[]] 0 57 n xs true H ⟨true, []⟩ (fun ys (H' : Heap) => Row H' ys (X ++ q ++ r ++ p ++ Y)) := by
  refine conK_of_vc (an := an185) (fn := Tryz.f185) mix tabOK Tryz.func185 (by kernel_rfl) (extra := 0) (by simp) ?_
  rw [vc185]
  intro s0
  have hL := swapL_len (X := X) (p := p) (r := r) (q := q) (Y := Y)
  have hl' := hl
  simp only [List.length_append] at hl'
  refine ⟨fun u ys i H' => u = n ∧ 0 ≤ i ∧ i ≤ k ∧ Row H' ys (swapL X p r q Y i.toNat), fun _ _ i => (k - i).toNat, ⟨rfl, by omega, by omega, by rw [show (0 : Int).toNat = 0 from rfl, swapL_zero]; exact hr⟩, ?_⟩
  rintro H3 l3 u ys i ⟨hu, i0, i1, hr3⟩
  refine ⟨fun hlt => ?_, fun hge => ?_⟩
  · have hlt := of_decide_eq_true hlt
    obtain ⟨h1, h2, h3⟩ := swapL_step (X := X) (r := r) (Y := Y) (i := i.toNat) hpq (by omega) (a := (a + i).toNat) (b := (b + i).toNat) (by omega) (by omega)
    have hwA := hr3.getw h1
    have hwB := hr3.getw h2
    have hset := hr3.setw h1 hwB
    have hset2 := hset.setw (i := (b + i).toNat) (by simpa using h2) hwA
    rw [h3, show i.toNat + 1 = (i + 1).toNat by omega] at hset2
    have hlen1 := hr3.length; have hlen2 := hset.length
    have hcl := hL i.toNat
    rw [List.length_set] at hlen2
    have fin : rng .i64 (i + 1) ∧ (u = n ∧ 0 ≤ i + 1 ∧ i + 1 ≤ k ∧ Row H3 (splice (splice ys ((a + i).toNat * Rep.sz Tup) (win ys ((b + i).toNat * Rep.sz Tup) (Rep.sz Tup))) ((b + i).toNat * Rep.sz Tup) (win ys ((a + i).toNat * Rep.sz Tup) (Rep.sz Tup))) (swapL X p r q Y (i + 1).toNat)) ∧ (k - (i + 1)).toNat < (k - i).toNat :=
      ⟨by simp only [rng]; omega, ⟨hu, by omega, by omega, hset2⟩, by omega⟩
    have c1 : (a + i).toNat * Rep.sz Tup + Rep.sz Tup ≤ ys.length := by rw [hlen1, ← Nat.succ_mul]; exact Nat.mul_le_mul_right _ h1
    have c2 : (b + i).toNat * Rep.sz Tup + Rep.sz Tup ≤ (splice ys ((a + i).toNat * Rep.sz Tup) (win ys ((b + i).toNat * Rep.sz Tup) (Rep.sz Tup))).length := by rw [hlen2, ← Nat.succ_mul]; exact Nat.mul_le_mul_right _ h2
    clear hset hset2 hlen1 hlen2
    generalize hA : win ys ((a + i).toNat * Rep.sz Tup) (Rep.sz Tup) = wA at hwA fin
    generalize hB : win ys ((b + i).toNat * Rep.sz Tup) (Rep.sz Tup) = wB at hwB fin c2
    obtain ⟨A9, n9, c9, B9, m9, d9, rfl, -⟩ := hwA
    obtain ⟨A9, n9, c9, B9, m9, d9, rfl, -⟩ := hwB
    have g1 : 0 ≤ a + i := by omega
    have g2 : a + i < (u : Int) := by omega
    have g3 : 0 ≤ b + i := by omega
    have g4 : b + i < (u : Int) := by omega
    refine ⟨by simp only [rng]; omega, by simp only [rng]; omega, by simp only [rng]; omega, by simp only [rng]; omega, ?_⟩
    repeat' (first | assumption | refine ⟨_, _, _, _, _, _, _, _, rfl, ?_⟩ | refine ⟨_, _, _, _, _, _, _, _, hA, ?_⟩ | refine ⟨_, _, _, _, _, _, _, _, hB, ?_⟩ | refine And.intro ?_ ?_)
  · have hge := of_decide_eq_false hge
    refine ⟨rfl, hu, ?_⟩
    rw [show i.toNat = p.length by omega, swapL_end hpq] at hr3
    exact hr3
def an181 : Ann where
  res := fun _ => none
  lend := fun _ => false
  mt := fun | 185 => some true | _ => none
  sch := fun _ => .done
  lt := fun | 2 => [.rowc 58 57, .slot 10 false [.int .i64], .slot 11 false [.int .i64]] | _ => []
  tup := tups

theorem vc181 (P : Program) (H : Heap) (a : Int) (m : Int) (b : Int) (cmpF : FuncId) (rowN : Nat) (rowXs : List Value) (post : List Value → Heap → Prop) :
  vcFnK P tab an181 Tryz.f181 [.slice none 0 0, .int .i64 a, .int .i64 m, .int .i64 b, .func (.func cmpF) #[] #[]] 0 57 rowN rowXs 0 H post =
  (  ∀ (s0 : Value), rng .i64 (m - a) ∧ rng .i64 (b - m) ∧ ∃ (inv1 : Nat → List Value → Int → Int → Heap → Prop), ∃ (m2 : Nat → List Value → Int → Int → Nat), inv1 rowN rowXs (m - a) (b - m) H ∧
  ∀ (H3 : Heap), Heap.le H H3 → ∀ (n5 : Nat) (xs6 : List Value) (n7 n8 : Int), inv1 n5 xs6 n7 n8 H3 → ((!decide (n7 = n8)) = true → (decide (n8 < n7) = true → rng .i64 (m - n7) ∧ ∃ (post12 :
  List Value → Heap → Prop), ConM P 185 [.slice none 0 0, .int .i64 (m - n7), .int .i64 m, .int .i64 n8, .func (.func cmpF) ⟨[]⟩ ⟨[]⟩] 0 57 n5 xs6 true H3 ⟨true, []⟩ post12 ∧ ∀ (H13 : Heap),
  Heap.le H3 H13 → ∀ (ys15 : List Value), post12 ys15 H13 → rng .i64 (n7 - n8) ∧ inv1 n5 ys15 (n7 - n8) n8 H13 ∧ m2 n5 ys15 (n7 - n8) n8 < m2 n5 xs6 n7 n8) ∧ (decide (n8 < n7) = false → rng
  .i64 (m - n7) ∧ rng .i64 (m + n8) ∧ rng .i64 (m + n8 - n7) ∧ ∃ (post18 : List Value → Heap → Prop), ConM P 185 [.slice none 0 0, .int .i64 (m - n7), .int .i64 (m + n8 - n7), .int .i64 n7,
  .func (.func cmpF) ⟨[]⟩ ⟨[]⟩] 0 57 n5 xs6 true H3 ⟨true, []⟩ post18 ∧ ∀ (H19 : Heap), Heap.le H3 H19 → ∀ (ys21 : List Value), post18 ys21 H19 → rng .i64 (n8 - n7) ∧ inv1 n5 ys21 n7 (n8 -
  n7) H19 ∧ m2 n5 ys21 n7 (n8 - n7) < m2 n5 xs6 n7 n8)) ∧ ((!decide (n7 = n8)) = false → rng .i64 (m - n7) ∧ ∃ (post24 : List Value → Heap → Prop), ConM P 185 [.slice none 0 0, .int .i64 (m -
  n7), .int .i64 m, .int .i64 n7, .func (.func cmpF) ⟨[]⟩ ⟨[]⟩] 0 57 n5 xs6 true H3 ⟨true, []⟩ post24 ∧ ∀ (H25 : Heap), Heap.le H3 H25 → ∀ (ys27 : List Value), post24 ys27 H25 → s0 = s0 ∧ n5
  = rowN ∧ post ys27 H25)) := by kernel_rfl
set_option maxHeartbeats 1000000 in
theorem rotate_Tup {H : Heap} {n : Nat} {xs : List Value} {X p q Y : List Tup} (hr : Row H xs (X ++ p ++ q ++ Y)) (hl : (X ++ p ++ q ++ Y).length = n) (hn : n ≤ 140737488355328) (hp : p ≠ []) (hq : q ≠ []) {a m b : Int} (ha : a = X.length) (hm : m = a + p.length) (hb : b = m + q.length) {g : FuncId} :
    ConM Tryz.prog 181 [.slice none 0 0, .int .i64 a, .int .i64 m, .int .i64 b, .func (.func g) #[] #[]] 0 57 n xs true H ⟨true, []⟩ (fun ys (H' : Heap) => Row H' ys (X ++ q ++ p ++ Y)) := by
  refine conK_of_vc (an := an181) (fn := Tryz.f181) mix tabOK Tryz.func181 (by kernel_rfl) (extra := 0) (by simp) ?_
  rw [vc181]
  intro s0
  have hl' := hl
  simp only [List.length_append] at hl'
  refine ⟨by simp only [rng]; omega, by simp only [rng]; omega, fun u ys i j H' => u = n ∧ ∃ X' p' q' Y' : List Tup, Row H' ys (X' ++ p' ++ q' ++ Y') ∧ m = X'.length + p'.length ∧ i = p'.length ∧ j = q'.length ∧ p' ≠ [] ∧ q' ≠ [] ∧ X ++ q ++ p ++ Y = X' ++ q' ++ p' ++ Y',
    fun _ _ i j => (i + j).toNat, ⟨rfl, X, p, q, Y, hr, by omega, by omega, by omega, hp, hq, rfl⟩, ?_⟩
  rintro H3 l3 u ys i j ⟨hu, X', p', q', Y', hr3, hm', hi, hj, hp', hq', he⟩
  have hpl := List.length_pos_iff.2 hp'; have hql := List.length_pos_iff.2 hq'
  have hlen := congrArg List.length he
  simp only [List.length_append] at hlen
  have hNl : (X' ++ p' ++ q' ++ Y').length = u := by simp only [List.length_append]; omega
  refine ⟨fun hne => ?_, fun heq => ?_⟩
  · have hne : ¬ i = j := by simpa using hne
    refine ⟨fun hlt => ?_, fun hge => ?_⟩
    · have hlt := of_decide_eq_true hlt
      have ep : p' = p'.take j.toNat ++ p'.drop j.toNat := (List.take_append_drop _ _).symm
      have l1 : (p'.take j.toNat).length = q'.length := by rw [List.length_take]; omega
      have l2 : (p'.drop j.toNat).length = p'.length - q'.length := by rw [List.length_drop]; omega
      generalize p'.take j.toNat = p1 at ep l1
      generalize p'.drop j.toNat = p2 at ep l2
      subst ep
      simp only [List.length_append] at hpl hm' hi l2 hlen
      refine ⟨by simp only [rng]; omega, _, swapRange_Tup (X := X') (p := p1) (r := p2) (q := q') (Y := Y') (by simpa using hr3) (by simpa using hNl) (by omega) l1 (by omega) (by omega) (by omega), ?_⟩
      intro H13 l13 ys15 h15
      refine ⟨by simp only [rng]; omega, ⟨hu, X' ++ q', p2, p1, Y', by simpa using h15, by simp only [List.length_append]; omega, by omega, by omega, ?_, ?_, by rw [he]; simp⟩, by dsimp only; omega⟩
      · intro h; have := congrArg List.length h; rw [List.length_nil] at this; omega
      · intro h; have := congrArg List.length h; rw [List.length_nil] at this; omega
    · have hge := of_decide_eq_false hge
      have eq : q' = q'.take (j - i).toNat ++ q'.drop (j - i).toNat := (List.take_append_drop _ _).symm
      have l1 : (q'.take (j - i).toNat).length = q'.length - p'.length := by rw [List.length_take]; omega
      have l2 : (q'.drop (j - i).toNat).length = p'.length := by rw [List.length_drop]; omega
      generalize q'.take (j - i).toNat = q1 at eq l1
      generalize q'.drop (j - i).toNat = q2 at eq l2
      subst eq
      simp only [List.length_append] at hql hj l1 hlen
      refine ⟨by simp only [rng]; omega, by simp only [rng]; omega, by simp only [rng]; omega, _, swapRange_Tup (X := X') (p := p') (r := q1) (q := q2) (Y := Y') (by simpa using hr3) (by simpa using hNl) (by omega) l2.symm (by omega) (by omega) (by omega), ?_⟩
      intro H13 l13 ys15 h15
      refine ⟨by simp only [rng]; omega, ⟨hu, X', q2, q1, p' ++ Y', by simpa using h15, by omega, by omega, by omega, ?_, ?_, by rw [he]; simp⟩, by dsimp only; omega⟩
      · intro h; have := congrArg List.length h; rw [List.length_nil] at this; omega
      · intro h; have := congrArg List.length h; rw [List.length_nil] at this; omega
  · have heq : i = j := by simpa using heq
    refine ⟨by simp only [rng]; omega, _, swapRange_Tup (X := X') (p := p') (r := []) (q := q') (Y := Y') (by simpa using hr3) (by simpa using hNl) (by omega) (by omega) (by omega) (by simp; omega) (by omega), ?_⟩
    intro H25 l25 ys27 h27
    refine ⟨rfl, hu, ?_⟩
    rw [he]
    simpa using h27
def an168 : Ann where
  res := fun _ => none
  lend := fun | 49 => true | 101 => true | 169 => true | _ => false
  mt := fun | 168 => some true | 181 => some true | _ => none
  sch := fun | 5 => (tk [0, 1, 2, 5, 6] (.alt 3 (.alt 4 (.alt 7 (.alt 8 (.alt 9 (tk [10] .done) .fin) .fin) .fin) (.alt 7 (.alt 4 (.alt 8 (.alt 9 (tk [10] .done) .fin) .fin) (.alt 8 (.alt 4 (.alt 9 (tk [10] .done) .fin) .fin) .fin)) .fin)) (.alt 7 (.alt 3 (.alt 4 (.alt 8 (.alt 9 (tk [10] .done) .fin) .fin) (.alt 8 (.alt 4 (.alt 9 (tk [10] .done) .fin) .fin) .fin)) (.alt 8 (.alt 3 (.alt 4 (.alt 9 (tk [10] .done) .fin) .fin) .fin) .fin)) .fin))) | 11 => (tk [0, 1, 2, 3, 4, 5, 6, 7, 10, 11] (.alt 8 (.alt 9 (.alt 12 (.alt 13 (.alt 14 (.alt 15 (.alt 16 (.alt 17 .done .fin) .fin) .fin) .fin) .fin) .fin) (.alt 12 (.alt 9 (.alt 13 (.alt 14 (.alt 15 (.alt 16 (.alt 17 .done .fin) .fin) .fin) .fin) .fin) (.alt 13 (.alt 9 (.alt 14 (.alt 15 (.alt 16 (.alt 17 .done .fin) .fin) .fin) .fin) .fin) .fin)) .fin)) (.alt 12 (.alt 8 (.alt 9 (.alt 13 (.alt 14 (.alt 15 (.alt 16 (.alt 17 .done .fin) .fin) .fin) .fin) .fin) (.alt 13 (.alt 9 (.alt 14 (.alt 15 (.alt 16 (.alt 17 .done .fin) .fin) .fin) .fin) .fin) .fin)) (.alt 13 (.alt 8 (.alt 9 (.alt 14 (.alt 15 (.alt 16 (.alt 17 .done .fin) .fin) .fin) .fin) .fin) .fin) .fin)) .fin))) | 17 => (tk [0, 1, 2, 5, 6] (.alt 3 (.alt 4 (.alt 7 (.alt 8 (.alt 9 (tk [10, 11] .done) .fin) .fin) .fin) (.alt 7 (.alt 4 (.alt 8 (.alt 9 (tk [10, 11] .done) .fin) .fin) (.alt 8 (.alt 4 (.alt 9 (tk [10, 11] .done) .fin) .fin) .fin)) .fin)) (.alt 7 (.alt 3 (.alt 4 (.alt 8 (.alt 9 (tk [10, 11] .done) .fin) .fin) (.alt 8 (.alt 4 (.alt 9 (tk [10, 11] .done) .fin) .fin) .fin)) (.alt 8 (.alt 3 (.alt 4 (.alt 9 (tk [10, 11] .done) .fin) .fin) .fin) .fin)) .fin))) | 23 => (tk [0, 1, 2, 3, 4, 5, 6, 7, 10, 11] (.alt 8 (.alt 9 (.alt 12 (.alt 13 (.alt 14 (.alt 15 (.alt 16 (.alt 17 .done .fin) .fin) .fin) .fin) .fin) .fin) (.alt 12 (.alt 9 (.alt 13 (.alt 14 (.alt 15 (.alt 16 (.alt 17 .done .fin) .fin) .fin) .fin) .fin) (.alt 13 (.alt 9 (.alt 14 (.alt 15 (.alt 16 (.alt 17 .done .fin) .fin) .fin) .fin) .fin) .fin)) .fin)) (.alt 12 (.alt 8 (.alt 9 (.alt 13 (.alt 14 (.alt 15 (.alt 16 (.alt 17 .done .fin) .fin) .fin) .fin) .fin) (.alt 13 (.alt 9 (.alt 14 (.alt 15 (.alt 16 (.alt 17 .done .fin) .fin) .fin) .fin) .fin) .fin)) (.alt 13 (.alt 8 (.alt 9 (.alt 14 (.alt 15 (.alt 16 (.alt 17 .done .fin) .fin) .fin) .fin) .fin) .fin) .fin)) .fin))) | 35 => (tk [0, 1, 2, 3, 4, 7, 8] (.alt 5 (.alt 6 (.alt 9 (.alt 10 (.alt 11 (tk [12, 13] .done) .fin) .fin) .fin) (.alt 9 (.alt 6 (.alt 10 (.alt 11 (tk [12, 13] .done) .fin) .fin) (.alt 10 (.alt 6 (.alt 11 (tk [12, 13] .done) .fin) .fin) .fin)) .fin)) (.alt 9 (.alt 5 (.alt 6 (.alt 10 (.alt 11 (tk [12, 13] .done) .fin) .fin) (.alt 10 (.alt 6 (.alt 11 (tk [12, 13] .done) .fin) .fin) .fin)) (.alt 10 (.alt 5 (.alt 6 (.alt 11 (tk [12, 13] .done) .fin) .fin) .fin) .fin)) .fin))) | _ => .done
  lt := fun | 3 => [.slot 10 false [.int .i64], .slot 11 false [.int .i64]] | 9 => [.rowc 220 57, .slot 13 false [.int .i64]] | 15 => [.slot 14 false [.int .i64], .slot 15 false [.int .i64]] | 21 => [.rowc 220 57, .slot 17 false [.int .i64]] | 33 => [.slot 20 false [.int .i64], .slot 21 false [.int .i64]] | _ => []
  tup := tups

theorem vc168 (P : Program) (H : Heap) (p1 : Int) (p2 : Int) (p3 : Int) (p4F : FuncId) (rowN : Nat) (rowXs : List Value) (post : List Value → Heap → Prop) :
  vcFnK P tab an168 Tryz.f168 [.slice none 0 0, .int .i64 p1, .int .i64 p2, .int .i64 p3, .func (.func p4F) #[] #[]] 0 57 rowN rowXs 0 H post =
  (  ∀ (s0 : Value), rng .i64 (p2 - p1) ∧ (decide (p2 - p1 = (1 : Int)) = true → ∃ (inv2 : Int → Int → Heap → Prop), ∃ (m3 : Int → Int → Nat), inv2 p2 p3 H ∧ ∀ (H4 : Heap), Heap.le H H4 → ∀ (n6
  n7 : Int), inv2 n6 n7 H4 → (decide (n6 < n7) = true → rng .i64 (n6 + n7) ∧ ∃ (e10 : Int), IntKind.wrap IntKind.u64 (n6 + n7) = e10 ∧ (1 : Int) = (1 : Int) ∧ ∃ (e11 : Int), IntKind.wrap
  IntKind.i64 (Int.fdiv e10 (2 : Int)) = e11 ∧ ((0 : Int) ≤ e11 ∧ e11 < (↑rowN : Int) ∧ (∃ (A12 : Option Addr), ∃ (n13 : Nat), ∃ (c14 : Nat), ∃ (n15 : Int), ∃ (n16 : Int), ∃ (A17 : Option
  Addr), ∃ (n18 : Nat), ∃ (c19 : Nat), win rowXs (Int.toNat e11 * 4) 4 = [.slice A12 n13 c14, .int .i64 n15, .int .i64 n16, .slice A17 n18 c19] ∧ (0 : Int) ≤ p1 ∧ p1 < (↑rowN : Int) ∧ ∃ (A20
  : Option Addr), ∃ (n21 : Nat), ∃ (c22 : Nat), ∃ (n23 : Int), ∃ (n24 : Int), ∃ (A25 : Option Addr), ∃ (n26 : Nat), ∃ (c27 : Nat), win rowXs (Int.toNat p1 * 4) 4 = [.slice A20 n21 c22, .int
  .i64 n23, .int .i64 n24, .slice A25 n26 c27] ∧ ∃ (post28 : Int → Heap → Prop), ConT P p4F [.agg ⟨[.slice A12 n13 c14, .int .i64 n15, .int .i64 n16, .slice A17 n18 c19]⟩, .agg ⟨[.slice A20
  n21 c22, .int .i64 n23, .int .i64 n24, .slice A25 n26 c27]⟩] H4 ⟨false, [(false, [.int .i64])]⟩ post28 ∧ ∀ (H29 : Heap), Heap.le H4 H29 → ∀ (n31 : Int), post28 n31 H29 → (decide (n31 < (0 :
  Int)) = true → rng .i64 (e11 + (1 : Int)) ∧ inv2 (e11 + (1 : Int)) n7 H29 ∧ m3 (e11 + (1 : Int)) n7 < m3 n6 n7) ∧ (decide (n31 < (0 : Int)) = false → inv2 n6 e11 H29 ∧ m3 n6 e11 < m3 n6
  n7)) ∧ (0 : Int) ≤ p1 ∧ p1 < (↑rowN : Int) ∧ (∃ (A35 : Option Addr), ∃ (n36 : Nat), ∃ (c37 : Nat), ∃ (n38 : Int), ∃ (n39 : Int), ∃ (A40 : Option Addr), ∃ (n41 : Nat), ∃ (c42 : Nat), win
  rowXs (Int.toNat e11 * 4) 4 = [.slice A35 n36 c37, .int .i64 n38, .int .i64 n39, .slice A40 n41 c42] ∧ ∃ (A43 : Option Addr), ∃ (n44 : Nat), ∃ (c45 : Nat), ∃ (n46 : Int), ∃ (n47 : Int), ∃
  (A48 : Option Addr), ∃ (n49 : Nat), ∃ (c50 : Nat), win rowXs (Int.toNat p1 * 4) 4 = [.slice A43 n44 c45, .int .i64 n46, .int .i64 n47, .slice A48 n49 c50] ∧ ∃ (post51 : Int → Heap → Prop),
  ConT P p4F [.agg ⟨[.slice A35 n36 c37, .int .i64 n38, .int .i64 n39, .slice A40 n41 c42]⟩, .agg ⟨[.slice A43 n44 c45, .int .i64 n46, .int .i64 n47, .slice A48 n49 c50]⟩] H4 ⟨false, [(false,
  [.int .i64])]⟩ post51 ∧ ∀ (H52 : Heap), Heap.le H4 H52 → ∀ (n54 : Int), post51 n54 H52 → (decide (n54 < (0 : Int)) = true → rng .i64 (e11 + (1 : Int)) ∧ inv2 (e11 + (1 : Int)) n7 H52 ∧ m3
  (e11 + (1 : Int)) n7 < m3 n6 n7) ∧ (decide (n54 < (0 : Int)) = false → inv2 n6 e11 H52 ∧ m3 n6 e11 < m3 n6 n7)) ∧ ∃ (A58 : Option Addr), ∃ (n59 : Nat), ∃ (c60 : Nat), ∃ (n61 : Int), ∃ (n62
  : Int), ∃ (A63 : Option Addr), ∃ (n64 : Nat), ∃ (c65 : Nat), win rowXs (Int.toNat p1 * 4) 4 = [.slice A58 n59 c60, .int .i64 n61, .int .i64 n62, .slice A63 n64 c65] ∧ ∃ (A66 : Option Addr),
  ∃ (n67 : Nat), ∃ (c68 : Nat), ∃ (n69 : Int), ∃ (n70 : Int), ∃ (A71 : Option Addr), ∃ (n72 : Nat), ∃ (c73 : Nat), win rowXs (Int.toNat e11 * 4) 4 = [.slice A66 n67 c68, .int .i64 n69, .int
  .i64 n70, .slice A71 n72 c73] ∧ ∃ (post74 : Int → Heap → Prop), ConT P p4F [.agg ⟨[.slice A66 n67 c68, .int .i64 n69, .int .i64 n70, .slice A71 n72 c73]⟩, .agg ⟨[.slice A58 n59 c60, .int
  .i64 n61, .int .i64 n62, .slice A63 n64 c65]⟩] H4 ⟨false, [(false, [.int .i64])]⟩ post74 ∧ ∀ (H75 : Heap), Heap.le H4 H75 → ∀ (n77 : Int), post74 n77 H75 → (decide (n77 < (0 : Int)) = true
  → rng .i64 (e11 + (1 : Int)) ∧ inv2 (e11 + (1 : Int)) n7 H75 ∧ m3 (e11 + (1 : Int)) n7 < m3 n6 n7) ∧ (decide (n77 < (0 : Int)) = false → inv2 n6 e11 H75 ∧ m3 n6 e11 < m3 n6 n7)) ∧ (0 : Int)
  ≤ p1 ∧ p1 < (↑rowN : Int) ∧ ((0 : Int) ≤ e11 ∧ e11 < (↑rowN : Int) ∧ (∃ (A81 : Option Addr), ∃ (n82 : Nat), ∃ (c83 : Nat), ∃ (n84 : Int), ∃ (n85 : Int), ∃ (A86 : Option Addr), ∃ (n87 :
  Nat), ∃ (c88 : Nat), win rowXs (Int.toNat e11 * 4) 4 = [.slice A81 n82 c83, .int .i64 n84, .int .i64 n85, .slice A86 n87 c88] ∧ ∃ (A89 : Option Addr), ∃ (n90 : Nat), ∃ (c91 : Nat), ∃ (n92 :
  Int), ∃ (n93 : Int), ∃ (A94 : Option Addr), ∃ (n95 : Nat), ∃ (c96 : Nat), win rowXs (Int.toNat p1 * 4) 4 = [.slice A89 n90 c91, .int .i64 n92, .int .i64 n93, .slice A94 n95 c96] ∧ ∃ (post97
  : Int → Heap → Prop), ConT P p4F [.agg ⟨[.slice A81 n82 c83, .int .i64 n84, .int .i64 n85, .slice A86 n87 c88]⟩, .agg ⟨[.slice A89 n90 c91, .int .i64 n92, .int .i64 n93, .slice A94 n95
  c96]⟩] H4 ⟨false, [(false, [.int .i64])]⟩ post97 ∧ ∀ (H98 : Heap), Heap.le H4 H98 → ∀ (n100 : Int), post97 n100 H98 → (decide (n100 < (0 : Int)) = true → rng .i64 (e11 + (1 : Int)) ∧ inv2
  (e11 + (1 : Int)) n7 H98 ∧ m3 (e11 + (1 : Int)) n7 < m3 n6 n7) ∧ (decide (n100 < (0 : Int)) = false → inv2 n6 e11 H98 ∧ m3 n6 e11 < m3 n6 n7)) ∧ ∃ (A104 : Option Addr), ∃ (n105 : Nat), ∃
  (c106 : Nat), ∃ (n107 : Int), ∃ (n108 : Int), ∃ (A109 : Option Addr), ∃ (n110 : Nat), ∃ (c111 : Nat), win rowXs (Int.toNat p1 * 4) 4 = [.slice A104 n105 c106, .int .i64 n107, .int .i64
  n108, .slice A109 n110 c111] ∧ ∃ (A112 : Option Addr), ∃ (n113 : Nat), ∃ (c114 : Nat), ∃ (n115 : Int), ∃ (n116 : Int), ∃ (A117 : Option Addr), ∃ (n118 : Nat), ∃ (c119 : Nat), win rowXs
  (Int.toNat e11 * 4) 4 = [.slice A112 n113 c114, .int .i64 n115, .int .i64 n116, .slice A117 n118 c119] ∧ ∃ (post120 : Int → Heap → Prop), ConT P p4F [.agg ⟨[.slice A112 n113 c114, .int .i64
  n115, .int .i64 n116, .slice A117 n118 c119]⟩, .agg ⟨[.slice A104 n105 c106, .int .i64 n107, .int .i64 n108, .slice A109 n110 c111]⟩] H4 ⟨false, [(false, [.int .i64])]⟩ post120 ∧ ∀ (H121 :
  Heap), Heap.le H4 H121 → ∀ (n123 : Int), post120 n123 H121 → (decide (n123 < (0 : Int)) = true → rng .i64 (e11 + (1 : Int)) ∧ inv2 (e11 + (1 : Int)) n7 H121 ∧ m3 (e11 + (1 : Int)) n7 < m3
  n6 n7) ∧ (decide (n123 < (0 : Int)) = false → inv2 n6 e11 H121 ∧ m3 n6 e11 < m3 n6 n7)) ∧ ∃ (A127 : Option Addr), ∃ (n128 : Nat), ∃ (c129 : Nat), ∃ (n130 : Int), ∃ (n131 : Int), ∃ (A132 :
  Option Addr), ∃ (n133 : Nat), ∃ (c134 : Nat), win rowXs (Int.toNat p1 * 4) 4 = [.slice A127 n128 c129, .int .i64 n130, .int .i64 n131, .slice A132 n133 c134] ∧ (0 : Int) ≤ e11 ∧ e11 <
  (↑rowN : Int) ∧ ∃ (A135 : Option Addr), ∃ (n136 : Nat), ∃ (c137 : Nat), ∃ (n138 : Int), ∃ (n139 : Int), ∃ (A140 : Option Addr), ∃ (n141 : Nat), ∃ (c142 : Nat), win rowXs (Int.toNat e11 * 4)
  4 = [.slice A135 n136 c137, .int .i64 n138, .int .i64 n139, .slice A140 n141 c142] ∧ ∃ (post143 : Int → Heap → Prop), ConT P p4F [.agg ⟨[.slice A135 n136 c137, .int .i64 n138, .int .i64
  n139, .slice A140 n141 c142]⟩, .agg ⟨[.slice A127 n128 c129, .int .i64 n130, .int .i64 n131, .slice A132 n133 c134]⟩] H4 ⟨false, [(false, [.int .i64])]⟩ post143 ∧ ∀ (H144 : Heap), Heap.le
  H4 H144 → ∀ (n146 : Int), post143 n146 H144 → (decide (n146 < (0 : Int)) = true → rng .i64 (e11 + (1 : Int)) ∧ inv2 (e11 + (1 : Int)) n7 H144 ∧ m3 (e11 + (1 : Int)) n7 < m3 n6 n7) ∧ (decide
  (n146 < (0 : Int)) = false → inv2 n6 e11 H144 ∧ m3 n6 e11 < m3 n6 n7)) ∧ (decide (n6 < n7) = false → ∃ (inv151 : Nat → List Value → Int → Heap → Prop), ∃ (m152 : Nat → List Value → Int →
  Nat), inv151 rowN rowXs p1 H4 ∧ ∀ (H153 : Heap), Heap.le H4 H153 → ∀ (n155 : Nat) (xs156 : List Value) (n157 : Int), inv151 n155 xs156 n157 H153 → rng .i64 (n6 - (1 : Int)) ∧ (decide (n157
  < n6 - (1 : Int)) = true → rng .i64 (n157 + (1 : Int)) ∧ rng .i64 (n157 + (1 : Int)) ∧ ((0 : Int) ≤ n157 + (1 : Int) ∧ n157 + (1 : Int) < (↑n155 : Int) ∧ (∃ (A160 : Option Addr), ∃ (n161 :
  Nat), ∃ (c162 : Nat), ∃ (n163 : Int), ∃ (n164 : Int), ∃ (A165 : Option Addr), ∃ (n166 : Nat), ∃ (c167 : Nat), win xs156 (Int.toNat (n157 + (1 : Int)) * 4) 4 = [.slice A160 n161 c162, .int
  .i64 n163, .int .i64 n164, .slice A165 n166 c167] ∧ (0 : Int) ≤ n157 ∧ n157 < (↑n155 : Int) ∧ ∃ (A168 : Option Addr), ∃ (n169 : Nat), ∃ (c170 : Nat), ∃ (n171 : Int), ∃ (n172 : Int), ∃ (A173
  : Option Addr), ∃ (n174 : Nat), ∃ (c175 : Nat), win xs156 (Int.toNat n157 * 4) 4 = [.slice A168 n169 c170, .int .i64 n171, .int .i64 n172, .slice A173 n174 c175] ∧ (0 : Int) ≤ n157 ∧ n157 <
  (↑n155 : Int) ∧ Int.toNat n157 * 4 + 4 ≤ List.length xs156 ∧ (0 : Int) ≤ n157 + (1 : Int) ∧ n157 + (1 : Int) < (↑n155 : Int) ∧ Int.toNat (n157 + (1 : Int)) * 4 + 4 ≤ List.length (splice
  xs156 (Int.toNat n157 * 4) [.slice A160 n161 c162, .int .i64 n163, .int .i64 n164, .slice A165 n166 c167]) ∧ rng .i64 (n157 + (1 : Int)) ∧ inv151 n155 (splice (splice xs156 (Int.toNat n157
  * 4) [.slice A160 n161 c162, .int .i64 n163, .int .i64 n164, .slice A165 n166 c167]) (Int.toNat (n157 + (1 : Int)) * 4) [.slice A168 n169 c170, .int .i64 n171, .int .i64 n172, .slice A173
  n174 c175]) (n157 + (1 : Int)) H153 ∧ m152 n155 (splice (splice xs156 (Int.toNat n157 * 4) [.slice A160 n161 c162, .int .i64 n163, .int .i64 n164, .slice A165 n166 c167]) (Int.toNat (n157 +
  (1 : Int)) * 4) [.slice A168 n169 c170, .int .i64 n171, .int .i64 n172, .slice A173 n174 c175]) (n157 + (1 : Int)) < m152 n155 xs156 n157) ∧ (0 : Int) ≤ n157 ∧ n157 < (↑n155 : Int) ∧ (∃
  (A176 : Option Addr), ∃ (n177 : Nat), ∃ (c178 : Nat), ∃ (n179 : Int), ∃ (n180 : Int), ∃ (A181 : Option Addr), ∃ (n182 : Nat), ∃ (c183 : Nat), win xs156 (Int.toNat (n157 + (1 : Int)) * 4) 4
  = [.slice A176 n177 c178, .int .i64 n179, .int .i64 n180, .slice A181 n182 c183] ∧ ∃ (A184 : Option Addr), ∃ (n185 : Nat), ∃ (c186 : Nat), ∃ (n187 : Int), ∃ (n188 : Int), ∃ (A189 : Option
  Addr), ∃ (n190 : Nat), ∃ (c191 : Nat), win xs156 (Int.toNat n157 * 4) 4 = [.slice A184 n185 c186, .int .i64 n187, .int .i64 n188, .slice A189 n190 c191] ∧ (0 : Int) ≤ n157 ∧ n157 < (↑n155 :
  Int) ∧ Int.toNat n157 * 4 + 4 ≤ List.length xs156 ∧ (0 : Int) ≤ n157 + (1 : Int) ∧ n157 + (1 : Int) < (↑n155 : Int) ∧ Int.toNat (n157 + (1 : Int)) * 4 + 4 ≤ List.length (splice xs156
  (Int.toNat n157 * 4) [.slice A176 n177 c178, .int .i64 n179, .int .i64 n180, .slice A181 n182 c183]) ∧ rng .i64 (n157 + (1 : Int)) ∧ inv151 n155 (splice (splice xs156 (Int.toNat n157 * 4)
  [.slice A176 n177 c178, .int .i64 n179, .int .i64 n180, .slice A181 n182 c183]) (Int.toNat (n157 + (1 : Int)) * 4) [.slice A184 n185 c186, .int .i64 n187, .int .i64 n188, .slice A189 n190
  c191]) (n157 + (1 : Int)) H153 ∧ m152 n155 (splice (splice xs156 (Int.toNat n157 * 4) [.slice A176 n177 c178, .int .i64 n179, .int .i64 n180, .slice A181 n182 c183]) (Int.toNat (n157 + (1 :
  Int)) * 4) [.slice A184 n185 c186, .int .i64 n187, .int .i64 n188, .slice A189 n190 c191]) (n157 + (1 : Int)) < m152 n155 xs156 n157) ∧ ∃ (A192 : Option Addr), ∃ (n193 : Nat), ∃ (c194 :
  Nat), ∃ (n195 : Int), ∃ (n196 : Int), ∃ (A197 : Option Addr), ∃ (n198 : Nat), ∃ (c199 : Nat), win xs156 (Int.toNat n157 * 4) 4 = [.slice A192 n193 c194, .int .i64 n195, .int .i64 n196,
  .slice A197 n198 c199] ∧ ∃ (A200 : Option Addr), ∃ (n201 : Nat), ∃ (c202 : Nat), ∃ (n203 : Int), ∃ (n204 : Int), ∃ (A205 : Option Addr), ∃ (n206 : Nat), ∃ (c207 : Nat), win xs156 (Int.toNat
  (n157 + (1 : Int)) * 4) 4 = [.slice A200 n201 c202, .int .i64 n203, .int .i64 n204, .slice A205 n206 c207] ∧ (0 : Int) ≤ n157 ∧ n157 < (↑n155 : Int) ∧ Int.toNat n157 * 4 + 4 ≤ List.length
  xs156 ∧ (0 : Int) ≤ n157 + (1 : Int) ∧ n157 + (1 : Int) < (↑n155 : Int) ∧ Int.toNat (n157 + (1 : Int)) * 4 + 4 ≤ List.length (splice xs156 (Int.toNat n157 * 4) [.slice A200 n201 c202, .int
  .i64 n203, .int .i64 n204, .slice A205 n206 c207]) ∧ rng .i64 (n157 + (1 : Int)) ∧ inv151 n155 (splice (splice xs156 (Int.toNat n157 * 4) [.slice A200 n201 c202, .int .i64 n203, .int .i64
  n204, .slice A205 n206 c207]) (Int.toNat (n157 + (1 : Int)) * 4) [.slice A192 n193 c194, .int .i64 n195, .int .i64 n196, .slice A197 n198 c199]) (n157 + (1 : Int)) H153 ∧ m152 n155 (splice
  (splice xs156 (Int.toNat n157 * 4) [.slice A200 n201 c202, .int .i64 n203, .int .i64 n204, .slice A205 n206 c207]) (Int.toNat (n157 + (1 : Int)) * 4) [.slice A192 n193 c194, .int .i64 n195,
  .int .i64 n196, .slice A197 n198 c199]) (n157 + (1 : Int)) < m152 n155 xs156 n157) ∧ (0 : Int) ≤ n157 ∧ n157 < (↑n155 : Int) ∧ ((0 : Int) ≤ n157 + (1 : Int) ∧ n157 + (1 : Int) < (↑n155 :
  Int) ∧ (∃ (A208 : Option Addr), ∃ (n209 : Nat), ∃ (c210 : Nat), ∃ (n211 : Int), ∃ (n212 : Int), ∃ (A213 : Option Addr), ∃ (n214 : Nat), ∃ (c215 : Nat), win xs156 (Int.toNat (n157 + (1 :
  Int)) * 4) 4 = [.slice A208 n209 c210, .int .i64 n211, .int .i64 n212, .slice A213 n214 c215] ∧ ∃ (A216 : Option Addr), ∃ (n217 : Nat), ∃ (c218 : Nat), ∃ (n219 : Int), ∃ (n220 : Int), ∃
  (A221 : Option Addr), ∃ (n222 : Nat), ∃ (c223 : Nat), win xs156 (Int.toNat n157 * 4) 4 = [.slice A216 n217 c218, .int .i64 n219, .int .i64 n220, .slice A221 n222 c223] ∧ (0 : Int) ≤ n157 ∧
  n157 < (↑n155 : Int) ∧ Int.toNat n157 * 4 + 4 ≤ List.length xs156 ∧ (0 : Int) ≤ n157 + (1 : Int) ∧ n157 + (1 : Int) < (↑n155 : Int) ∧ Int.toNat (n157 + (1 : Int)) * 4 + 4 ≤ List.length
  (splice xs156 (Int.toNat n157 * 4) [.slice A208 n209 c210, .int .i64 n211, .int .i64 n212, .slice A213 n214 c215]) ∧ rng .i64 (n157 + (1 : Int)) ∧ inv151 n155 (splice (splice xs156
  (Int.toNat n157 * 4) [.slice A208 n209 c210, .int .i64 n211, .int .i64 n212, .slice A213 n214 c215]) (Int.toNat (n157 + (1 : Int)) * 4) [.slice A216 n217 c218, .int .i64 n219, .int .i64
  n220, .slice A221 n222 c223]) (n157 + (1 : Int)) H153 ∧ m152 n155 (splice (splice xs156 (Int.toNat n157 * 4) [.slice A208 n209 c210, .int .i64 n211, .int .i64 n212, .slice A213 n214 c215])
  (Int.toNat (n157 + (1 : Int)) * 4) [.slice A216 n217 c218, .int .i64 n219, .int .i64 n220, .slice A221 n222 c223]) (n157 + (1 : Int)) < m152 n155 xs156 n157) ∧ ∃ (A224 : Option Addr), ∃
  (n225 : Nat), ∃ (c226 : Nat), ∃ (n227 : Int), ∃ (n228 : Int), ∃ (A229 : Option Addr), ∃ (n230 : Nat), ∃ (c231 : Nat), win xs156 (Int.toNat n157 * 4) 4 = [.slice A224 n225 c226, .int .i64
  n227, .int .i64 n228, .slice A229 n230 c231] ∧ ∃ (A232 : Option Addr), ∃ (n233 : Nat), ∃ (c234 : Nat), ∃ (n235 : Int), ∃ (n236 : Int), ∃ (A237 : Option Addr), ∃ (n238 : Nat), ∃ (c239 :
  Nat), win xs156 (Int.toNat (n157 + (1 : Int)) * 4) 4 = [.slice A232 n233 c234, .int .i64 n235, .int .i64 n236, .slice A237 n238 c239] ∧ (0 : Int) ≤ n157 ∧ n157 < (↑n155 : Int) ∧ Int.toNat
  n157 * 4 + 4 ≤ List.length xs156 ∧ (0 : Int) ≤ n157 + (1 : Int) ∧ n157 + (1 : Int) < (↑n155 : Int) ∧ Int.toNat (n157 + (1 : Int)) * 4 + 4 ≤ List.length (splice xs156 (Int.toNat n157 * 4)
  [.slice A232 n233 c234, .int .i64 n235, .int .i64 n236, .slice A237 n238 c239]) ∧ rng .i64 (n157 + (1 : Int)) ∧ inv151 n155 (splice (splice xs156 (Int.toNat n157 * 4) [.slice A232 n233
  c234, .int .i64 n235, .int .i64 n236, .slice A237 n238 c239]) (Int.toNat (n157 + (1 : Int)) * 4) [.slice A224 n225 c226, .int .i64 n227, .int .i64 n228, .slice A229 n230 c231]) (n157 + (1 :
  Int)) H153 ∧ m152 n155 (splice (splice xs156 (Int.toNat n157 * 4) [.slice A232 n233 c234, .int .i64 n235, .int .i64 n236, .slice A237 n238 c239]) (Int.toNat (n157 + (1 : Int)) * 4) [.slice
  A224 n225 c226, .int .i64 n227, .int .i64 n228, .slice A229 n230 c231]) (n157 + (1 : Int)) < m152 n155 xs156 n157) ∧ ∃ (A240 : Option Addr), ∃ (n241 : Nat), ∃ (c242 : Nat), ∃ (n243 : Int),
  ∃ (n244 : Int), ∃ (A245 : Option Addr), ∃ (n246 : Nat), ∃ (c247 : Nat), win xs156 (Int.toNat n157 * 4) 4 = [.slice A240 n241 c242, .int .i64 n243, .int .i64 n244, .slice A245 n246 c247] ∧
  (0 : Int) ≤ n157 + (1 : Int) ∧ n157 + (1 : Int) < (↑n155 : Int) ∧ ∃ (A248 : Option Addr), ∃ (n249 : Nat), ∃ (c250 : Nat), ∃ (n251 : Int), ∃ (n252 : Int), ∃ (A253 : Option Addr), ∃ (n254 :
  Nat), ∃ (c255 : Nat), win xs156 (Int.toNat (n157 + (1 : Int)) * 4) 4 = [.slice A248 n249 c250, .int .i64 n251, .int .i64 n252, .slice A253 n254 c255] ∧ (0 : Int) ≤ n157 ∧ n157 < (↑n155 :
  Int) ∧ Int.toNat n157 * 4 + 4 ≤ List.length xs156 ∧ (0 : Int) ≤ n157 + (1 : Int) ∧ n157 + (1 : Int) < (↑n155 : Int) ∧ Int.toNat (n157 + (1 : Int)) * 4 + 4 ≤ List.length (splice xs156
  (Int.toNat n157 * 4) [.slice A248 n249 c250, .int .i64 n251, .int .i64 n252, .slice A253 n254 c255]) ∧ rng .i64 (n157 + (1 : Int)) ∧ inv151 n155 (splice (splice xs156 (Int.toNat n157 * 4)
  [.slice A248 n249 c250, .int .i64 n251, .int .i64 n252, .slice A253 n254 c255]) (Int.toNat (n157 + (1 : Int)) * 4) [.slice A240 n241 c242, .int .i64 n243, .int .i64 n244, .slice A245 n246
  c247]) (n157 + (1 : Int)) H153 ∧ m152 n155 (splice (splice xs156 (Int.toNat n157 * 4) [.slice A248 n249 c250, .int .i64 n251, .int .i64 n252, .slice A253 n254 c255]) (Int.toNat (n157 + (1 :
  Int)) * 4) [.slice A240 n241 c242, .int .i64 n243, .int .i64 n244, .slice A245 n246 c247]) (n157 + (1 : Int)) < m152 n155 xs156 n157) ∧ (decide (n157 < n6 - (1 : Int)) = false → s0 = s0 ∧
  n155 = rowN ∧ post xs156 H153))) ∧ (decide (p2 - p1 = (1 : Int)) = false → rng .i64 (p3 - p2) ∧ (decide (p3 - p2 = (1 : Int)) = true → ∃ (inv259 : Int → Int → Heap → Prop), ∃ (m260 : Int →
  Int → Nat), inv259 p1 p2 H ∧ ∀ (H261 : Heap), Heap.le H H261 → ∀ (n263 n264 : Int), inv259 n263 n264 H261 → (decide (n263 < n264) = true → rng .i64 (n263 + n264) ∧ ∃ (e267 : Int),
  IntKind.wrap IntKind.u64 (n263 + n264) = e267 ∧ (1 : Int) = (1 : Int) ∧ ∃ (e268 : Int), IntKind.wrap IntKind.i64 (Int.fdiv e267 (2 : Int)) = e268 ∧ ((0 : Int) ≤ p2 ∧ p2 < (↑rowN : Int) ∧ (∃
  (A269 : Option Addr), ∃ (n270 : Nat), ∃ (c271 : Nat), ∃ (n272 : Int), ∃ (n273 : Int), ∃ (A274 : Option Addr), ∃ (n275 : Nat), ∃ (c276 : Nat), win rowXs (Int.toNat p2 * 4) 4 = [.slice A269
  n270 c271, .int .i64 n272, .int .i64 n273, .slice A274 n275 c276] ∧ (0 : Int) ≤ e268 ∧ e268 < (↑rowN : Int) ∧ ∃ (A277 : Option Addr), ∃ (n278 : Nat), ∃ (c279 : Nat), ∃ (n280 : Int), ∃ (n281
  : Int), ∃ (A282 : Option Addr), ∃ (n283 : Nat), ∃ (c284 : Nat), win rowXs (Int.toNat e268 * 4) 4 = [.slice A277 n278 c279, .int .i64 n280, .int .i64 n281, .slice A282 n283 c284] ∧ ∃
  (post285 : Int → Heap → Prop), ConT P p4F [.agg ⟨[.slice A269 n270 c271, .int .i64 n272, .int .i64 n273, .slice A274 n275 c276]⟩, .agg ⟨[.slice A277 n278 c279, .int .i64 n280, .int .i64
  n281, .slice A282 n283 c284]⟩] H261 ⟨false, [(false, [.int .i64])]⟩ post285 ∧ ∀ (H286 : Heap), Heap.le H261 H286 → ∀ (n288 : Int), post285 n288 H286 → ((!decide (n288 < (0 : Int))) = true →
  rng .i64 (e268 + (1 : Int)) ∧ inv259 (e268 + (1 : Int)) n264 H286 ∧ m260 (e268 + (1 : Int)) n264 < m260 n263 n264) ∧ ((!decide (n288 < (0 : Int))) = false → inv259 n263 e268 H286 ∧ m260
  n263 e268 < m260 n263 n264)) ∧ (0 : Int) ≤ e268 ∧ e268 < (↑rowN : Int) ∧ (∃ (A292 : Option Addr), ∃ (n293 : Nat), ∃ (c294 : Nat), ∃ (n295 : Int), ∃ (n296 : Int), ∃ (A297 : Option Addr), ∃
  (n298 : Nat), ∃ (c299 : Nat), win rowXs (Int.toNat p2 * 4) 4 = [.slice A292 n293 c294, .int .i64 n295, .int .i64 n296, .slice A297 n298 c299] ∧ ∃ (A300 : Option Addr), ∃ (n301 : Nat), ∃
  (c302 : Nat), ∃ (n303 : Int), ∃ (n304 : Int), ∃ (A305 : Option Addr), ∃ (n306 : Nat), ∃ (c307 : Nat), win rowXs (Int.toNat e268 * 4) 4 = [.slice A300 n301 c302, .int .i64 n303, .int .i64
  n304, .slice A305 n306 c307] ∧ ∃ (post308 : Int → Heap → Prop), ConT P p4F [.agg ⟨[.slice A292 n293 c294, .int .i64 n295, .int .i64 n296, .slice A297 n298 c299]⟩, .agg ⟨[.slice A300 n301
  c302, .int .i64 n303, .int .i64 n304, .slice A305 n306 c307]⟩] H261 ⟨false, [(false, [.int .i64])]⟩ post308 ∧ ∀ (H309 : Heap), Heap.le H261 H309 → ∀ (n311 : Int), post308 n311 H309 →
  ((!decide (n311 < (0 : Int))) = true → rng .i64 (e268 + (1 : Int)) ∧ inv259 (e268 + (1 : Int)) n264 H309 ∧ m260 (e268 + (1 : Int)) n264 < m260 n263 n264) ∧ ((!decide (n311 < (0 : Int))) =
  false → inv259 n263 e268 H309 ∧ m260 n263 e268 < m260 n263 n264)) ∧ ∃ (A315 : Option Addr), ∃ (n316 : Nat), ∃ (c317 : Nat), ∃ (n318 : Int), ∃ (n319 : Int), ∃ (A320 : Option Addr), ∃ (n321 :
  Nat), ∃ (c322 : Nat), win rowXs (Int.toNat e268 * 4) 4 = [.slice A315 n316 c317, .int .i64 n318, .int .i64 n319, .slice A320 n321 c322] ∧ ∃ (A323 : Option Addr), ∃ (n324 : Nat), ∃ (c325 :
  Nat), ∃ (n326 : Int), ∃ (n327 : Int), ∃ (A328 : Option Addr), ∃ (n329 : Nat), ∃ (c330 : Nat), win rowXs (Int.toNat p2 * 4) 4 = [.slice A323 n324 c325, .int .i64 n326, .int .i64 n327, .slice
  A328 n329 c330] ∧ ∃ (post331 : Int → Heap → Prop), ConT P p4F [.agg ⟨[.slice A323 n324 c325, .int .i64 n326, .int .i64 n327, .slice A328 n329 c330]⟩, .agg ⟨[.slice A315 n316 c317, .int .i64
  n318, .int .i64 n319, .slice A320 n321 c322]⟩] H261 ⟨false, [(false, [.int .i64])]⟩ post331 ∧ ∀ (H332 : Heap), Heap.le H261 H332 → ∀ (n334 : Int), post331 n334 H332 → ((!decide (n334 < (0 :
  Int))) = true → rng .i64 (e268 + (1 : Int)) ∧ inv259 (e268 + (1 : Int)) n264 H332 ∧ m260 (e268 + (1 : Int)) n264 < m260 n263 n264) ∧ ((!decide (n334 < (0 : Int))) = false → inv259 n263 e268
  H332 ∧ m260 n263 e268 < m260 n263 n264)) ∧ (0 : Int) ≤ e268 ∧ e268 < (↑rowN : Int) ∧ ((0 : Int) ≤ p2 ∧ p2 < (↑rowN : Int) ∧ (∃ (A338 : Option Addr), ∃ (n339 : Nat), ∃ (c340 : Nat), ∃ (n341
  : Int), ∃ (n342 : Int), ∃ (A343 : Option Addr), ∃ (n344 : Nat), ∃ (c345 : Nat), win rowXs (Int.toNat p2 * 4) 4 = [.slice A338 n339 c340, .int .i64 n341, .int .i64 n342, .slice A343 n344
  c345] ∧ ∃ (A346 : Option Addr), ∃ (n347 : Nat), ∃ (c348 : Nat), ∃ (n349 : Int), ∃ (n350 : Int), ∃ (A351 : Option Addr), ∃ (n352 : Nat), ∃ (c353 : Nat), win rowXs (Int.toNat e268 * 4) 4 =
  [.slice A346 n347 c348, .int .i64 n349, .int .i64 n350, .slice A351 n352 c353] ∧ ∃ (post354 : Int → Heap → Prop), ConT P p4F [.agg ⟨[.slice A338 n339 c340, .int .i64 n341, .int .i64 n342,
  .slice A343 n344 c345]⟩, .agg ⟨[.slice A346 n347 c348, .int .i64 n349, .int .i64 n350, .slice A351 n352 c353]⟩] H261 ⟨false, [(false, [.int .i64])]⟩ post354 ∧ ∀ (H355 : Heap), Heap.le H261
  H355 → ∀ (n357 : Int), post354 n357 H355 → ((!decide (n357 < (0 : Int))) = true → rng .i64 (e268 + (1 : Int)) ∧ inv259 (e268 + (1 : Int)) n264 H355 ∧ m260 (e268 + (1 : Int)) n264 < m260
  n263 n264) ∧ ((!decide (n357 < (0 : Int))) = false → inv259 n263 e268 H355 ∧ m260 n263 e268 < m260 n263 n264)) ∧ ∃ (A361 : Option Addr), ∃ (n362 : Nat), ∃ (c363 : Nat), ∃ (n364 : Int), ∃
  (n365 : Int), ∃ (A366 : Option Addr), ∃ (n367 : Nat), ∃ (c368 : Nat), win rowXs (Int.toNat e268 * 4) 4 = [.slice A361 n362 c363, .int .i64 n364, .int .i64 n365, .slice A366 n367 c368] ∧ ∃
  (A369 : Option Addr), ∃ (n370 : Nat), ∃ (c371 : Nat), ∃ (n372 : Int), ∃ (n373 : Int), ∃ (A374 : Option Addr), ∃ (n375 : Nat), ∃ (c376 : Nat), win rowXs (Int.toNat p2 * 4) 4 = [.slice A369
  n370 c371, .int .i64 n372, .int .i64 n373, .slice A374 n375 c376] ∧ ∃ (post377 : Int → Heap → Prop), ConT P p4F [.agg ⟨[.slice A369 n370 c371, .int .i64 n372, .int .i64 n373, .slice A374
  n375 c376]⟩, .agg ⟨[.slice A361 n362 c363, .int .i64 n364, .int .i64 n365, .slice A366 n367 c368]⟩] H261 ⟨false, [(false, [.int .i64])]⟩ post377 ∧ ∀ (H378 : Heap), Heap.le H261 H378 → ∀
  (n380 : Int), post377 n380 H378 → ((!decide (n380 < (0 : Int))) = true → rng .i64 (e268 + (1 : Int)) ∧ inv259 (e268 + (1 : Int)) n264 H378 ∧ m260 (e268 + (1 : Int)) n264 < m260 n263 n264) ∧
  ((!decide (n380 < (0 : Int))) = false → inv259 n263 e268 H378 ∧ m260 n263 e268 < m260 n263 n264)) ∧ ∃ (A384 : Option Addr), ∃ (n385 : Nat), ∃ (c386 : Nat), ∃ (n387 : Int), ∃ (n388 : Int), ∃
  (A389 : Option Addr), ∃ (n390 : Nat), ∃ (c391 : Nat), win rowXs (Int.toNat e268 * 4) 4 = [.slice A384 n385 c386, .int .i64 n387, .int .i64 n388, .slice A389 n390 c391] ∧ (0 : Int) ≤ p2 ∧ p2
  < (↑rowN : Int) ∧ ∃ (A392 : Option Addr), ∃ (n393 : Nat), ∃ (c394 : Nat), ∃ (n395 : Int), ∃ (n396 : Int), ∃ (A397 : Option Addr), ∃ (n398 : Nat), ∃ (c399 : Nat), win rowXs (Int.toNat p2 *
  4) 4 = [.slice A392 n393 c394, .int .i64 n395, .int .i64 n396, .slice A397 n398 c399] ∧ ∃ (post400 : Int → Heap → Prop), ConT P p4F [.agg ⟨[.slice A392 n393 c394, .int .i64 n395, .int .i64
  n396, .slice A397 n398 c399]⟩, .agg ⟨[.slice A384 n385 c386, .int .i64 n387, .int .i64 n388, .slice A389 n390 c391]⟩] H261 ⟨false, [(false, [.int .i64])]⟩ post400 ∧ ∀ (H401 : Heap), Heap.le
  H261 H401 → ∀ (n403 : Int), post400 n403 H401 → ((!decide (n403 < (0 : Int))) = true → rng .i64 (e268 + (1 : Int)) ∧ inv259 (e268 + (1 : Int)) n264 H401 ∧ m260 (e268 + (1 : Int)) n264 <
  m260 n263 n264) ∧ ((!decide (n403 < (0 : Int))) = false → inv259 n263 e268 H401 ∧ m260 n263 e268 < m260 n263 n264)) ∧ (decide (n263 < n264) = false → ∃ (inv408 : Nat → List Value → Int →
  Heap → Prop), ∃ (m409 : Nat → List Value → Int → Nat), inv408 rowN rowXs p2 H261 ∧ ∀ (H410 : Heap), Heap.le H261 H410 → ∀ (n412 : Nat) (xs413 : List Value) (n414 : Int), inv408 n412 xs413
  n414 H410 → (decide (n263 < n414) = true → rng .i64 (n414 - (1 : Int)) ∧ rng .i64 (n414 - (1 : Int)) ∧ ((0 : Int) ≤ n414 - (1 : Int) ∧ n414 - (1 : Int) < (↑n412 : Int) ∧ (∃ (A417 : Option
  Addr), ∃ (n418 : Nat), ∃ (c419 : Nat), ∃ (n420 : Int), ∃ (n421 : Int), ∃ (A422 : Option Addr), ∃ (n423 : Nat), ∃ (c424 : Nat), win xs413 (Int.toNat (n414 - (1 : Int)) * 4) 4 = [.slice A417
  n418 c419, .int .i64 n420, .int .i64 n421, .slice A422 n423 c424] ∧ (0 : Int) ≤ n414 ∧ n414 < (↑n412 : Int) ∧ ∃ (A425 : Option Addr), ∃ (n426 : Nat), ∃ (c427 : Nat), ∃ (n428 : Int), ∃ (n429
  : Int), ∃ (A430 : Option Addr), ∃ (n431 : Nat), ∃ (c432 : Nat), win xs413 (Int.toNat n414 * 4) 4 = [.slice A425 n426 c427, .int .i64 n428, .int .i64 n429, .slice A430 n431 c432] ∧ (0 : Int)
  ≤ n414 ∧ n414 < (↑n412 : Int) ∧ Int.toNat n414 * 4 + 4 ≤ List.length xs413 ∧ (0 : Int) ≤ n414 - (1 : Int) ∧ n414 - (1 : Int) < (↑n412 : Int) ∧ Int.toNat (n414 - (1 : Int)) * 4 + 4 ≤
  List.length (splice xs413 (Int.toNat n414 * 4) [.slice A417 n418 c419, .int .i64 n420, .int .i64 n421, .slice A422 n423 c424]) ∧ rng .i64 (n414 - (1 : Int)) ∧ inv408 n412 (splice (splice
  xs413 (Int.toNat n414 * 4) [.slice A417 n418 c419, .int .i64 n420, .int .i64 n421, .slice A422 n423 c424]) (Int.toNat (n414 - (1 : Int)) * 4) [.slice A425 n426 c427, .int .i64 n428, .int
  .i64 n429, .slice A430 n431 c432]) (n414 - (1 : Int)) H410 ∧ m409 n412 (splice (splice xs413 (Int.toNat n414 * 4) [.slice A417 n418 c419, .int .i64 n420, .int .i64 n421, .slice A422 n423
  c424]) (Int.toNat (n414 - (1 : Int)) * 4) [.slice A425 n426 c427, .int .i64 n428, .int .i64 n429, .slice A430 n431 c432]) (n414 - (1 : Int)) < m409 n412 xs413 n414) ∧ (0 : Int) ≤ n414 ∧
  n414 < (↑n412 : Int) ∧ (∃ (A433 : Option Addr), ∃ (n434 : Nat), ∃ (c435 : Nat), ∃ (n436 : Int), ∃ (n437 : Int), ∃ (A438 : Option Addr), ∃ (n439 : Nat), ∃ (c440 : Nat), win xs413 (Int.toNat
  (n414 - (1 : Int)) * 4) 4 = [.slice A433 n434 c435, .int .i64 n436, .int .i64 n437, .slice A438 n439 c440] ∧ ∃ (A441 : Option Addr), ∃ (n442 : Nat), ∃ (c443 : Nat), ∃ (n444 : Int), ∃ (n445
  : Int), ∃ (A446 : Option Addr), ∃ (n447 : Nat), ∃ (c448 : Nat), win xs413 (Int.toNat n414 * 4) 4 = [.slice A441 n442 c443, .int .i64 n444, .int .i64 n445, .slice A446 n447 c448] ∧ (0 : Int)
  ≤ n414 ∧ n414 < (↑n412 : Int) ∧ Int.toNat n414 * 4 + 4 ≤ List.length xs413 ∧ (0 : Int) ≤ n414 - (1 : Int) ∧ n414 - (1 : Int) < (↑n412 : Int) ∧ Int.toNat (n414 - (1 : Int)) * 4 + 4 ≤
  List.length (splice xs413 (Int.toNat n414 * 4) [.slice A433 n434 c435, .int .i64 n436, .int .i64 n437, .slice A438 n439 c440]) ∧ rng .i64 (n414 - (1 : Int)) ∧ inv408 n412 (splice (splice
  xs413 (Int.toNat n414 * 4) [.slice A433 n434 c435, .int .i64 n436, .int .i64 n437, .slice A438 n439 c440]) (Int.toNat (n414 - (1 : Int)) * 4) [.slice A441 n442 c443, .int .i64 n444, .int
  .i64 n445, .slice A446 n447 c448]) (n414 - (1 : Int)) H410 ∧ m409 n412 (splice (splice xs413 (Int.toNat n414 * 4) [.slice A433 n434 c435, .int .i64 n436, .int .i64 n437, .slice A438 n439
  c440]) (Int.toNat (n414 - (1 : Int)) * 4) [.slice A441 n442 c443, .int .i64 n444, .int .i64 n445, .slice A446 n447 c448]) (n414 - (1 : Int)) < m409 n412 xs413 n414) ∧ ∃ (A449 : Option
  Addr), ∃ (n450 : Nat), ∃ (c451 : Nat), ∃ (n452 : Int), ∃ (n453 : Int), ∃ (A454 : Option Addr), ∃ (n455 : Nat), ∃ (c456 : Nat), win xs413 (Int.toNat n414 * 4) 4 = [.slice A449 n450 c451,
  .int .i64 n452, .int .i64 n453, .slice A454 n455 c456] ∧ ∃ (A457 : Option Addr), ∃ (n458 : Nat), ∃ (c459 : Nat), ∃ (n460 : Int), ∃ (n461 : Int), ∃ (A462 : Option Addr), ∃ (n463 : Nat), ∃
  (c464 : Nat), win xs413 (Int.toNat (n414 - (1 : Int)) * 4) 4 = [.slice A457 n458 c459, .int .i64 n460, .int .i64 n461, .slice A462 n463 c464] ∧ (0 : Int) ≤ n414 ∧ n414 < (↑n412 : Int) ∧
  Int.toNat n414 * 4 + 4 ≤ List.length xs413 ∧ (0 : Int) ≤ n414 - (1 : Int) ∧ n414 - (1 : Int) < (↑n412 : Int) ∧ Int.toNat (n414 - (1 : Int)) * 4 + 4 ≤ List.length (splice xs413 (Int.toNat
  n414 * 4) [.slice A457 n458 c459, .int .i64 n460, .int .i64 n461, .slice A462 n463 c464]) ∧ rng .i64 (n414 - (1 : Int)) ∧ inv408 n412 (splice (splice xs413 (Int.toNat n414 * 4) [.slice A457
  n458 c459, .int .i64 n460, .int .i64 n461, .slice A462 n463 c464]) (Int.toNat (n414 - (1 : Int)) * 4) [.slice A449 n450 c451, .int .i64 n452, .int .i64 n453, .slice A454 n455 c456]) (n414 -
  (1 : Int)) H410 ∧ m409 n412 (splice (splice xs413 (Int.toNat n414 * 4) [.slice A457 n458 c459, .int .i64 n460, .int .i64 n461, .slice A462 n463 c464]) (Int.toNat (n414 - (1 : Int)) * 4)
  [.slice A449 n450 c451, .int .i64 n452, .int .i64 n453, .slice A454 n455 c456]) (n414 - (1 : Int)) < m409 n412 xs413 n414) ∧ (0 : Int) ≤ n414 ∧ n414 < (↑n412 : Int) ∧ ((0 : Int) ≤ n414 - (1
  : Int) ∧ n414 - (1 : Int) < (↑n412 : Int) ∧ (∃ (A465 : Option Addr), ∃ (n466 : Nat), ∃ (c467 : Nat), ∃ (n468 : Int), ∃ (n469 : Int), ∃ (A470 : Option Addr), ∃ (n471 : Nat), ∃ (c472 : Nat),
  win xs413 (Int.toNat (n414 - (1 : Int)) * 4) 4 = [.slice A465 n466 c467, .int .i64 n468, .int .i64 n469, .slice A470 n471 c472] ∧ ∃ (A473 : Option Addr), ∃ (n474 : Nat), ∃ (c475 : Nat), ∃
  (n476 : Int), ∃ (n477 : Int), ∃ (A478 : Option Addr), ∃ (n479 : Nat), ∃ (c480 : Nat), win xs413 (Int.toNat n414 * 4) 4 = [.slice A473 n474 c475, .int .i64 n476, .int .i64 n477, .slice A478
  n479 c480] ∧ (0 : Int) ≤ n414 ∧ n414 < (↑n412 : Int) ∧ Int.toNat n414 * 4 + 4 ≤ List.length xs413 ∧ (0 : Int) ≤ n414 - (1 : Int) ∧ n414 - (1 : Int) < (↑n412 : Int) ∧ Int.toNat (n414 - (1 :
  Int)) * 4 + 4 ≤ List.length (splice xs413 (Int.toNat n414 * 4) [.slice A465 n466 c467, .int .i64 n468, .int .i64 n469, .slice A470 n471 c472]) ∧ rng .i64 (n414 - (1 : Int)) ∧ inv408 n412
  (splice (splice xs413 (Int.toNat n414 * 4) [.slice A465 n466 c467, .int .i64 n468, .int .i64 n469, .slice A470 n471 c472]) (Int.toNat (n414 - (1 : Int)) * 4) [.slice A473 n474 c475, .int
  .i64 n476, .int .i64 n477, .slice A478 n479 c480]) (n414 - (1 : Int)) H410 ∧ m409 n412 (splice (splice xs413 (Int.toNat n414 * 4) [.slice A465 n466 c467, .int .i64 n468, .int .i64 n469,
  .slice A470 n471 c472]) (Int.toNat (n414 - (1 : Int)) * 4) [.slice A473 n474 c475, .int .i64 n476, .int .i64 n477, .slice A478 n479 c480]) (n414 - (1 : Int)) < m409 n412 xs413 n414) ∧ ∃
  (A481 : Option Addr), ∃ (n482 : Nat), ∃ (c483 : Nat), ∃ (n484 : Int), ∃ (n485 : Int), ∃ (A486 : Option Addr), ∃ (n487 : Nat), ∃ (c488 : Nat), win xs413 (Int.toNat n414 * 4) 4 = [.slice A481
  n482 c483, .int .i64 n484, .int .i64 n485, .slice A486 n487 c488] ∧ ∃ (A489 : Option Addr), ∃ (n490 : Nat), ∃ (c491 : Nat), ∃ (n492 : Int), ∃ (n493 : Int), ∃ (A494 : Option Addr), ∃ (n495 :
  Nat), ∃ (c496 : Nat), win xs413 (Int.toNat (n414 - (1 : Int)) * 4) 4 = [.slice A489 n490 c491, .int .i64 n492, .int .i64 n493, .slice A494 n495 c496] ∧ (0 : Int) ≤ n414 ∧ n414 < (↑n412 :
  Int) ∧ Int.toNat n414 * 4 + 4 ≤ List.length xs413 ∧ (0 : Int) ≤ n414 - (1 : Int) ∧ n414 - (1 : Int) < (↑n412 : Int) ∧ Int.toNat (n414 - (1 : Int)) * 4 + 4 ≤ List.length (splice xs413
  (Int.toNat n414 * 4) [.slice A489 n490 c491, .int .i64 n492, .int .i64 n493, .slice A494 n495 c496]) ∧ rng .i64 (n414 - (1 : Int)) ∧ inv408 n412 (splice (splice xs413 (Int.toNat n414 * 4)
  [.slice A489 n490 c491, .int .i64 n492, .int .i64 n493, .slice A494 n495 c496]) (Int.toNat (n414 - (1 : Int)) * 4) [.slice A481 n482 c483, .int .i64 n484, .int .i64 n485, .slice A486 n487
  c488]) (n414 - (1 : Int)) H410 ∧ m409 n412 (splice (splice xs413 (Int.toNat n414 * 4) [.slice A489 n490 c491, .int .i64 n492, .int .i64 n493, .slice A494 n495 c496]) (Int.toNat (n414 - (1 :
  Int)) * 4) [.slice A481 n482 c483, .int .i64 n484, .int .i64 n485, .slice A486 n487 c488]) (n414 - (1 : Int)) < m409 n412 xs413 n414) ∧ ∃ (A497 : Option Addr), ∃ (n498 : Nat), ∃ (c499 :
  Nat), ∃ (n500 : Int), ∃ (n501 : Int), ∃ (A502 : Option Addr), ∃ (n503 : Nat), ∃ (c504 : Nat), win xs413 (Int.toNat n414 * 4) 4 = [.slice A497 n498 c499, .int .i64 n500, .int .i64 n501,
  .slice A502 n503 c504] ∧ (0 : Int) ≤ n414 - (1 : Int) ∧ n414 - (1 : Int) < (↑n412 : Int) ∧ ∃ (A505 : Option Addr), ∃ (n506 : Nat), ∃ (c507 : Nat), ∃ (n508 : Int), ∃ (n509 : Int), ∃ (A510 :
  Option Addr), ∃ (n511 : Nat), ∃ (c512 : Nat), win xs413 (Int.toNat (n414 - (1 : Int)) * 4) 4 = [.slice A505 n506 c507, .int .i64 n508, .int .i64 n509, .slice A510 n511 c512] ∧ (0 : Int) ≤
  n414 ∧ n414 < (↑n412 : Int) ∧ Int.toNat n414 * 4 + 4 ≤ List.length xs413 ∧ (0 : Int) ≤ n414 - (1 : Int) ∧ n414 - (1 : Int) < (↑n412 : Int) ∧ Int.toNat (n414 - (1 : Int)) * 4 + 4 ≤
  List.length (splice xs413 (Int.toNat n414 * 4) [.slice A505 n506 c507, .int .i64 n508, .int .i64 n509, .slice A510 n511 c512]) ∧ rng .i64 (n414 - (1 : Int)) ∧ inv408 n412 (splice (splice
  xs413 (Int.toNat n414 * 4) [.slice A505 n506 c507, .int .i64 n508, .int .i64 n509, .slice A510 n511 c512]) (Int.toNat (n414 - (1 : Int)) * 4) [.slice A497 n498 c499, .int .i64 n500, .int
  .i64 n501, .slice A502 n503 c504]) (n414 - (1 : Int)) H410 ∧ m409 n412 (splice (splice xs413 (Int.toNat n414 * 4) [.slice A505 n506 c507, .int .i64 n508, .int .i64 n509, .slice A510 n511
  c512]) (Int.toNat (n414 - (1 : Int)) * 4) [.slice A497 n498 c499, .int .i64 n500, .int .i64 n501, .slice A502 n503 c504]) (n414 - (1 : Int)) < m409 n412 xs413 n414) ∧ (decide (n263 < n414)
  = false → s0 = s0 ∧ n412 = rowN ∧ post xs413 H410))) ∧ (decide (p3 - p2 = (1 : Int)) = false → rng .i64 (p1 + p3) ∧ ∃ (e515 : Int), IntKind.wrap IntKind.u64 (p1 + p3) = e515 ∧ (1 : Int) =
  (1 : Int) ∧ ∃ (e516 : Int), IntKind.wrap IntKind.i64 (Int.fdiv e515 (2 : Int)) = e516 ∧ rng .i64 (e516 + p2) ∧ (decide (e516 < p2) = true → rng .i64 (e516 + p2 - p3) ∧ rng .i64 (e516 + p2 -
  (1 : Int)) ∧ ∃ (inv518 : Int → Int → Heap → Prop), ∃ (m519 : Int → Int → Nat), inv518 (e516 + p2 - p3) e516 H ∧ ∀ (H520 : Heap), Heap.le H H520 → ∀ (n522 n523 : Int), inv518 n522 n523 H520
  → (decide (n522 < n523) = true → rng .i64 (n522 + n523) ∧ ∃ (e526 : Int), IntKind.wrap IntKind.u64 (n522 + n523) = e526 ∧ (1 : Int) = (1 : Int) ∧ ∃ (e527 : Int), IntKind.wrap IntKind.i64
  (Int.fdiv e526 (2 : Int)) = e527 ∧ rng .i64 (e516 + p2 - (1 : Int) - e527) ∧ ((0 : Int) ≤ e516 + p2 - (1 : Int) - e527 ∧ e516 + p2 - (1 : Int) - e527 < (↑rowN : Int) ∧ (∃ (A528 : Option
  Addr), ∃ (n529 : Nat), ∃ (c530 : Nat), ∃ (n531 : Int), ∃ (n532 : Int), ∃ (A533 : Option Addr), ∃ (n534 : Nat), ∃ (c535 : Nat), win rowXs (Int.toNat (e516 + p2 - (1 : Int) - e527) * 4) 4 =
  [.slice A528 n529 c530, .int .i64 n531, .int .i64 n532, .slice A533 n534 c535] ∧ (0 : Int) ≤ e527 ∧ e527 < (↑rowN : Int) ∧ ∃ (A536 : Option Addr), ∃ (n537 : Nat), ∃ (c538 : Nat), ∃ (n539 :
  Int), ∃ (n540 : Int), ∃ (A541 : Option Addr), ∃ (n542 : Nat), ∃ (c543 : Nat), win rowXs (Int.toNat e527 * 4) 4 = [.slice A536 n537 c538, .int .i64 n539, .int .i64 n540, .slice A541 n542
  c543] ∧ ∃ (post544 : Int → Heap → Prop), ConT P p4F [.agg ⟨[.slice A528 n529 c530, .int .i64 n531, .int .i64 n532, .slice A533 n534 c535]⟩, .agg ⟨[.slice A536 n537 c538, .int .i64 n539,
  .int .i64 n540, .slice A541 n542 c543]⟩] H520 ⟨false, [(false, [.int .i64])]⟩ post544 ∧ ∀ (H545 : Heap), Heap.le H520 H545 → ∀ (n547 : Int), post544 n547 H545 → ((!decide (n547 < (0 :
  Int))) = true → rng .i64 (e527 + (1 : Int)) ∧ inv518 (e527 + (1 : Int)) n523 H545 ∧ m519 (e527 + (1 : Int)) n523 < m519 n522 n523) ∧ ((!decide (n547 < (0 : Int))) = false → inv518 n522 e527
  H545 ∧ m519 n522 e527 < m519 n522 n523)) ∧ (0 : Int) ≤ e527 ∧ e527 < (↑rowN : Int) ∧ (∃ (A551 : Option Addr), ∃ (n552 : Nat), ∃ (c553 : Nat), ∃ (n554 : Int), ∃ (n555 : Int), ∃ (A556 :
  Option Addr), ∃ (n557 : Nat), ∃ (c558 : Nat), win rowXs (Int.toNat (e516 + p2 - (1 : Int) - e527) * 4) 4 = [.slice A551 n552 c553, .int .i64 n554, .int .i64 n555, .slice A556 n557 c558] ∧ ∃
  (A559 : Option Addr), ∃ (n560 : Nat), ∃ (c561 : Nat), ∃ (n562 : Int), ∃ (n563 : Int), ∃ (A564 : Option Addr), ∃ (n565 : Nat), ∃ (c566 : Nat), win rowXs (Int.toNat e527 * 4) 4 = [.slice A559
  n560 c561, .int .i64 n562, .int .i64 n563, .slice A564 n565 c566] ∧ ∃ (post567 : Int → Heap → Prop), ConT P p4F [.agg ⟨[.slice A551 n552 c553, .int .i64 n554, .int .i64 n555, .slice A556
  n557 c558]⟩, .agg ⟨[.slice A559 n560 c561, .int .i64 n562, .int .i64 n563, .slice A564 n565 c566]⟩] H520 ⟨false, [(false, [.int .i64])]⟩ post567 ∧ ∀ (H568 : Heap), Heap.le H520 H568 → ∀
  (n570 : Int), post567 n570 H568 → ((!decide (n570 < (0 : Int))) = true → rng .i64 (e527 + (1 : Int)) ∧ inv518 (e527 + (1 : Int)) n523 H568 ∧ m519 (e527 + (1 : Int)) n523 < m519 n522 n523) ∧
  ((!decide (n570 < (0 : Int))) = false → inv518 n522 e527 H568 ∧ m519 n522 e527 < m519 n522 n523)) ∧ ∃ (A574 : Option Addr), ∃ (n575 : Nat), ∃ (c576 : Nat), ∃ (n577 : Int), ∃ (n578 : Int), ∃
  (A579 : Option Addr), ∃ (n580 : Nat), ∃ (c581 : Nat), win rowXs (Int.toNat e527 * 4) 4 = [.slice A574 n575 c576, .int .i64 n577, .int .i64 n578, .slice A579 n580 c581] ∧ ∃ (A582 : Option
  Addr), ∃ (n583 : Nat), ∃ (c584 : Nat), ∃ (n585 : Int), ∃ (n586 : Int), ∃ (A587 : Option Addr), ∃ (n588 : Nat), ∃ (c589 : Nat), win rowXs (Int.toNat (e516 + p2 - (1 : Int) - e527) * 4) 4 =
  [.slice A582 n583 c584, .int .i64 n585, .int .i64 n586, .slice A587 n588 c589] ∧ ∃ (post590 : Int → Heap → Prop), ConT P p4F [.agg ⟨[.slice A582 n583 c584, .int .i64 n585, .int .i64 n586,
  .slice A587 n588 c589]⟩, .agg ⟨[.slice A574 n575 c576, .int .i64 n577, .int .i64 n578, .slice A579 n580 c581]⟩] H520 ⟨false, [(false, [.int .i64])]⟩ post590 ∧ ∀ (H591 : Heap), Heap.le H520
  H591 → ∀ (n593 : Int), post590 n593 H591 → ((!decide (n593 < (0 : Int))) = true → rng .i64 (e527 + (1 : Int)) ∧ inv518 (e527 + (1 : Int)) n523 H591 ∧ m519 (e527 + (1 : Int)) n523 < m519
  n522 n523) ∧ ((!decide (n593 < (0 : Int))) = false → inv518 n522 e527 H591 ∧ m519 n522 e527 < m519 n522 n523)) ∧ (0 : Int) ≤ e527 ∧ e527 < (↑rowN : Int) ∧ ((0 : Int) ≤ e516 + p2 - (1 : Int)
  - e527 ∧ e516 + p2 - (1 : Int) - e527 < (↑rowN : Int) ∧ (∃ (A597 : Option Addr), ∃ (n598 : Nat), ∃ (c599 : Nat), ∃ (n600 : Int), ∃ (n601 : Int), ∃ (A602 : Option Addr), ∃ (n603 : Nat), ∃
  (c604 : Nat), win rowXs (Int.toNat (e516 + p2 - (1 : Int) - e527) * 4) 4 = [.slice A597 n598 c599, .int .i64 n600, .int .i64 n601, .slice A602 n603 c604] ∧ ∃ (A605 : Option Addr), ∃ (n606 :
  Nat), ∃ (c607 : Nat), ∃ (n608 : Int), ∃ (n609 : Int), ∃ (A610 : Option Addr), ∃ (n611 : Nat), ∃ (c612 : Nat), win rowXs (Int.toNat e527 * 4) 4 = [.slice A605 n606 c607, .int .i64 n608, .int
  .i64 n609, .slice A610 n611 c612] ∧ ∃ (post613 : Int → Heap → Prop), ConT P p4F [.agg ⟨[.slice A597 n598 c599, .int .i64 n600, .int .i64 n601, .slice A602 n603 c604]⟩, .agg ⟨[.slice A605
  n606 c607, .int .i64 n608, .int .i64 n609, .slice A610 n611 c612]⟩] H520 ⟨false, [(false, [.int .i64])]⟩ post613 ∧ ∀ (H614 : Heap), Heap.le H520 H614 → ∀ (n616 : Int), post613 n616 H614 →
  ((!decide (n616 < (0 : Int))) = true → rng .i64 (e527 + (1 : Int)) ∧ inv518 (e527 + (1 : Int)) n523 H614 ∧ m519 (e527 + (1 : Int)) n523 < m519 n522 n523) ∧ ((!decide (n616 < (0 : Int))) =
  false → inv518 n522 e527 H614 ∧ m519 n522 e527 < m519 n522 n523)) ∧ ∃ (A620 : Option Addr), ∃ (n621 : Nat), ∃ (c622 : Nat), ∃ (n623 : Int), ∃ (n624 : Int), ∃ (A625 : Option Addr), ∃ (n626 :
  Nat), ∃ (c627 : Nat), win rowXs (Int.toNat e527 * 4) 4 = [.slice A620 n621 c622, .int .i64 n623, .int .i64 n624, .slice A625 n626 c627] ∧ ∃ (A628 : Option Addr), ∃ (n629 : Nat), ∃ (c630 :
  Nat), ∃ (n631 : Int), ∃ (n632 : Int), ∃ (A633 : Option Addr), ∃ (n634 : Nat), ∃ (c635 : Nat), win rowXs (Int.toNat (e516 + p2 - (1 : Int) - e527) * 4) 4 = [.slice A628 n629 c630, .int .i64
  n631, .int .i64 n632, .slice A633 n634 c635] ∧ ∃ (post636 : Int → Heap → Prop), ConT P p4F [.agg ⟨[.slice A628 n629 c630, .int .i64 n631, .int .i64 n632, .slice A633 n634 c635]⟩, .agg
  ⟨[.slice A620 n621 c622, .int .i64 n623, .int .i64 n624, .slice A625 n626 c627]⟩] H520 ⟨false, [(false, [.int .i64])]⟩ post636 ∧ ∀ (H637 : Heap), Heap.le H520 H637 → ∀ (n639 : Int), post636
  n639 H637 → ((!decide (n639 < (0 : Int))) = true → rng .i64 (e527 + (1 : Int)) ∧ inv518 (e527 + (1 : Int)) n523 H637 ∧ m519 (e527 + (1 : Int)) n523 < m519 n522 n523) ∧ ((!decide (n639 < (0
  : Int))) = false → inv518 n522 e527 H637 ∧ m519 n522 e527 < m519 n522 n523)) ∧ ∃ (A643 : Option Addr), ∃ (n644 : Nat), ∃ (c645 : Nat), ∃ (n646 : Int), ∃ (n647 : Int), ∃ (A648 : Option
  Addr), ∃ (n649 : Nat), ∃ (c650 : Nat), win rowXs (Int.toNat e527 * 4) 4 = [.slice A643 n644 c645, .int .i64 n646, .int .i64 n647, .slice A648 n649 c650] ∧ (0 : Int) ≤ e516 + p2 - (1 : Int)
  - e527 ∧ e516 + p2 - (1 : Int) - e527 < (↑rowN : Int) ∧ ∃ (A651 : Option Addr), ∃ (n652 : Nat), ∃ (c653 : Nat), ∃ (n654 : Int), ∃ (n655 : Int), ∃ (A656 : Option Addr), ∃ (n657 : Nat), ∃
  (c658 : Nat), win rowXs (Int.toNat (e516 + p2 - (1 : Int) - e527) * 4) 4 = [.slice A651 n652 c653, .int .i64 n654, .int .i64 n655, .slice A656 n657 c658] ∧ ∃ (post659 : Int → Heap → Prop),
  ConT P p4F [.agg ⟨[.slice A651 n652 c653, .int .i64 n654, .int .i64 n655, .slice A656 n657 c658]⟩, .agg ⟨[.slice A643 n644 c645, .int .i64 n646, .int .i64 n647, .slice A648 n649 c650]⟩]
  H520 ⟨false, [(false, [.int .i64])]⟩ post659 ∧ ∀ (H660 : Heap), Heap.le H520 H660 → ∀ (n662 : Int), post659 n662 H660 → ((!decide (n662 < (0 : Int))) = true → rng .i64 (e527 + (1 : Int)) ∧
  inv518 (e527 + (1 : Int)) n523 H660 ∧ m519 (e527 + (1 : Int)) n523 < m519 n522 n523) ∧ ((!decide (n662 < (0 : Int))) = false → inv518 n522 e527 H660 ∧ m519 n522 e527 < m519 n522 n523)) ∧
  (decide (n522 < n523) = false → rng .i64 (e516 + p2 - n522) ∧ (decide (n522 < p2) = true → (decide (p2 < e516 + p2 - n522) = true → ∃ (post669 : List Value → Heap → Prop), ConM P 181
  [.slice none 0 0, .int .i64 n522, .int .i64 p2, .int .i64 (e516 + p2 - n522), .func (.func p4F) ⟨[]⟩ ⟨[]⟩] 0 57 rowN rowXs true H520 ⟨true, []⟩ post669 ∧ ∀ (H670 : Heap), Heap.le H520 H670
  → ∀ (ys672 : List Value), post669 ys672 H670 → (decide (p1 < n522) = true → (decide (n522 < e516) = true → ∃ (post676 : List Value → Heap → Prop), ConM P 168 [.slice none 0 0, .int .i64 p1,
  .int .i64 n522, .int .i64 e516, .func (.func p4F) ⟨[]⟩ ⟨[]⟩] 0 57 rowN ys672 true H670 ⟨true, []⟩ post676 ∧ ∀ (H677 : Heap), Heap.le H670 H677 → ∀ (ys679 : List Value), post676 ys679 H677 →
  (decide (e516 < e516 + p2 - n522) = true → (decide (e516 + p2 - n522 < p3) = true → ∃ (post683 : List Value → Heap → Prop), ConM P 168 [.slice none 0 0, .int .i64 e516, .int .i64 (e516 + p2
  - n522), .int .i64 p3, .func (.func p4F) ⟨[]⟩ ⟨[]⟩] 0 57 rowN ys679 true H677 ⟨true, []⟩ post683 ∧ ∀ (H684 : Heap), Heap.le H677 H684 → ∀ (ys686 : List Value), post683 ys686 H684 → s0 = s0
  ∧ rowN = rowN ∧ post ys686 H684) ∧ (decide (e516 + p2 - n522 < p3) = false → s0 = s0 ∧ rowN = rowN ∧ post ys679 H677)) ∧ (decide (e516 < e516 + p2 - n522) = false → s0 = s0 ∧ rowN = rowN ∧
  post ys679 H677)) ∧ (decide (n522 < e516) = false → (decide (e516 < e516 + p2 - n522) = true → (decide (e516 + p2 - n522 < p3) = true → ∃ (post693 : List Value → Heap → Prop), ConM P 168
  [.slice none 0 0, .int .i64 e516, .int .i64 (e516 + p2 - n522), .int .i64 p3, .func (.func p4F) ⟨[]⟩ ⟨[]⟩] 0 57 rowN ys672 true H670 ⟨true, []⟩ post693 ∧ ∀ (H694 : Heap), Heap.le H670 H694
  → ∀ (ys696 : List Value), post693 ys696 H694 → s0 = s0 ∧ rowN = rowN ∧ post ys696 H694) ∧ (decide (e516 + p2 - n522 < p3) = false → s0 = s0 ∧ rowN = rowN ∧ post ys672 H670)) ∧ (decide (e516
  < e516 + p2 - n522) = false → s0 = s0 ∧ rowN = rowN ∧ post ys672 H670))) ∧ (decide (p1 < n522) = false → (decide (e516 < e516 + p2 - n522) = true → (decide (e516 + p2 - n522 < p3) = true →
  ∃ (post703 : List Value → Heap → Prop), ConM P 168 [.slice none 0 0, .int .i64 e516, .int .i64 (e516 + p2 - n522), .int .i64 p3, .func (.func p4F) ⟨[]⟩ ⟨[]⟩] 0 57 rowN ys672 true H670
  ⟨true, []⟩ post703 ∧ ∀ (H704 : Heap), Heap.le H670 H704 → ∀ (ys706 : List Value), post703 ys706 H704 → s0 = s0 ∧ rowN = rowN ∧ post ys706 H704) ∧ (decide (e516 + p2 - n522 < p3) = false →
  s0 = s0 ∧ rowN = rowN ∧ post ys672 H670)) ∧ (decide (e516 < e516 + p2 - n522) = false → s0 = s0 ∧ rowN = rowN ∧ post ys672 H670))) ∧ (decide (p2 < e516 + p2 - n522) = false → (decide (p1 <
  n522) = true → (decide (n522 < e516) = true → ∃ (post713 : List Value → Heap → Prop), ConM P 168 [.slice none 0 0, .int .i64 p1, .int .i64 n522, .int .i64 e516, .func (.func p4F) ⟨[]⟩ ⟨[]⟩]
  0 57 rowN rowXs true H520 ⟨true, []⟩ post713 ∧ ∀ (H714 : Heap), Heap.le H520 H714 → ∀ (ys716 : List Value), post713 ys716 H714 → (decide (e516 < e516 + p2 - n522) = true → (decide (e516 +
  p2 - n522 < p3) = true → ∃ (post720 : List Value → Heap → Prop), ConM P 168 [.slice none 0 0, .int .i64 e516, .int .i64 (e516 + p2 - n522), .int .i64 p3, .func (.func p4F) ⟨[]⟩ ⟨[]⟩] 0 57
  rowN ys716 true H714 ⟨true, []⟩ post720 ∧ ∀ (H721 : Heap), Heap.le H714 H721 → ∀ (ys723 : List Value), post720 ys723 H721 → s0 = s0 ∧ rowN = rowN ∧ post ys723 H721) ∧ (decide (e516 + p2 -
  n522 < p3) = false → s0 = s0 ∧ rowN = rowN ∧ post ys716 H714)) ∧ (decide (e516 < e516 + p2 - n522) = false → s0 = s0 ∧ rowN = rowN ∧ post ys716 H714)) ∧ (decide (n522 < e516) = false →
  (decide (e516 < e516 + p2 - n522) = true → (decide (e516 + p2 - n522 < p3) = true → ∃ (post730 : List Value → Heap → Prop), ConM P 168 [.slice none 0 0, .int .i64 e516, .int .i64 (e516 + p2
  - n522), .int .i64 p3, .func (.func p4F) ⟨[]⟩ ⟨[]⟩] 0 57 rowN rowXs true H520 ⟨true, []⟩ post730 ∧ ∀ (H731 : Heap), Heap.le H520 H731 → ∀ (ys733 : List Value), post730 ys733 H731 → s0 = s0
  ∧ rowN = rowN ∧ post ys733 H731) ∧ (decide (e516 + p2 - n522 < p3) = false → s0 = s0 ∧ rowN = rowN ∧ post rowXs H520)) ∧ (decide (e516 < e516 + p2 - n522) = false → s0 = s0 ∧ rowN = rowN ∧
  post rowXs H520))) ∧ (decide (p1 < n522) = false → (decide (e516 < e516 + p2 - n522) = true → (decide (e516 + p2 - n522 < p3) = true → ∃ (post740 : List Value → Heap → Prop), ConM P 168
  [.slice none 0 0, .int .i64 e516, .int .i64 (e516 + p2 - n522), .int .i64 p3, .func (.func p4F) ⟨[]⟩ ⟨[]⟩] 0 57 rowN rowXs true H520 ⟨true, []⟩ post740 ∧ ∀ (H741 : Heap), Heap.le H520 H741
  → ∀ (ys743 : List Value), post740 ys743 H741 → s0 = s0 ∧ rowN = rowN ∧ post ys743 H741) ∧ (decide (e516 + p2 - n522 < p3) = false → s0 = s0 ∧ rowN = rowN ∧ post rowXs H520)) ∧ (decide (e516
  < e516 + p2 - n522) = false → s0 = s0 ∧ rowN = rowN ∧ post rowXs H520)))) ∧ (decide (n522 < p2) = false → (decide (p1 < n522) = true → (decide (n522 < e516) = true → ∃ (post750 : List Value
  → Heap → Prop), ConM P 168 [.slice none 0 0, .int .i64 p1, .int .i64 n522, .int .i64 e516, .func (.func p4F) ⟨[]⟩ ⟨[]⟩] 0 57 rowN rowXs true H520 ⟨true, []⟩ post750 ∧ ∀ (H751 : Heap),
  Heap.le H520 H751 → ∀ (ys753 : List Value), post750 ys753 H751 → (decide (e516 < e516 + p2 - n522) = true → (decide (e516 + p2 - n522 < p3) = true → ∃ (post757 : List Value → Heap → Prop),
  ConM P 168 [.slice none 0 0, .int .i64 e516, .int .i64 (e516 + p2 - n522), .int .i64 p3, .func (.func p4F) ⟨[]⟩ ⟨[]⟩] 0 57 rowN ys753 true H751 ⟨true, []⟩ post757 ∧ ∀ (H758 : Heap), Heap.le
  H751 H758 → ∀ (ys760 : List Value), post757 ys760 H758 → s0 = s0 ∧ rowN = rowN ∧ post ys760 H758) ∧ (decide (e516 + p2 - n522 < p3) = false → s0 = s0 ∧ rowN = rowN ∧ post ys753 H751)) ∧
  (decide (e516 < e516 + p2 - n522) = false → s0 = s0 ∧ rowN = rowN ∧ post ys753 H751)) ∧ (decide (n522 < e516) = false → (decide (e516 < e516 + p2 - n522) = true → (decide (e516 + p2 - n522
  < p3) = true → ∃ (post767 : List Value → Heap → Prop), ConM P 168 [.slice none 0 0, .int .i64 e516, .int .i64 (e516 + p2 - n522), .int .i64 p3, .func (.func p4F) ⟨[]⟩ ⟨[]⟩] 0 57 rowN rowXs
  true H520 ⟨true, []⟩ post767 ∧ ∀ (H768 : Heap), Heap.le H520 H768 → ∀ (ys770 : List Value), post767 ys770 H768 → s0 = s0 ∧ rowN = rowN ∧ post ys770 H768) ∧ (decide (e516 + p2 - n522 < p3) =
  false → s0 = s0 ∧ rowN = rowN ∧ post rowXs H520)) ∧ (decide (e516 < e516 + p2 - n522) = false → s0 = s0 ∧ rowN = rowN ∧ post rowXs H520))) ∧ (decide (p1 < n522) = false → (decide (e516 <
  e516 + p2 - n522) = true → (decide (e516 + p2 - n522 < p3) = true → ∃ (post777 : List Value → Heap → Prop), ConM P 168 [.slice none 0 0, .int .i64 e516, .int .i64 (e516 + p2 - n522), .int
  .i64 p3, .func (.func p4F) ⟨[]⟩ ⟨[]⟩] 0 57 rowN rowXs true H520 ⟨true, []⟩ post777 ∧ ∀ (H778 : Heap), Heap.le H520 H778 → ∀ (ys780 : List Value), post777 ys780 H778 → s0 = s0 ∧ rowN = rowN
  ∧ post ys780 H778) ∧ (decide (e516 + p2 - n522 < p3) = false → s0 = s0 ∧ rowN = rowN ∧ post rowXs H520)) ∧ (decide (e516 < e516 + p2 - n522) = false → s0 = s0 ∧ rowN = rowN ∧ post rowXs
  H520))))) ∧ (decide (e516 < p2) = false → rng .i64 (e516 + p2 - (1 : Int)) ∧ ∃ (inv785 : Int → Int → Heap → Prop), ∃ (m786 : Int → Int → Nat), inv785 p1 p2 H ∧ ∀ (H787 : Heap), Heap.le H
  H787 → ∀ (n789 n790 : Int), inv785 n789 n790 H787 → (decide (n789 < n790) = true → rng .i64 (n789 + n790) ∧ ∃ (e793 : Int), IntKind.wrap IntKind.u64 (n789 + n790) = e793 ∧ (1 : Int) = (1 :
  Int) ∧ ∃ (e794 : Int), IntKind.wrap IntKind.i64 (Int.fdiv e793 (2 : Int)) = e794 ∧ rng .i64 (e516 + p2 - (1 : Int) - e794) ∧ ((0 : Int) ≤ e516 + p2 - (1 : Int) - e794 ∧ e516 + p2 - (1 :
  Int) - e794 < (↑rowN : Int) ∧ (∃ (A795 : Option Addr), ∃ (n796 : Nat), ∃ (c797 : Nat), ∃ (n798 : Int), ∃ (n799 : Int), ∃ (A800 : Option Addr), ∃ (n801 : Nat), ∃ (c802 : Nat), win rowXs
  (Int.toNat (e516 + p2 - (1 : Int) - e794) * 4) 4 = [.slice A795 n796 c797, .int .i64 n798, .int .i64 n799, .slice A800 n801 c802] ∧ (0 : Int) ≤ e794 ∧ e794 < (↑rowN : Int) ∧ ∃ (A803 :
  Option Addr), ∃ (n804 : Nat), ∃ (c805 : Nat), ∃ (n806 : Int), ∃ (n807 : Int), ∃ (A808 : Option Addr), ∃ (n809 : Nat), ∃ (c810 : Nat), win rowXs (Int.toNat e794 * 4) 4 = [.slice A803 n804
  c805, .int .i64 n806, .int .i64 n807, .slice A808 n809 c810] ∧ ∃ (post811 : Int → Heap → Prop), ConT P p4F [.agg ⟨[.slice A795 n796 c797, .int .i64 n798, .int .i64 n799, .slice A800 n801
  c802]⟩, .agg ⟨[.slice A803 n804 c805, .int .i64 n806, .int .i64 n807, .slice A808 n809 c810]⟩] H787 ⟨false, [(false, [.int .i64])]⟩ post811 ∧ ∀ (H812 : Heap), Heap.le H787 H812 → ∀ (n814 :
  Int), post811 n814 H812 → ((!decide (n814 < (0 : Int))) = true → rng .i64 (e794 + (1 : Int)) ∧ inv785 (e794 + (1 : Int)) n790 H812 ∧ m786 (e794 + (1 : Int)) n790 < m786 n789 n790) ∧
  ((!decide (n814 < (0 : Int))) = false → inv785 n789 e794 H812 ∧ m786 n789 e794 < m786 n789 n790)) ∧ (0 : Int) ≤ e794 ∧ e794 < (↑rowN : Int) ∧ (∃ (A818 : Option Addr), ∃ (n819 : Nat), ∃
  (c820 : Nat), ∃ (n821 : Int), ∃ (n822 : Int), ∃ (A823 : Option Addr), ∃ (n824 : Nat), ∃ (c825 : Nat), win rowXs (Int.toNat (e516 + p2 - (1 : Int) - e794) * 4) 4 = [.slice A818 n819 c820,
  .int .i64 n821, .int .i64 n822, .slice A823 n824 c825] ∧ ∃ (A826 : Option Addr), ∃ (n827 : Nat), ∃ (c828 : Nat), ∃ (n829 : Int), ∃ (n830 : Int), ∃ (A831 : Option Addr), ∃ (n832 : Nat), ∃
  (c833 : Nat), win rowXs (Int.toNat e794 * 4) 4 = [.slice A826 n827 c828, .int .i64 n829, .int .i64 n830, .slice A831 n832 c833] ∧ ∃ (post834 : Int → Heap → Prop), ConT P p4F [.agg ⟨[.slice
  A818 n819 c820, .int .i64 n821, .int .i64 n822, .slice A823 n824 c825]⟩, .agg ⟨[.slice A826 n827 c828, .int .i64 n829, .int .i64 n830, .slice A831 n832 c833]⟩] H787 ⟨false, [(false, [.int
  .i64])]⟩ post834 ∧ ∀ (H835 : Heap), Heap.le H787 H835 → ∀ (n837 : Int), post834 n837 H835 → ((!decide (n837 < (0 : Int))) = true → rng .i64 (e794 + (1 : Int)) ∧ inv785 (e794 + (1 : Int))
  n790 H835 ∧ m786 (e794 + (1 : Int)) n790 < m786 n789 n790) ∧ ((!decide (n837 < (0 : Int))) = false → inv785 n789 e794 H835 ∧ m786 n789 e794 < m786 n789 n790)) ∧ ∃ (A841 : Option Addr), ∃
  (n842 : Nat), ∃ (c843 : Nat), ∃ (n844 : Int), ∃ (n845 : Int), ∃ (A846 : Option Addr), ∃ (n847 : Nat), ∃ (c848 : Nat), win rowXs (Int.toNat e794 * 4) 4 = [.slice A841 n842 c843, .int .i64
  n844, .int .i64 n845, .slice A846 n847 c848] ∧ ∃ (A849 : Option Addr), ∃ (n850 : Nat), ∃ (c851 : Nat), ∃ (n852 : Int), ∃ (n853 : Int), ∃ (A854 : Option Addr), ∃ (n855 : Nat), ∃ (c856 :
  Nat), win rowXs (Int.toNat (e516 + p2 - (1 : Int) - e794) * 4) 4 = [.slice A849 n850 c851, .int .i64 n852, .int .i64 n853, .slice A854 n855 c856] ∧ ∃ (post857 : Int → Heap → Prop), ConT P
  p4F [.agg ⟨[.slice A849 n850 c851, .int .i64 n852, .int .i64 n853, .slice A854 n855 c856]⟩, .agg ⟨[.slice A841 n842 c843, .int .i64 n844, .int .i64 n845, .slice A846 n847 c848]⟩] H787
  ⟨false, [(false, [.int .i64])]⟩ post857 ∧ ∀ (H858 : Heap), Heap.le H787 H858 → ∀ (n860 : Int), post857 n860 H858 → ((!decide (n860 < (0 : Int))) = true → rng .i64 (e794 + (1 : Int)) ∧
  inv785 (e794 + (1 : Int)) n790 H858 ∧ m786 (e794 + (1 : Int)) n790 < m786 n789 n790) ∧ ((!decide (n860 < (0 : Int))) = false → inv785 n789 e794 H858 ∧ m786 n789 e794 < m786 n789 n790)) ∧ (0
  : Int) ≤ e794 ∧ e794 < (↑rowN : Int) ∧ ((0 : Int) ≤ e516 + p2 - (1 : Int) - e794 ∧ e516 + p2 - (1 : Int) - e794 < (↑rowN : Int) ∧ (∃ (A864 : Option Addr), ∃ (n865 : Nat), ∃ (c866 : Nat), ∃
  (n867 : Int), ∃ (n868 : Int), ∃ (A869 : Option Addr), ∃ (n870 : Nat), ∃ (c871 : Nat), win rowXs (Int.toNat (e516 + p2 - (1 : Int) - e794) * 4) 4 = [.slice A864 n865 c866, .int .i64 n867,
  .int .i64 n868, .slice A869 n870 c871] ∧ ∃ (A872 : Option Addr), ∃ (n873 : Nat), ∃ (c874 : Nat), ∃ (n875 : Int), ∃ (n876 : Int), ∃ (A877 : Option Addr), ∃ (n878 : Nat), ∃ (c879 : Nat), win
  rowXs (Int.toNat e794 * 4) 4 = [.slice A872 n873 c874, .int .i64 n875, .int .i64 n876, .slice A877 n878 c879] ∧ ∃ (post880 : Int → Heap → Prop), ConT P p4F [.agg ⟨[.slice A864 n865 c866,
  .int .i64 n867, .int .i64 n868, .slice A869 n870 c871]⟩, .agg ⟨[.slice A872 n873 c874, .int .i64 n875, .int .i64 n876, .slice A877 n878 c879]⟩] H787 ⟨false, [(false, [.int .i64])]⟩ post880
  ∧ ∀ (H881 : Heap), Heap.le H787 H881 → ∀ (n883 : Int), post880 n883 H881 → ((!decide (n883 < (0 : Int))) = true → rng .i64 (e794 + (1 : Int)) ∧ inv785 (e794 + (1 : Int)) n790 H881 ∧ m786
  (e794 + (1 : Int)) n790 < m786 n789 n790) ∧ ((!decide (n883 < (0 : Int))) = false → inv785 n789 e794 H881 ∧ m786 n789 e794 < m786 n789 n790)) ∧ ∃ (A887 : Option Addr), ∃ (n888 : Nat), ∃
  (c889 : Nat), ∃ (n890 : Int), ∃ (n891 : Int), ∃ (A892 : Option Addr), ∃ (n893 : Nat), ∃ (c894 : Nat), win rowXs (Int.toNat e794 * 4) 4 = [.slice A887 n888 c889, .int .i64 n890, .int .i64
  n891, .slice A892 n893 c894] ∧ ∃ (A895 : Option Addr), ∃ (n896 : Nat), ∃ (c897 : Nat), ∃ (n898 : Int), ∃ (n899 : Int), ∃ (A900 : Option Addr), ∃ (n901 : Nat), ∃ (c902 : Nat), win rowXs
  (Int.toNat (e516 + p2 - (1 : Int) - e794) * 4) 4 = [.slice A895 n896 c897, .int .i64 n898, .int .i64 n899, .slice A900 n901 c902] ∧ ∃ (post903 : Int → Heap → Prop), ConT P p4F [.agg
  ⟨[.slice A895 n896 c897, .int .i64 n898, .int .i64 n899, .slice A900 n901 c902]⟩, .agg ⟨[.slice A887 n888 c889, .int .i64 n890, .int .i64 n891, .slice A892 n893 c894]⟩] H787 ⟨false,
  [(false, [.int .i64])]⟩ post903 ∧ ∀ (H904 : Heap), Heap.le H787 H904 → ∀ (n906 : Int), post903 n906 H904 → ((!decide (n906 < (0 : Int))) = true → rng .i64 (e794 + (1 : Int)) ∧ inv785 (e794
  + (1 : Int)) n790 H904 ∧ m786 (e794 + (1 : Int)) n790 < m786 n789 n790) ∧ ((!decide (n906 < (0 : Int))) = false → inv785 n789 e794 H904 ∧ m786 n789 e794 < m786 n789 n790)) ∧ ∃ (A910 :
  Option Addr), ∃ (n911 : Nat), ∃ (c912 : Nat), ∃ (n913 : Int), ∃ (n914 : Int), ∃ (A915 : Option Addr), ∃ (n916 : Nat), ∃ (c917 : Nat), win rowXs (Int.toNat e794 * 4) 4 = [.slice A910 n911
  c912, .int .i64 n913, .int .i64 n914, .slice A915 n916 c917] ∧ (0 : Int) ≤ e516 + p2 - (1 : Int) - e794 ∧ e516 + p2 - (1 : Int) - e794 < (↑rowN : Int) ∧ ∃ (A918 : Option Addr), ∃ (n919 :
  Nat), ∃ (c920 : Nat), ∃ (n921 : Int), ∃ (n922 : Int), ∃ (A923 : Option Addr), ∃ (n924 : Nat), ∃ (c925 : Nat), win rowXs (Int.toNat (e516 + p2 - (1 : Int) - e794) * 4) 4 = [.slice A918 n919
  c920, .int .i64 n921, .int .i64 n922, .slice A923 n924 c925] ∧ ∃ (post926 : Int → Heap → Prop), ConT P p4F [.agg ⟨[.slice A918 n919 c920, .int .i64 n921, .int .i64 n922, .slice A923 n924
  c925]⟩, .agg ⟨[.slice A910 n911 c912, .int .i64 n913, .int .i64 n914, .slice A915 n916 c917]⟩] H787 ⟨false, [(false, [.int .i64])]⟩ post926 ∧ ∀ (H927 : Heap), Heap.le H787 H927 → ∀ (n929 :
  Int), post926 n929 H927 → ((!decide (n929 < (0 : Int))) = true → rng .i64 (e794 + (1 : Int)) ∧ inv785 (e794 + (1 : Int)) n790 H927 ∧ m786 (e794 + (1 : Int)) n790 < m786 n789 n790) ∧
  ((!decide (n929 < (0 : Int))) = false → inv785 n789 e794 H927 ∧ m786 n789 e794 < m786 n789 n790)) ∧ (decide (n789 < n790) = false → rng .i64 (e516 + p2 - n789) ∧ (decide (n789 < p2) = true
  → (decide (p2 < e516 + p2 - n789) = true → ∃ (post936 : List Value → Heap → Prop), ConM P 181 [.slice none 0 0, .int .i64 n789, .int .i64 p2, .int .i64 (e516 + p2 - n789), .func (.func p4F)
  ⟨[]⟩ ⟨[]⟩] 0 57 rowN rowXs true H787 ⟨true, []⟩ post936 ∧ ∀ (H937 : Heap), Heap.le H787 H937 → ∀ (ys939 : List Value), post936 ys939 H937 → (decide (p1 < n789) = true → (decide (n789 <
  e516) = true → ∃ (post943 : List Value → Heap → Prop), ConM P 168 [.slice none 0 0, .int .i64 p1, .int .i64 n789, .int .i64 e516, .func (.func p4F) ⟨[]⟩ ⟨[]⟩] 0 57 rowN ys939 true H937
  ⟨true, []⟩ post943 ∧ ∀ (H944 : Heap), Heap.le H937 H944 → ∀ (ys946 : List Value), post943 ys946 H944 → (decide (e516 < e516 + p2 - n789) = true → (decide (e516 + p2 - n789 < p3) = true → ∃
  (post950 : List Value → Heap → Prop), ConM P 168 [.slice none 0 0, .int .i64 e516, .int .i64 (e516 + p2 - n789), .int .i64 p3, .func (.func p4F) ⟨[]⟩ ⟨[]⟩] 0 57 rowN ys946 true H944 ⟨true,
  []⟩ post950 ∧ ∀ (H951 : Heap), Heap.le H944 H951 → ∀ (ys953 : List Value), post950 ys953 H951 → s0 = s0 ∧ rowN = rowN ∧ post ys953 H951) ∧ (decide (e516 + p2 - n789 < p3) = false → s0 = s0
  ∧ rowN = rowN ∧ post ys946 H944)) ∧ (decide (e516 < e516 + p2 - n789) = false → s0 = s0 ∧ rowN = rowN ∧ post ys946 H944)) ∧ (decide (n789 < e516) = false → (decide (e516 < e516 + p2 - n789)
  = true → (decide (e516 + p2 - n789 < p3) = true → ∃ (post960 : List Value → Heap → Prop), ConM P 168 [.slice none 0 0, .int .i64 e516, .int .i64 (e516 + p2 - n789), .int .i64 p3, .func
  (.func p4F) ⟨[]⟩ ⟨[]⟩] 0 57 rowN ys939 true H937 ⟨true, []⟩ post960 ∧ ∀ (H961 : Heap), Heap.le H937 H961 → ∀ (ys963 : List Value), post960 ys963 H961 → s0 = s0 ∧ rowN = rowN ∧ post ys963
  H961) ∧ (decide (e516 + p2 - n789 < p3) = false → s0 = s0 ∧ rowN = rowN ∧ post ys939 H937)) ∧ (decide (e516 < e516 + p2 - n789) = false → s0 = s0 ∧ rowN = rowN ∧ post ys939 H937))) ∧
  (decide (p1 < n789) = false → (decide (e516 < e516 + p2 - n789) = true → (decide (e516 + p2 - n789 < p3) = true → ∃ (post970 : List Value → Heap → Prop), ConM P 168 [.slice none 0 0, .int
  .i64 e516, .int .i64 (e516 + p2 - n789), .int .i64 p3, .func (.func p4F) ⟨[]⟩ ⟨[]⟩] 0 57 rowN ys939 true H937 ⟨true, []⟩ post970 ∧ ∀ (H971 : Heap), Heap.le H937 H971 → ∀ (ys973 : List
  Value), post970 ys973 H971 → s0 = s0 ∧ rowN = rowN ∧ post ys973 H971) ∧ (decide (e516 + p2 - n789 < p3) = false → s0 = s0 ∧ rowN = rowN ∧ post ys939 H937)) ∧ (decide (e516 < e516 + p2 -
  n789) = false → s0 = s0 ∧ rowN = rowN ∧ post ys939 H937))) ∧ (decide (p2 < e516 + p2 - n789) = false → (decide (p1 < n789) = true → (decide (n789 < e516) = true → ∃ (post980 : List Value →
  Heap → Prop), ConM P 168 [.slice none 0 0, .int .i64 p1, .int .i64 n789, .int .i64 e516, .func (.func p4F) ⟨[]⟩ ⟨[]⟩] 0 57 rowN rowXs true H787 ⟨true, []⟩ post980 ∧ ∀ (H981 : Heap), Heap.le
  H787 H981 → ∀ (ys983 : List Value), post980 ys983 H981 → (decide (e516 < e516 + p2 - n789) = true → (decide (e516 + p2 - n789 < p3) = true → ∃ (post987 : List Value → Heap → Prop), ConM P
  168 [.slice none 0 0, .int .i64 e516, .int .i64 (e516 + p2 - n789), .int .i64 p3, .func (.func p4F) ⟨[]⟩ ⟨[]⟩] 0 57 rowN ys983 true H981 ⟨true, []⟩ post987 ∧ ∀ (H988 : Heap), Heap.le H981
  H988 → ∀ (ys990 : List Value), post987 ys990 H988 → s0 = s0 ∧ rowN = rowN ∧ post ys990 H988) ∧ (decide (e516 + p2 - n789 < p3) = false → s0 = s0 ∧ rowN = rowN ∧ post ys983 H981)) ∧ (decide
  (e516 < e516 + p2 - n789) = false → s0 = s0 ∧ rowN = rowN ∧ post ys983 H981)) ∧ (decide (n789 < e516) = false → (decide (e516 < e516 + p2 - n789) = true → (decide (e516 + p2 - n789 < p3) =
  true → ∃ (post997 : List Value → Heap → Prop), ConM P 168 [.slice none 0 0, .int .i64 e516, .int .i64 (e516 + p2 - n789), .int .i64 p3, .func (.func p4F) ⟨[]⟩ ⟨[]⟩] 0 57 rowN rowXs true
  H787 ⟨true, []⟩ post997 ∧ ∀ (H998 : Heap), Heap.le H787 H998 → ∀ (ys1000 : List Value), post997 ys1000 H998 → s0 = s0 ∧ rowN = rowN ∧ post ys1000 H998) ∧ (decide (e516 + p2 - n789 < p3) =
  false → s0 = s0 ∧ rowN = rowN ∧ post rowXs H787)) ∧ (decide (e516 < e516 + p2 - n789) = false → s0 = s0 ∧ rowN = rowN ∧ post rowXs H787))) ∧ (decide (p1 < n789) = false → (decide (e516 <
  e516 + p2 - n789) = true → (decide (e516 + p2 - n789 < p3) = true → ∃ (post1007 : List Value → Heap → Prop), ConM P 168 [.slice none 0 0, .int .i64 e516, .int .i64 (e516 + p2 - n789), .int
  .i64 p3, .func (.func p4F) ⟨[]⟩ ⟨[]⟩] 0 57 rowN rowXs true H787 ⟨true, []⟩ post1007 ∧ ∀ (H1008 : Heap), Heap.le H787 H1008 → ∀ (ys1010 : List Value), post1007 ys1010 H1008 → s0 = s0 ∧ rowN
  = rowN ∧ post ys1010 H1008) ∧ (decide (e516 + p2 - n789 < p3) = false → s0 = s0 ∧ rowN = rowN ∧ post rowXs H787)) ∧ (decide (e516 < e516 + p2 - n789) = false → s0 = s0 ∧ rowN = rowN ∧ post
  rowXs H787)))) ∧ (decide (n789 < p2) = false → (decide (p1 < n789) = true → (decide (n789 < e516) = true → ∃ (post1017 : List Value → Heap → Prop), ConM P 168 [.slice none 0 0, .int .i64
  p1, .int .i64 n789, .int .i64 e516, .func (.func p4F) ⟨[]⟩ ⟨[]⟩] 0 57 rowN rowXs true H787 ⟨true, []⟩ post1017 ∧ ∀ (H1018 : Heap), Heap.le H787 H1018 → ∀ (ys1020 : List Value), post1017
  ys1020 H1018 → (decide (e516 < e516 + p2 - n789) = true → (decide (e516 + p2 - n789 < p3) = true → ∃ (post1024 : List Value → Heap → Prop), ConM P 168 [.slice none 0 0, .int .i64 e516, .int
  .i64 (e516 + p2 - n789), .int .i64 p3, .func (.func p4F) ⟨[]⟩ ⟨[]⟩] 0 57 rowN ys1020 true H1018 ⟨true, []⟩ post1024 ∧ ∀ (H1025 : Heap), Heap.le H1018 H1025 → ∀ (ys1027 : List Value),
  post1024 ys1027 H1025 → s0 = s0 ∧ rowN = rowN ∧ post ys1027 H1025) ∧ (decide (e516 + p2 - n789 < p3) = false → s0 = s0 ∧ rowN = rowN ∧ post ys1020 H1018)) ∧ (decide (e516 < e516 + p2 -
  n789) = false → s0 = s0 ∧ rowN = rowN ∧ post ys1020 H1018)) ∧ (decide (n789 < e516) = false → (decide (e516 < e516 + p2 - n789) = true → (decide (e516 + p2 - n789 < p3) = true → ∃ (post1034
  : List Value → Heap → Prop), ConM P 168 [.slice none 0 0, .int .i64 e516, .int .i64 (e516 + p2 - n789), .int .i64 p3, .func (.func p4F) ⟨[]⟩ ⟨[]⟩] 0 57 rowN rowXs true H787 ⟨true, []⟩
  post1034 ∧ ∀ (H1035 : Heap), Heap.le H787 H1035 → ∀ (ys1037 : List Value), post1034 ys1037 H1035 → s0 = s0 ∧ rowN = rowN ∧ post ys1037 H1035) ∧ (decide (e516 + p2 - n789 < p3) = false → s0
  = s0 ∧ rowN = rowN ∧ post rowXs H787)) ∧ (decide (e516 < e516 + p2 - n789) = false → s0 = s0 ∧ rowN = rowN ∧ post rowXs H787))) ∧ (decide (p1 < n789) = false → (decide (e516 < e516 + p2 -
  n789) = true → (decide (e516 + p2 - n789 < p3) = true → ∃ (post1044 : List Value → Heap → Prop), ConM P 168 [.slice none 0 0, .int .i64 e516, .int .i64 (e516 + p2 - n789), .int .i64 p3,
  .func (.func p4F) ⟨[]⟩ ⟨[]⟩] 0 57 rowN rowXs true H787 ⟨true, []⟩ post1044 ∧ ∀ (H1045 : Heap), Heap.le H787 H1045 → ∀ (ys1047 : List Value), post1044 ys1047 H1045 → s0 = s0 ∧ rowN = rowN ∧
  post ys1047 H1045) ∧ (decide (e516 + p2 - n789 < p3) = false → s0 = s0 ∧ rowN = rowN ∧ post rowXs H787)) ∧ (decide (e516 < e516 + p2 - n789) = false → s0 = s0 ∧ rowN = rowN ∧ post rowXs
  H787)))))))) := by kernel_rfl
set_option maxHeartbeats 4000000 in
theorem symStep_Tup {g : FuncId} {cf : Tup → Tup → Int} (hO : Sort.SWO (ltOf cf)) {n : Nat} (hn : n ≤ 100000000000000) {H0 : Heap} (hc : CmpT Tryz.prog Tup H0 g cf) {k : Nat} (ih : SymIH Tryz.prog 168 57 g cf n H0 k) :
    SymIH Tryz.prog 168 57 g cf n H0 (k + 1) := by
  have rc : RotC Tryz.prog 181 57 g Tup n H0 := fun _ _ _ _ _ _ _ _ _ hle hr hN hp hq ha hm hb => rotate_Tup hr hN (by omega) hp hq ha hm hb
  intro H xs X p q Y a m b hle hk hr hN hp hq sp sq ha hm hb
  have hpl := List.length_pos_iff.2 hp; have hql := List.length_pos_iff.2 hq
  have hN' := hN
  simp only [List.length_append] at hN'
  have hxl := hr.length
  refine conK_of_vc (an := an168) (fn := Tryz.f168) mix tabOK Tryz.func168 (by kernel_rfl) (extra := 0) (by simp) ?_
  rw [vc168]
  intro s0
  refine ⟨by simp only [rng]; omega, fun h1 => ?_, fun h1 => ⟨by simp only [rng]; omega, fun h2 => ?_, fun h2 => ?_⟩⟩
  · -- one element on the left
    have h1 := of_decide_eq_true h1
    obtain ⟨x, rfl⟩ : ∃ x, p = [x] := List.length_eq_one_iff.1 (by omega)
    obtain ⟨inv, hinv⟩ : ∃ inv : Int → Int → Heap → Prop, inv = fun i j _ => m ≤ i ∧ i ≤ j ∧ j ≤ b ∧ (∀ t, t + 1 = (i - m).toNat → ∀ h : t < q.length, cf q[t] x < 0) ∧ (∀ h : (j - m).toNat < q.length, ¬ cf q[(j - m).toNat] x < 0) := ⟨_, rfl⟩
    obtain ⟨mm, hmm⟩ : ∃ mm : Int → Int → Nat, mm = fun i j => (j - i).toNat := ⟨_, rfl⟩
    refine ⟨inv, mm, by rw [hinv]; exact ⟨by omega, by omega, by omega, fun t ht => by omega, fun h => by omega⟩, ?_⟩
    intro H4 l4 i j hi
    have hi0 := hi
    rw [hinv] at hi0
    obtain ⟨i0, i1, i2, i3, i4⟩ := hi0
    refine ⟨fun hlt => ?_, fun hge => ?_⟩
    · have hlt := of_decide_eq_true hlt
      refine ⟨by simp only [rng]; omega, _, half_u (by omega) (by omega), rfl, _, half_i (by omega) (by omega), ?_⟩
      have hh1 : i ≤ (i + j) / 2 := by omega
      have hh2 : (i + j) / 2 < j := by omega
      generalize (i + j) / 2 = h at hh1 hh2
      have hr4 := hr.mono l4
      have bA : a.toNat < (X ++ [x] ++ q ++ Y).length := by omega
      have bB : h.toNat < (X ++ [x] ++ q ++ Y).length := by omega
      have hwA := hr4.getw bA
      have hwB := hr4.getw bB
      have eA : (X ++ [x] ++ q ++ Y)[a.toNat] = x := by
        have : a.toNat = X.length := by omega
        simp [this]
      have hqb : (h - m).toNat < q.length := by omega
      have eB : (X ++ [x] ++ q ++ Y)[h.toNat] = q[(h - m).toNat] := by
        have e : h.toNat = (X ++ [x]).length + (h - m).toNat := by simp only [List.length_append, List.length_singleton] at hm ⊢; omega
        simp only [e]
        rw [List.getElem_append_left (by simp only [List.length_append] at *; omega), List.getElem_append_right (by omega)]
        simp
      rw [eA] at hwA
      rw [eB] at hwB
      have hcon := hc H4 _ _ _ _ (hle_trans hle l4) hwB hwA
      have fin : ∃ (post : Int → Heap → Prop), ConT Tryz.prog g [.agg ⟨win xs (h.toNat * Rep.sz Tup) (Rep.sz Tup)⟩, .agg ⟨win xs (a.toNat * Rep.sz Tup) (Rep.sz Tup)⟩] H4 shI post ∧ ∀ (H5 : Heap), Heap.le H4 H5 → ∀ (r : Int), post r H5 → (decide (r < 0) = true → rng .i64 (h + 1) ∧ inv (h + 1) j H5 ∧ mm (h + 1) j < mm i j) ∧ (decide (r < 0) = false → inv i h H5 ∧ mm i h < mm i j) := by
        refine ⟨_, hcon, ?_⟩
        rintro H5 l5 _ rfl
        subst hinv hmm
        refine ⟨fun hr => ⟨by simp only [rng]; omega, ⟨by omega, by omega, by omega, fun t ht hq2 => ?_, i4⟩, by dsimp only; omega⟩, fun hr => ⟨⟨by omega, by omega, by omega, i3, fun _ => of_decide_eq_false hr⟩, by dsimp only; omega⟩⟩
        have : t = (h - m).toNat := by omega
        subst this
        exact of_decide_eq_true hr
      clear hcon
      generalize hA : win xs (a.toNat * Rep.sz Tup) (Rep.sz Tup) = wA at hwA fin
      generalize hB : win xs (h.toNat * Rep.sz Tup) (Rep.sz Tup) = wB at hwB fin
      obtain ⟨A9, n9, c9, B9, m9, d9, rfl, -⟩ := hwA
      obtain ⟨A9, n9, c9, B9, m9, d9, rfl, -⟩ := hwB
      have g1 : 0 ≤ a := by omega
      have g2 : a < (n : Int) := by omega
      have g3 : 0 ≤ h := by omega
      have g4 : h < (n : Int) := by omega
      repeat' (first | assumption | refine ⟨_, _, _, _, _, _, _, _, rfl, ?_⟩ | refine ⟨_, _, _, _, _, _, _, _, hA, ?_⟩ | refine ⟨_, _, _, _, _, _, _, _, hB, ?_⟩ | refine And.intro ?_ ?_)
    · have hge := of_decide_eq_false hge
      have hij : i = j := by omega
      subst hij
      have hqi : (i - m).toNat ≤ q.length := by omega
      have hsrt := srt_insL hO sq hqi i3 i4
      have hML := moveL_len (X := X) (q := q) (x := x) (Y := Y)
      refine ⟨fun u ys k H' => u = n ∧ a ≤ k ∧ k ≤ i - 1 ∧ Row H' ys (moveL X q x Y (k - a).toNat), fun _ _ k => (i - k).toNat, ⟨rfl, by omega, by omega, by rw [show (a - a).toNat = 0 by omega]; simpa [moveL] using hr.mono l4⟩, ?_⟩
      rintro H14 l14 u ys k ⟨hu, k0, k1, hr3⟩
      refine ⟨by simp only [rng]; omega, fun hlt => ?_, fun hge => ?_⟩
      · have hlt := of_decide_eq_true hlt
        obtain ⟨h1', h2, h3⟩ := moveL_up (X := X) (q := q) (x := x) (Y := Y) (t := (k - a).toNat) (by omega) (a := k.toNat) (b := (k + 1).toNat) (by omega) (by omega)
        have hwA := hr3.getw h1'
        have hwB := hr3.getw h2
        have hset := hr3.setw h1' hwB
        have hset2 := hset.setw (i := (k + 1).toNat) (by simpa using h2) hwA
        rw [h3, show (k - a).toNat + 1 = (k + 1 - a).toNat by omega] at hset2
        have hlen1 := hr3.length; have hlen2 := hset.length
        have hcl := hML (k - a).toNat
        rw [List.length_set] at hlen2
        have fin : rng .i64 (k + 1) ∧ (u = n ∧ a ≤ k + 1 ∧ k + 1 ≤ i - 1 ∧ Row H14 (splice (splice ys (k.toNat * Rep.sz Tup) (win ys ((k + 1).toNat * Rep.sz Tup) (Rep.sz Tup))) ((k + 1).toNat * Rep.sz Tup) (win ys (k.toNat * Rep.sz Tup) (Rep.sz Tup))) (moveL X q x Y (k + 1 - a).toNat)) ∧ (i - (k + 1)).toNat < (i - k).toNat :=
          ⟨by simp only [rng]; omega, ⟨hu, by omega, by omega, hset2⟩, by omega⟩
        have c1 : k.toNat * Rep.sz Tup + Rep.sz Tup ≤ ys.length := by rw [hlen1, ← Nat.succ_mul]; exact Nat.mul_le_mul_right _ h1'
        have c2 : (k + 1).toNat * Rep.sz Tup + Rep.sz Tup ≤ (splice ys (k.toNat * Rep.sz Tup) (win ys ((k + 1).toNat * Rep.sz Tup) (Rep.sz Tup))).length := by rw [hlen2, ← Nat.succ_mul]; exact Nat.mul_le_mul_right _ h2
        clear hset hset2 hlen1 hlen2
        generalize hA : win ys (k.toNat * Rep.sz Tup) (Rep.sz Tup) = wA at hwA fin
        generalize hB : win ys ((k + 1).toNat * Rep.sz Tup) (Rep.sz Tup) = wB at hwB fin c2
        obtain ⟨A9, n9, c9, B9, m9, d9, rfl, -⟩ := hwA
        obtain ⟨A9, n9, c9, B9, m9, d9, rfl, -⟩ := hwB
        have g1 : 0 ≤ k := by omega
        have g2 : k < (u : Int) := by simp only [List.length_singleton] at hN'; omega
        have g3 : 0 ≤ k + 1 := by omega
        have g4 : k + 1 < (u : Int) := by simp only [List.length_singleton] at hN'; omega
        refine ⟨by simp only [rng]; omega, by simp only [rng]; omega, ?_⟩
        repeat' (first | assumption | refine ⟨_, _, _, _, _, _, _, _, rfl, ?_⟩ | refine ⟨_, _, _, _, _, _, _, _, hA, ?_⟩ | refine ⟨_, _, _, _, _, _, _, _, hB, ?_⟩ | refine And.intro ?_ ?_)
      · have hge := of_decide_eq_false hge
        refine ⟨rfl, hu, _, hr3, ?_, ?_⟩
        · rw [show (k - a).toNat = (i - m).toNat by simp only [List.length_singleton] at hm; omega]
          have := List.perm_middle (a := x) (l₁ := q.take (i - m).toNat) (l₂ := q.drop (i - m).toNat)
          rw [List.take_append_drop] at this
          exact this
        · rw [show (k - a).toNat = (i - m).toNat by simp only [List.length_singleton] at hm; omega]
          exact hsrt
  · -- one element on the right
    have h2 := of_decide_eq_true h2
    obtain ⟨x, rfl⟩ : ∃ x, q = [x] := List.length_eq_one_iff.1 (by omega)
    obtain ⟨inv, hinv⟩ : ∃ inv : Int → Int → Heap → Prop, inv = fun i j _ => a ≤ i ∧ i ≤ j ∧ j ≤ m ∧ (∀ t, t + 1 = (i - a).toNat → ∀ h : t < p.length, ¬ cf x p[t] < 0) ∧ (∀ h : (j - a).toNat < p.length, cf x p[(j - a).toNat] < 0) := ⟨_, rfl⟩
    obtain ⟨mm, hmm⟩ : ∃ mm : Int → Int → Nat, mm = fun i j => (j - i).toNat := ⟨_, rfl⟩
    refine ⟨inv, mm, by rw [hinv]; exact ⟨by omega, by omega, by omega, fun t ht => by omega, fun h => by omega⟩, ?_⟩
    intro H4 l4 i j hi
    have hi0 := hi
    rw [hinv] at hi0
    obtain ⟨i0, i1, i2, i3, i4⟩ := hi0
    refine ⟨fun hlt => ?_, fun hge => ?_⟩
    · have hlt := of_decide_eq_true hlt
      refine ⟨by simp only [rng]; omega, _, half_u (by omega) (by omega), rfl, _, half_i (by omega) (by omega), ?_⟩
      have hh1 : i ≤ (i + j) / 2 := by omega
      have hh2 : (i + j) / 2 < j := by omega
      generalize (i + j) / 2 = h at hh1 hh2
      have hr4 := hr.mono l4
      have bA : m.toNat < (X ++ p ++ [x] ++ Y).length := by omega
      have bB : h.toNat < (X ++ p ++ [x] ++ Y).length := by omega
      have hwA := hr4.getw bA
      have hwB := hr4.getw bB
      have eA : (X ++ p ++ [x] ++ Y)[m.toNat] = x := by
        have : m.toNat = (X ++ p).length := by simp only [List.length_append]; omega
        simp only [this]
        rw [List.getElem_append_left (by simp), List.getElem_append_right (by omega)]
        simp
      have hqb : (h - a).toNat < p.length := by omega
      have eB : (X ++ p ++ [x] ++ Y)[h.toNat] = p[(h - a).toNat] := by
        have e : h.toNat = X.length + (h - a).toNat := by omega
        simp only [e]
        rw [List.getElem_append_left (by simp only [List.length_append] at *; omega), List.getElem_append_left (by simp only [List.length_append] at *; omega), List.getElem_append_right (by omega)]
        simp
      rw [eA] at hwA
      rw [eB] at hwB
      have hcon := hc H4 _ _ _ _ (hle_trans hle l4) hwA hwB
      have fin : ∃ (post : Int → Heap → Prop), ConT Tryz.prog g [.agg ⟨win xs (m.toNat * Rep.sz Tup) (Rep.sz Tup)⟩, .agg ⟨win xs (h.toNat * Rep.sz Tup) (Rep.sz Tup)⟩] H4 shI post ∧ ∀ (H5 : Heap), Heap.le H4 H5 → ∀ (r : Int), post r H5 → ((!decide (r < 0)) = true → rng .i64 (h + 1) ∧ inv (h + 1) j H5 ∧ mm (h + 1) j < mm i j) ∧ ((!decide (r < 0)) = false → inv i h H5 ∧ mm i h < mm i j) := by
        refine ⟨_, hcon, ?_⟩
        rintro H5 l5 _ rfl
        subst hinv hmm
        refine ⟨fun hr => ⟨by simp only [rng]; omega, ⟨by omega, by omega, by omega, fun t ht hq2 => ?_, i4⟩, by dsimp only; omega⟩, fun hr => ⟨⟨by omega, by omega, by omega, i3, fun _ => by simpa using hr⟩, by dsimp only; omega⟩⟩
        have : t = (h - a).toNat := by omega
        subst this
        simpa using hr
      clear hcon
      generalize hA : win xs (m.toNat * Rep.sz Tup) (Rep.sz Tup) = wA at hwA fin
      generalize hB : win xs (h.toNat * Rep.sz Tup) (Rep.sz Tup) = wB at hwB fin
      obtain ⟨A9, n9, c9, B9, m9, d9, rfl, -⟩ := hwA
      obtain ⟨A9, n9, c9, B9, m9, d9, rfl, -⟩ := hwB
      have g1 : 0 ≤ m := by omega
      have g2 : m < (n : Int) := by omega
      have g3 : 0 ≤ h := by omega
      have g4 : h < (n : Int) := by omega
      repeat' (first | assumption | refine ⟨_, _, _, _, _, _, _, _, rfl, ?_⟩ | refine ⟨_, _, _, _, _, _, _, _, hA, ?_⟩ | refine ⟨_, _, _, _, _, _, _, _, hB, ?_⟩ | refine And.intro ?_ ?_)
    · have hge := of_decide_eq_false hge
      have hij : i = j := by omega
      subst hij
      have hqi : (i - a).toNat ≤ p.length := by omega
      have hsrt := srt_insR hO sp hqi i3 i4
      have hML := moveL_len (X := X) (q := p) (x := x) (Y := Y)
      simp only [List.length_singleton] at hN'
      refine ⟨fun u ys k H' => u = n ∧ i ≤ k ∧ k ≤ m ∧ Row H' ys (moveL X p x Y (k - a).toNat), fun _ _ k => (k - i).toNat, ⟨rfl, by omega, by omega, by rw [show (m - a).toNat = p.length by omega]; simpa [moveL] using hr.mono l4⟩, ?_⟩
      rintro H14 l14 u ys k ⟨hu, k0, k1, hr3⟩
      refine ⟨fun hlt => ?_, fun hge => ?_⟩
      · have hlt := of_decide_eq_true hlt
        obtain ⟨h1', h2', h3⟩ := moveL_down (X := X) (q := p) (x := x) (Y := Y) (t := (k - a).toNat) (by omega) (by omega) (a := k.toNat) (b := (k - 1).toNat) (by omega) (by omega)
        have hwA := hr3.getw h1'
        have hwB := hr3.getw h2'
        have hset := hr3.setw h1' hwB
        have hset2 := hset.setw (i := (k - 1).toNat) (by simpa using h2') hwA
        rw [h3, show (k - a).toNat - 1 = (k - 1 - a).toNat by omega] at hset2
        have hlen1 := hr3.length; have hlen2 := hset.length
        have hcl := hML (k - a).toNat
        rw [List.length_set] at hlen2
        have fin : rng .i64 (k - 1) ∧ (u = n ∧ i ≤ k - 1 ∧ k - 1 ≤ m ∧ Row H14 (splice (splice ys (k.toNat * Rep.sz Tup) (win ys ((k - 1).toNat * Rep.sz Tup) (Rep.sz Tup))) ((k - 1).toNat * Rep.sz Tup) (win ys (k.toNat * Rep.sz Tup) (Rep.sz Tup))) (moveL X p x Y (k - 1 - a).toNat)) ∧ (k - 1 - i).toNat < (k - i).toNat :=
          ⟨by simp only [rng]; omega, ⟨hu, by omega, by omega, hset2⟩, by omega⟩
        have c1 : k.toNat * Rep.sz Tup + Rep.sz Tup ≤ ys.length := by rw [hlen1, ← Nat.succ_mul]; exact Nat.mul_le_mul_right _ h1'
        have c2 : (k - 1).toNat * Rep.sz Tup + Rep.sz Tup ≤ (splice ys (k.toNat * Rep.sz Tup) (win ys ((k - 1).toNat * Rep.sz Tup) (Rep.sz Tup))).length := by rw [hlen2, ← Nat.succ_mul]; exact Nat.mul_le_mul_right _ h2'
        clear hset hset2 hlen1 hlen2
        generalize hA : win ys (k.toNat * Rep.sz Tup) (Rep.sz Tup) = wA at hwA fin
        generalize hB : win ys ((k - 1).toNat * Rep.sz Tup) (Rep.sz Tup) = wB at hwB fin c2
        obtain ⟨A9, n9, c9, B9, m9, d9, rfl, -⟩ := hwA
        obtain ⟨A9, n9, c9, B9, m9, d9, rfl, -⟩ := hwB
        have g1 : 0 ≤ k := by omega
        have g2 : k < (u : Int) := by omega
        have g3 : 0 ≤ k - 1 := by omega
        have g4 : k - 1 < (u : Int) := by omega
        refine ⟨by simp only [rng]; omega, by simp only [rng]; omega, ?_⟩
        repeat' (first | assumption | refine ⟨_, _, _, _, _, _, _, _, rfl, ?_⟩ | refine ⟨_, _, _, _, _, _, _, _, hA, ?_⟩ | refine ⟨_, _, _, _, _, _, _, _, hB, ?_⟩ | refine And.intro ?_ ?_)
      · have hge := of_decide_eq_false hge
        have hki : k = i := by omega
        subst hki
        refine ⟨rfl, hu, _, hr3, ?_, hsrt⟩
        have := List.perm_middle (a := x) (l₁ := p.take (k - a).toNat) (l₂ := p.drop (k - a).toNat)
        rw [List.take_append_drop] at this
        exact this.trans (List.perm_append_comm (l₁ := [x]) (l₂ := p))
  · -- both longer
    have h1 := of_decide_eq_false h1; have h2 := of_decide_eq_false h2
    refine ⟨by simp only [rng]; omega, _, half_u (by omega) (by omega), rfl, _, half_i (by omega) (by omega), ?_⟩
    obtain ⟨mid, hmid⟩ : ∃ mid, (a + b) / 2 = mid := ⟨_, rfl⟩
    rw [hmid]
    refine ⟨by simp only [rng]; omega, fun hmm0 => ⟨by simp only [rng]; omega, by simp only [rng]; omega, ?_⟩, fun hmm0 => ⟨by simp only [rng]; omega, ?_⟩⟩
    all_goals
      first
      | (have hmm1 := of_decide_eq_true hmm0
         obtain ⟨lo, hlo⟩ : ∃ lo, lo = mid + m - b := ⟨_, rfl⟩
         obtain ⟨hi, hhi⟩ : ∃ hi, hi = mid := ⟨_, rfl⟩
         have hcase : (lo = mid + m - b ∧ hi = mid ∧ mid < m) ∨ (lo = a ∧ hi = m ∧ m ≤ mid) := .inl ⟨hlo, hhi, hmm1⟩)
      | (have hmm1 := of_decide_eq_false hmm0
         obtain ⟨lo, hlo⟩ : ∃ lo, lo = a := ⟨_, rfl⟩
         obtain ⟨hi, hhi⟩ : ∃ hi, hi = m := ⟨_, rfl⟩
         have hcase : (lo = mid + m - b ∧ hi = mid ∧ mid < m) ∨ (lo = a ∧ hi = m ∧ m ≤ mid) := .inr ⟨hlo, hhi, by omega⟩)
      clear hmm0
      obtain ⟨inv, hinv⟩ : ∃ inv : Int → Int → Heap → Prop, inv = fun s r _ => lo ≤ s ∧ s ≤ r ∧ r ≤ hi ∧ (lo < s → ∀ (g1 : (s - 1 - a).toNat < p.length) (g2 : (mid - s).toNat < q.length), ¬ cf q[(mid - s).toNat] p[(s - 1 - a).toNat] < 0) ∧ (r < hi → ∀ (g1 : (r - a).toNat < p.length) (g2 : (mid - 1 - r).toNat < q.length), cf q[(mid - 1 - r).toNat] p[(r - a).toNat] < 0) := ⟨_, rfl⟩
      obtain ⟨mm, hmm⟩ : ∃ mm : Int → Int → Nat, mm = fun s r => (r - s).toNat := ⟨_, rfl⟩
      refine ⟨inv, mm, by rw [hinv]; exact ⟨by omega, by omega, by omega, fun h => by omega, fun h => by omega⟩, ?_⟩
      intro H4 l4 s r hi4
      have hi0 := hi4
      rw [hinv] at hi0
      obtain ⟨s0', s1, s2, s3, s4⟩ := hi0
      refine ⟨fun hlt => ?_, fun hge => ?_⟩
      · have hlt := of_decide_eq_true hlt
        refine ⟨by simp only [rng]; omega, _, half_u (by omega) (by omega), rfl, _, half_i (by omega) (by omega), ?_⟩
        have hh1 : s ≤ (s + r) / 2 := by omega
        have hh2 : (s + r) / 2 < r := by omega
        generalize (s + r) / 2 = h at hh1 hh2
        have hr4 := hr.mono l4
        have bA : (mid + m - 1 - h).toNat < (X ++ p ++ q ++ Y).length := by omega
        have bB : h.toNat < (X ++ p ++ q ++ Y).length := by omega
        have hwA := hr4.getw bA
        have hwB := hr4.getw bB
        have hqa : (mid - 1 - h).toNat < q.length := by omega
        have hqb : (h - a).toNat < p.length := by omega
        have eA : (X ++ p ++ q ++ Y)[(mid + m - 1 - h).toNat] = q[(mid - 1 - h).toNat] := by
          have e : (mid + m - 1 - h).toNat = (X ++ p).length + (mid - 1 - h).toNat := by simp only [List.length_append]; omega
          simp only [e]
          rw [List.getElem_append_left (by simp only [List.length_append] at *; omega), List.getElem_append_right (by omega)]
          simp
        have eB : (X ++ p ++ q ++ Y)[h.toNat] = p[(h - a).toNat] := by
          have e : h.toNat = X.length + (h - a).toNat := by omega
          simp only [e]
          rw [List.getElem_append_left (by simp only [List.length_append] at *; omega), List.getElem_append_left (by simp only [List.length_append] at *; omega), List.getElem_append_right (by omega)]
          simp
        rw [eA] at hwA
        rw [eB] at hwB
        have hcon := hc H4 _ _ _ _ (hle_trans hle l4) hwA hwB
        have fin : ∃ (post : Int → Heap → Prop), ConT Tryz.prog g [.agg ⟨win xs ((mid + m - 1 - h).toNat * Rep.sz Tup) (Rep.sz Tup)⟩, .agg ⟨win xs (h.toNat * Rep.sz Tup) (Rep.sz Tup)⟩] H4 shI post ∧ ∀ (H5 : Heap), Heap.le H4 H5 → ∀ (x : Int), post x H5 → ((!decide (x < 0)) = true → rng .i64 (h + 1) ∧ inv (h + 1) r H5 ∧ mm (h + 1) r < mm s r) ∧ ((!decide (x < 0)) = false → inv s h H5 ∧ mm s h < mm s r) := by
          refine ⟨_, hcon, ?_⟩
          rintro H5 l5 _ rfl
          subst hinv hmm
          refine ⟨fun hr => ⟨by simp only [rng]; omega, ⟨by omega, by omega, by omega, fun _ g1 g2 => ?_, s4⟩, by dsimp only; omega⟩, fun hr => ⟨⟨by omega, by omega, by omega, s3, fun _ g1 g2 => by simpa using hr⟩, by dsimp only; omega⟩⟩
          have e1 : (h + 1 - 1 - a).toNat = (h - a).toNat := by omega
          have e2 : (mid - (h + 1)).toNat = (mid - 1 - h).toNat := by omega
          simp only [e1, e2]
          simpa using hr
        clear hcon
        generalize hA : win xs ((mid + m - 1 - h).toNat * Rep.sz Tup) (Rep.sz Tup) = wA at hwA fin
        generalize hB : win xs (h.toNat * Rep.sz Tup) (Rep.sz Tup) = wB at hwB fin
        obtain ⟨A9, n9, c9, B9, m9, d9, rfl, -⟩ := hwA
        obtain ⟨A9, n9, c9, B9, m9, d9, rfl, -⟩ := hwB
        have g1 : 0 ≤ mid + m - 1 - h := by omega
        have g2 : mid + m - 1 - h < (n : Int) := by omega
        have g3 : 0 ≤ h := by omega
        have g4 : h < (n : Int) := by omega
        refine ⟨by simp only [rng]; omega, ?_⟩
        repeat' (first | assumption | refine ⟨_, _, _, _, _, _, _, _, rfl, ?_⟩ | refine ⟨_, _, _, _, _, _, _, _, hA, ?_⟩ | refine ⟨_, _, _, _, _, _, _, _, hB, ?_⟩ | refine And.intro ?_ ?_)
      · have hge := of_decide_eq_false hge
        have hsr : s = r := by omega
        subst hsr
        refine ⟨by simp only [rng]; omega, ?_⟩
        refine symT1_ok (i := (s - a).toNat) (j := (mid - s).toNat) hO ih rc (hle_trans hle l4) (hr.mono l4) hN sp sq (by omega) (by omega) (by omega) (by omega) (fun t ht hk1 hj1 => ?_) (fun t ht hi1 hk1 => ?_) ha hm hb (by omega) (by omega) (by omega)
        · have : t = (s - 1 - a).toNat := by omega
          subst this
          exact s3 (by omega) hk1 hj1
        · have : t = (mid - 1 - s).toNat := by omega
          subst this
          exact s4 (by omega) hi1 hk1
theorem symMerge_Tup {g : FuncId} {cf : Tup → Tup → Int} (hO : Sort.SWO (ltOf cf)) {n : Nat} (hn : n ≤ 100000000000000) {H0 : Heap} (hc : CmpT Tryz.prog Tup H0 g cf) :
    ∀ k : Nat, SymIH Tryz.prog 168 57 g cf n H0 k
  | 0 => by
    intro H xs X p q Y a m b hle hk hr hN hp hq
    have := List.length_pos_iff.2 hp
    omega
  | k + 1 => symStep_Tup hO hn hc (symMerge_Tup hO hn hc k)
def an134 : Ann where
  res := fun _ => none
  lend := fun _ => false
  mt := fun | 167 => some true | 168 => some true | _ => none
  sch := fun _ => .done
  lt := fun | 2 => [.rowc 63 57, .slot 7 false [.int .i64], .slot 8 false [.int .i64]] | 7 => [.rowc 63 57, .slot 6 false [.int .i64]] | 9 => [.rowc 63 57, .slot 7 false [.int .i64], .slot 8 false [.int .i64]] | _ => []
  tup := tups

theorem vc134 (P : Program) (H : Heap) (n : Int) (cmpF : FuncId) (rowN : Nat) (rowXs : List Value) (post : List Value → Heap → Prop) :
  vcFnK P tab an134 Tryz.f134 [.slice none 0 0, .int .i64 n, .func (.func cmpF) #[] #[]] 0 57 rowN rowXs 0 H post =
  (  ∀ (s0 : Value), ∃ (inv1 : Nat → List Value → Int → Int → Heap → Prop), ∃ (m2 : Nat → List Value → Int → Int → Nat), inv1 rowN rowXs (0 : Int) (20 : Int) H ∧ ∀ (H3 : Heap), Heap.le H H3 → ∀
  (n5 : Nat) (xs6 : List Value) (n7 n8 : Int), inv1 n5 xs6 n7 n8 H3 → (decide (n8 ≤ n) = true → ∃ (post11 : List Value → Heap → Prop), ConM P 167 [.slice none 0 0, .int .i64 n7, .int .i64 n8,
  .func (.func cmpF) ⟨[]⟩ ⟨[]⟩] 0 57 n5 xs6 true H3 ⟨true, []⟩ post11 ∧ ∀ (H12 : Heap), Heap.le H3 H12 → ∀ (ys14 : List Value), post11 ys14 H12 → rng .i64 (n8 + (20 : Int)) ∧ inv1 n5 ys14 n8
  (n8 + (20 : Int)) H12 ∧ m2 n5 ys14 n8 (n8 + (20 : Int)) < m2 n5 xs6 n7 n8) ∧ (decide (n8 ≤ n) = false → ∃ (post17 : List Value → Heap → Prop), ConM P 167 [.slice none 0 0, .int .i64 n7,
  .int .i64 n, .func (.func cmpF) ⟨[]⟩ ⟨[]⟩] 0 57 n5 xs6 true H3 ⟨true, []⟩ post17 ∧ ∀ (H18 : Heap), Heap.le H3 H18 → ∀ (ys20 : List Value), post17 ys20 H18 → ∃ (inv22 : Nat → List Value →
  Int → Heap → Prop), ∃ (m23 : Nat → List Value → Int → Nat), inv22 n5 ys20 (20 : Int) H18 ∧ ∀ (H24 : Heap), Heap.le H18 H24 → ∀ (n26 : Nat) (xs27 : List Value) (n28 : Int), inv22 n26 xs27
  n28 H24 → (decide (n28 < n) = true → rng .i64 ((2 : Int) * n28) ∧ ∃ (inv31 : Nat → List Value → Int → Int → Heap → Prop), ∃ (m32 : Nat → List Value → Int → Int → Nat), inv31 n26 xs27 (0 :
  Int) ((2 : Int) * n28) H24 ∧ ∀ (H33 : Heap), Heap.le H24 H33 → ∀ (n35 : Nat) (xs36 : List Value) (n37 n38 : Int), inv31 n35 xs36 n37 n38 H33 → (decide (n38 ≤ n) = true → rng .i64 (n37 +
  n28) ∧ ∃ (post41 : List Value → Heap → Prop), ConM P 168 [.slice none 0 0, .int .i64 n37, .int .i64 (n37 + n28), .int .i64 n38, .func (.func cmpF) ⟨[]⟩ ⟨[]⟩] 0 57 n35 xs36 true H33 ⟨true,
  []⟩ post41 ∧ ∀ (H42 : Heap), Heap.le H33 H42 → ∀ (ys44 : List Value), post41 ys44 H42 → rng .i64 ((2 : Int) * n28) ∧ rng .i64 (n38 + (2 : Int) * n28) ∧ inv31 n35 ys44 n38 (n38 + (2 : Int) *
  n28) H42 ∧ m32 n35 ys44 n38 (n38 + (2 : Int) * n28) < m32 n35 xs36 n37 n38) ∧ (decide (n38 ≤ n) = false → rng .i64 (n37 + n28) ∧ (decide (n37 + n28 < n) = true → ∃ (post48 : List Value →
  Heap → Prop), ConM P 168 [.slice none 0 0, .int .i64 n37, .int .i64 (n37 + n28), .int .i64 n, .func (.func cmpF) ⟨[]⟩ ⟨[]⟩] 0 57 n35 xs36 true H33 ⟨true, []⟩ post48 ∧ ∀ (H49 : Heap),
  Heap.le H33 H49 → ∀ (ys51 : List Value), post48 ys51 H49 → rng .i64 (n28 * (2 : Int)) ∧ inv22 n35 ys51 (n28 * (2 : Int)) H49 ∧ m23 n35 ys51 (n28 * (2 : Int)) < m23 n26 xs27 n28) ∧ (decide
  (n37 + n28 < n) = false → rng .i64 (n28 * (2 : Int)) ∧ inv22 n35 xs36 (n28 * (2 : Int)) H33 ∧ m23 n35 xs36 (n28 * (2 : Int)) < m23 n26 xs27 n28))) ∧ (decide (n28 < n) = false → s0 = s0 ∧
  n26 = rowN ∧ post xs27 H24))) := by kernel_rfl
set_option maxHeartbeats 2000000 in
theorem stable_Tup {H : Heap} {n : Nat} {xs : List Value} {l : List Tup} (hr : Row H xs l) (hl : l.length = n) (hn : n ≤ 10000000000000) {g : FuncId} (hg : FnOK Tryz.prog g) {cf : Tup → Tup → Int} (hO : Sort.SWO (ltOf cf)) (hc : CmpT Tryz.prog Tup H g cf) :
    ConM Tryz.prog 134 [.slice none 0 0, .int .i64 n, .func (.func g) #[] #[]] 0 57 n xs true H ⟨true, []⟩
      (fun ys (H' : Heap) => ∃ m : List Tup, Row H' ys m ∧ m.Perm l ∧ m.Pairwise (fun a b => ¬ cf b a < 0)) := by
  refine conK_of_vc (an := an134) (fn := Tryz.f134) mix tabOK Tryz.func134 (by kernel_rfl) (extra := 0) (by simp) ?_
  rw [vc134]
  intro s0
  refine ⟨fun u ys a b H' => u = n ∧ 0 ≤ a ∧ a ≤ n ∧ b = a + 20 ∧ 20 ∣ a.toNat ∧ ∃ m : List Tup, Row H' ys m ∧ m.Perm l ∧ ∀ i : Nat, 20 ∣ i → i + 20 ≤ a.toNat → srt cf (seg m i (i + 20)), fun _ _ a _ => (n - a).toNat,
    ⟨rfl, by omega, by omega, by omega, ⟨0, rfl⟩, l, hr, List.Perm.refl _, fun i _ h => by simp at h⟩, ?_⟩
  rintro H3 l3 u ys a b ⟨rfl, a0, a1, rfl, hd, m, hm, hp, hs⟩
  have hml : m.length = u := by rw [hp.length_eq, hl]
  obtain ⟨A, rfl⟩ := Int.eq_ofNat_of_zero_le a0
  simp only [Int.toNat_natCast] at hd hs
  refine ⟨fun hle => ?_, fun hgt => ?_⟩
  · have hle := of_decide_eq_true hle
    have e20 : ((A : Int) + 20) = ((A + 20 : Nat) : Int) := by omega
    rw [e20]
    refine ⟨_, ins_Tup (i := A) (j := A + 20) (by omega) hm hml (by omega) (by omega) hg hO (fun H' vs us s t h1 h2 h3 => hc H' vs us s t (hle_trans l3 h1) h2 h3), ?_⟩
    rintro H12 l12 ys14 ⟨w, h1, h2, h3⟩
    have h2 : w.Perm (seg m A (A + 20)) := h2
    have hsl := seg_len m A (j := A + 20) (by omega)
    have hwl := h2.length_eq
    have htl : (m.take A).length = A := by rw [List.length_take]; omega
    have h3' := seg_three m (i := A) (j := A + 20) (by omega)
    refine ⟨by simp only [rng]; omega, ⟨rfl, by omega, by omega, by omega, by simp only [Int.toNat_natCast]; omega, _, h1, ?_, fun i hi hib => ?_⟩, by dsimp only; omega⟩
    · have : (m.take A ++ w ++ m.drop (A + 20)).Perm (m.take A ++ seg m A (A + 20) ++ m.drop (A + 20)) := List.Perm.append_right _ (List.Perm.append_left _ h2)
      rw [← h3'] at this
      exact this.trans hp
    · simp only [Int.toNat_natCast] at hib
      rcases Nat.lt_or_ge i A with hia | hia
      · rw [seg_out (w := seg m A (A + 20)) (by omega) (.inl (by omega)), ← h3']
        exact hs i hi (by omega)
      · have : i = A := by omega
        subst this
        rw [seg_mid htl.symm (by omega)]
        exact h3
  have hgt := of_decide_eq_false hgt
  refine ⟨_, ins_Tup (i := A) (j := u) (by omega) hm hml (by omega) (by omega) hg hO (fun H' vs us s t h1 h2 h3 => hc H' vs us s t (hle_trans l3 h1) h2 h3), ?_⟩
  rintro H18 l18 ys20 ⟨w, h1, h2, h3⟩
  have h2 : w.Perm (seg m A u) := h2
  have hsl := seg_len m A (j := u) (by omega)
  have hwl := h2.length_eq
  have htl : (m.take A).length = A := by rw [List.length_take]; omega
  have h3' := seg_three m (i := A) (j := u) (by omega)
  have hdl : (m.drop u).length = 0 := by rw [List.length_drop]; omega
  have hp2 : (m.take A ++ w ++ m.drop u).Perm l := by
    have : (m.take A ++ w ++ m.drop u).Perm (m.take A ++ seg m A u ++ m.drop u) := List.Perm.append_right _ (List.Perm.append_left _ h2)
    rw [← h3'] at this
    exact this.trans hp
  have hs2 : ∀ i : Nat, 20 ∣ i → srt cf (seg (m.take A ++ w ++ m.drop u) i (i + 20)) := by
    intro i hi
    have hlen := hp2.length_eq
    rcases Nat.lt_trichotomy i A with hia | hia | hia
    · rw [seg_out (w := seg m A u) (by omega) (.inl (by omega)), ← h3']
      exact hs i hi (by omega)
    · subst hia
      rw [seg_end _ i (j := i + 20) (k := u) (by omega) (by omega), seg_mid htl.symm (by omega)]
      exact h3
    · rw [seg_far _ (by omega)]
      exact List.Pairwise.nil
  generalize m.take A ++ w ++ m.drop u = m2 at h1 hp2 hs2
  clear hs hp hm h3 h2 hwl hsl h3' htl hdl hml
  refine ⟨fun v ys bs H' => v = u ∧ 1 ≤ bs ∧ bs ≤ 2 * u + 20 ∧ ∃ m : List Tup, Row H' ys m ∧ m.Perm l ∧ ∀ i : Nat, bs.toNat ∣ i → srt cf (seg m i (i + bs.toNat)), fun _ _ bs => (u - bs).toNat, ⟨rfl, by omega, by omega, m2, h1, hp2, hs2⟩, ?_⟩
  clear h1 hp2 hs2
  rintro H24 l24 v zs bs ⟨rfl, b0, b1, m, hm, hp, hs⟩
  have hml : m.length = v := by rw [hp.length_eq, hl]
  obtain ⟨B, rfl⟩ := Int.eq_ofNat_of_zero_le (show 0 ≤ bs by omega)
  simp only [Int.toNat_natCast] at hs
  refine ⟨fun hlt => ?_, fun hge => ?_⟩
  · have hlt := of_decide_eq_true hlt
    refine ⟨by simp only [rng]; omega, fun u ys a b H' => u = v ∧ 0 ≤ a ∧ a ≤ v ∧ b = a + 2 * B ∧ (2 * B) ∣ a.toNat ∧ ∃ m : List Tup, Row H' ys m ∧ m.Perm l ∧ (∀ i : Nat, (2 * B) ∣ i → i + 2 * B ≤ a.toNat → srt cf (seg m i (i + 2 * B))) ∧ (∀ i : Nat, B ∣ i → a.toNat ≤ i → srt cf (seg m i (i + B))),
      fun _ _ a _ => (v - a).toNat, ⟨rfl, by omega, by omega, by omega, ⟨0, by simp⟩, m, hm, hp, fun i _ h => by simp only [Int.toNat_zero] at h; omega, fun i hi _ => hs i hi⟩, ?_⟩
    clear hs hm hp hml
    rintro H33 l33 u ys a b ⟨rfl, a0, a1, rfl, hd, m, hm, hp, hs, ht⟩
    have hml : m.length = u := by rw [hp.length_eq, hl]
    obtain ⟨A, rfl⟩ := Int.eq_ofNat_of_zero_le a0
    simp only [Int.toNat_natCast] at hd hs ht
    have hBA : B ∣ A := Nat.dvd_trans ⟨2, Nat.mul_comm 2 B⟩ hd
    have step : ∀ {i j : Nat}, (2 * B) ∣ i → (2 * B) ∣ j → i < j → i + 2 * B ≤ j := by
      rintro i j ⟨x, rfl⟩ ⟨y, rfl⟩ h
      have hxy : x < y := Nat.lt_of_mul_lt_mul_left h
      calc 2 * B * x + 2 * B = 2 * B * (x + 1) := (Nat.mul_succ _ _).symm
        _ ≤ 2 * B * y := Nat.mul_le_mul_left _ hxy
    have hle0 := hle_trans l3 (hle_trans l18 (hle_trans l24 l33))
    have htl : (m.take A).length = A := by rw [List.length_take]; omega
    refine ⟨fun hle => ?_, fun hgt => ?_⟩
    · have hle := of_decide_eq_true hle
      have hsl1 := seg_len m A (j := A + B) (by omega)
      have hsl2 := seg_len m (A + B) (j := A + 2 * B) (by omega)
      have h3' := seg_three m (i := A) (j := A + 2 * B) (by omega)
      have hcut := seg_cut m (i := A) (k := A + B) (j := A + 2 * B) (by omega) (by omega)
      have hsorted1 := ht A hBA (Nat.le_refl _)
      have hsorted2 := ht (A + B) ((Nat.dvd_add_right hBA).2 (Nat.dvd_refl B)) (by omega)
      rw [show A + B + B = A + 2 * B by omega] at hsorted2
      refine ⟨by simp only [rng]; omega, _, symMerge_Tup hO (by omega) hc u H33 ys (m.take A) (seg m A (A + B)) (seg m (A + B) (A + 2 * B)) (m.drop (A + 2 * B)) _ _ _ hle0 (by omega) ?_ ?_ ?_ ?_ hsorted1 hsorted2 (by rw [htl]) (by rw [hsl1]; omega) (by rw [hsl2]; omega), ?_⟩
      · rw [List.append_assoc (m.take A), ← hcut, ← h3']; exact hm
      · rw [List.append_assoc (m.take A), ← hcut, ← h3']; exact hml
      · intro h; rw [h] at hsl1; simp only [List.length_nil] at hsl1; omega
      · intro h; rw [h] at hsl2; simp only [List.length_nil] at hsl2; omega
      rintro H42 l42 ys44 ⟨w, r1, r2, r3⟩
      rw [← hcut] at r2
      have hwl := r2.length_eq
      have hsl := seg_len m A (j := A + 2 * B) (by omega)
      have hp2 : (m.take A ++ w ++ m.drop (A + 2 * B)).Perm l := by
        have : (m.take A ++ w ++ m.drop (A + 2 * B)).Perm (m.take A ++ seg m A (A + 2 * B) ++ m.drop (A + 2 * B)) := List.Perm.append_right _ (List.Perm.append_left _ r2)
        rw [← h3'] at this
        exact this.trans hp
      have eb : ((A : Int) + 2 * B).toNat = A + 2 * B := by omega
      refine ⟨by simp only [rng]; omega, by simp only [rng]; omega, ⟨rfl, by omega, by omega, by omega, by rw [eb]; exact (Nat.dvd_add_right hd).2 (Nat.dvd_refl _), _, r1, hp2, fun i hi hib => ?_, fun i hi hib => ?_⟩, by dsimp only; omega⟩
      · rw [eb] at hib
        rcases Nat.lt_or_ge i A with hia | hia
        · have := step hi hd hia
          rw [seg_out (w := seg m A (A + 2 * B)) (by omega) (.inl (by omega)), ← h3']
          exact hs i hi (by omega)
        · have : i = A := by omega
          subst this
          rw [seg_mid htl.symm (by omega)]
          exact r3
      · rw [eb] at hib
        rw [seg_out (w := seg m A (A + 2 * B)) (by omega) (.inr (by omega)), ← h3']
        exact ht i hi (by omega)
    · have hgt := of_decide_eq_false hgt
      have e2 : ((B : Int) * 2).toNat = 2 * B := by omega
      refine ⟨by simp only [rng]; omega, fun hlt2 => ?_, fun hge2 => ?_⟩
      · have hlt2 := of_decide_eq_true hlt2
        have hsl1 := seg_len m A (j := A + B) (by omega)
        have hsl2 := seg_len m (A + B) (j := u) (by omega)
        have h3' := seg_three m (i := A) (j := u) (by omega)
        have hcut := seg_cut m (i := A) (k := A + B) (j := u) (by omega) (by omega)
        have hsorted1 := ht A hBA (Nat.le_refl _)
        have hsorted2 := ht (A + B) ((Nat.dvd_add_right hBA).2 (Nat.dvd_refl B)) (by omega)
        rw [seg_end _ (A + B) (j := A + B + B) (k := u) (by omega) (by omega)] at hsorted2
        refine ⟨_, symMerge_Tup hO (by omega) hc u H33 ys (m.take A) (seg m A (A + B)) (seg m (A + B) u) (m.drop u) _ _ _ hle0 (by omega) ?_ ?_ ?_ ?_ hsorted1 hsorted2 (by rw [htl]) (by rw [hsl1]; omega) (by rw [hsl2]; omega), ?_⟩
        · rw [List.append_assoc (m.take A), ← hcut, ← h3']; exact hm
        · rw [List.append_assoc (m.take A), ← hcut, ← h3']; exact hml
        · intro h; rw [h] at hsl1; simp only [List.length_nil] at hsl1; omega
        · intro h; rw [h] at hsl2; simp only [List.length_nil] at hsl2; omega
        rintro H49 l49 ys51 ⟨w, r1, r2, r3⟩
        rw [← hcut] at r2
        have hwl := r2.length_eq
        have hsl := seg_len m A (j := u) (by omega)
        have hp2 : (m.take A ++ w ++ m.drop u).Perm l := by
          have : (m.take A ++ w ++ m.drop u).Perm (m.take A ++ seg m A u ++ m.drop u) := List.Perm.append_right _ (List.Perm.append_left _ r2)
          rw [← h3'] at this
          exact this.trans hp
        have hlen := hp2.length_eq
        refine ⟨by simp only [rng]; omega, ⟨rfl, by omega, by omega, _, r1, hp2, fun i hi => ?_⟩, by dsimp only; omega⟩
        rw [e2] at hi ⊢
        rcases Nat.lt_trichotomy i A with hia | hia | hia
        · have := step hi hd hia
          rw [seg_out (w := seg m A u) (by omega) (.inl (by omega)), ← h3']
          exact hs i hi (by omega)
        · subst hia
          rw [seg_end _ i (j := i + 2 * B) (k := u) (by omega) (by omega), seg_mid htl.symm (by omega)]
          exact r3
        · have := step hd hi hia
          rw [seg_far _ (by omega)]
          exact List.Pairwise.nil
      · have hge2 := of_decide_eq_false hge2
        refine ⟨by simp only [rng]; omega, ⟨rfl, by omega, by omega, m, hm, hp, fun i hi => ?_⟩, by dsimp only; omega⟩
        rw [e2] at hi ⊢
        rcases Nat.lt_trichotomy i A with hia | hia | hia
        · have := step hi hd hia
          exact hs i hi (by omega)
        · subst hia
          rw [seg_end _ i (j := i + 2 * B) (k := i + B) (by omega) (by omega)]
          exact ht i hBA (Nat.le_refl _)
        · have := step hd hi hia
          rw [seg_far _ (by omega)]
          exact List.Pairwise.nil
  · have hge := of_decide_eq_false hge
    refine ⟨rfl, rfl, m, hm, hp, ?_⟩
    have h0 := hs 0 ⟨0, by simp⟩
    have e : seg m 0 (0 + B) = m := by
      unfold seg
      rw [List.drop_zero, List.take_of_length_le (by omega)]
    rw [e] at h0
    exact h0
def an96 : Ann where
  res := fun _ => none
  lend := fun _ => false
  mt := fun | 134 => some true | _ => none
  sch := fun _ => .done
  lt := fun _ => []
  tup := tups

theorem vc96 (P : Program) (H : Heap) (cmpF : FuncId) (rowN : Nat) (rowXs : List Value) (post : List Value → Heap → Prop) :
  vcFnK P tab an96 Tryz.f96 [.slice none 0 0, .func (.func cmpF) #[] #[]] 0 57 rowN rowXs 0 H post =
  (  ∀ (s0 : Value), ∃ (post1 : List Value → Heap → Prop), ConM P 134 [.slice none 0 0, .int .i64 (↑rowN : Int), .func (.func cmpF) ⟨[]⟩ ⟨[]⟩] 0 57 rowN rowXs true H ⟨true, []⟩ post1 ∧ ∀ (H2 :
  Heap), Heap.le H H2 → ∀ (ys4 : List Value), post1 ys4 H2 → s0 = s0 ∧ rowN = rowN ∧ post ys4 H2) := by kernel_rfl
theorem SortStable_Tup {H : Heap} {n : Nat} {xs : List Value} {l : List Tup} (hr : Row H xs l) (hl : l.length = n) (hn : n ≤ 10000000000000) {g : FuncId} (hg : FnOK Tryz.prog g) {cf : Tup → Tup → Int} (hO : Sort.SWO (ltOf cf)) (hc : CmpT Tryz.prog Tup H g cf) :
    ConM Tryz.prog 96 [.slice none 0 0, .func (.func g) #[] #[]] 0 57 n xs true H ⟨true, []⟩
      (fun ys (H' : Heap) => ∃ m : List Tup, Row H' ys m ∧ m.Perm l ∧ m.Pairwise (fun a b => ¬ cf b a < 0)) := by
  refine conK_of_vc (an := an96) (fn := Tryz.f96) mix tabOK Tryz.func96 (by kernel_rfl) (extra := 0) (by simp) ?_
  rw [vc96]
  intro s0
  exact ⟨_, stable_Tup hr hl hn hg hO hc, fun H2 l2 ys h => ⟨rfl, rfl, h⟩⟩
def an135 : Ann where
  res := fun _ => none
  lend := fun | 16 => true | _ => false
  sch := fun _ => .done
  lt := fun | 2 => [.slot 8 false [.int .i64]] | _ => []
  tup := tups

theorem vc135 (P : Program) (H : Heap) (sA : Option Addr) (sN sC : Nat) (fF : FuncId) (fP : Value) (post : Int → Heap → Prop) :
  vcFn P tab an135 Tryz.f135 [.slice sA sN sC, .func (.func fF) #[] #[fP]] 0 H ⟨false, [(false, [.int .i64])]⟩ post =
  (  ∃ (inv0 : Int → Heap → Prop), ∃ (m1 : Int → Nat), inv0 (0 : Int) H ∧ ∀ (H2 : Heap), Heap.le H H2 → ∀ (n4 : Int), inv0 n4 H2 → (decide (n4 < (↑sN : Int)) = true → someA sA ∧ (0 : Int) ≤ n4 ∧
  n4 < (↑sN : Int) ∧ ∃ (A7 : Option Addr), ∃ (n8 : Nat), ∃ (c9 : Nat), ∃ (n10 : Int), ∃ (n11 : Int), ∃ (A12 : Option Addr), ∃ (n13 : Nat), ∃ (c14 : Nat), Cells H2 sA (Int.toNat n4 * 4)
  [.slice A7 n8 c9, .int .i64 n10, .int .i64 n11, .slice A12 n13 c14] ∧ ∃ (post15 : Bool → Heap → Prop), ConT P fF [.agg ⟨[.slice A7 n8 c9, .int .i64 n10, .int .i64 n11, .slice A12 n13 c14]⟩,
  fP] H2 ⟨false, [(false, [.bool])]⟩ post15 ∧ ∀ (H16 : Heap), Heap.le H2 H16 → ∀ (b18 : Bool), post15 b18 H16 → (b18 = true → post n4 H16) ∧ (b18 = false → rng .i64 (n4 + (1 : Int)) ∧ inv0
  (n4 + (1 : Int)) H16 ∧ m1 (n4 + (1 : Int)) < m1 n4)) ∧ (decide (n4 < (↑sN : Int)) = false → post (-1 : Int) H2)) := by kernel_rfl
theorem IndexFunc_Tup {H : Heap} {A : Option Addr} {n c : Nat} {l : List Tup} {f : FuncId} {q : Value} {p : Tup → Bool} (hs : Sl H A n c l) (hf : PredFn Tryz.prog Tup H f q p) :
    ConT Tryz.prog 135 [.slice A n c, .func (.func f) #[] #[q]] H shI (fun r _ => r = idxOf p 0 l) := by
  refine con_of_vc (an := an135) (fn := Tryz.f135) mix tabOK Tryz.func135 (by kernel_rfl) (extra := 0) ?_
  rw [vc135]
  refine ⟨fun n _ => 0 ≤ n ∧ n ≤ l.length ∧ idxOf p 0 l = idxOf p n (l.drop n.toNat), fun n => l.length - n.toNat, ⟨by omega, by omega, rfl⟩, ?_⟩
  rintro H2 hle i ⟨h0, h1, h2⟩
  simp only [decide_eq_true_eq, decide_eq_false_iff_not]
  refine ⟨fun hlt => ?_, fun hge => ?_⟩
  · obtain ⟨hi, hA, _, hc, hr⟩ := hs.at hle h0 hlt
    have hcon := hf H2 _ _ hle hr
    obtain ⟨A9, n9, c9, B9, m9, d9, rfl, -⟩ := hr
    refine ⟨hA, h0, hlt, _, _, _, _, _, _, _, _, hc, _, hcon, ?_⟩
    rintro H3 _ b rfl
    rw [drop_at h0 hi, idxOf] at h2
    refine ⟨fun hp => ?_, fun hp => ⟨?_, ⟨by omega, by omega, ?_⟩, by omega⟩⟩
    · rw [h2, if_pos hp]
    · have := hs.bn; have := hs.len; simp only [rng]; omega
    · rw [h2, if_neg (by simp [hp])]
  · rw [drop_end hge hs.len, idxOf] at h2
    exact h2.symm
def an99 : Ann where
  res := fun _ => none
  lend := fun | 10 => true | 28 => true | _ => false
  sch := fun _ => .done
  lt := fun | 5 => [.slot 0 false [.row 42 57], .slot 5 false [.int .i64], .slot 6 false [.int .i64]] | _ => []
  tup := tups

theorem vc99 (P : Program) (H : Heap) (delF : FuncId) (delP : Value) (rowN : Nat) (rowXs : List Value) (ri0 : Nat) (post : Nat → List Value → Heap → Prop) :
  vcFnM P tab an99 Tryz.f99 [.slice none 0 0, .func (.func delF) #[] #[delP]] 0 57 rowN rowXs 1 H ⟨false, [(false, [.row ri0 57])]⟩ post =
  (  ∃ (post0 : Int → Heap → Prop), (∀ (A1 : Option Addr) (c2 : Nat) (H3 : Heap), Heap.le H H3 → Cells H3 A1 0 rowXs → rowN ≤ c2 → ConT P 135 [.slice A1 rowN c2, .func (.func delF) ⟨[]⟩
  ⟨[delP]⟩] H3 ⟨false, [(false, [.int .i64])]⟩ post0) ∧ ∀ (H7 : Heap) (n8 : Int), post0 n8 H7 → (decide (n8 = (-1 : Int)) = true → post rowN rowXs H) ∧ (decide (n8 = (-1 : Int)) = false → rng
  .i64 (n8 + (1 : Int)) ∧ ∃ (inv12 : Nat → List Value → Int → Int → Heap → Prop), ∃ (m13 : Nat → List Value → Int → Int → Nat), inv12 rowN rowXs n8 (n8 + (1 : Int)) H ∧ ∀ (H14 : Heap),
  Heap.le H H14 → ∀ (n16 : Nat) (xs17 : List Value) (n18 n19 : Int), inv12 n16 xs17 n18 n19 H14 → (decide (n19 < (↑n16 : Int)) = true → (0 : Int) ≤ n19 ∧ n19 < (↑n16 : Int) ∧ ∃ (A22 : Option
  Addr), ∃ (n23 : Nat), ∃ (c24 : Nat), ∃ (n25 : Int), ∃ (n26 : Int), ∃ (A27 : Option Addr), ∃ (n28 : Nat), ∃ (c29 : Nat), win xs17 (Int.toNat n19 * 4) 4 = [.slice A22 n23 c24, .int .i64 n25,
  .int .i64 n26, .slice A27 n28 c29] ∧ ∃ (post30 : Bool → Heap → Prop), ConT P delF [.agg ⟨[.slice A22 n23 c24, .int .i64 n25, .int .i64 n26, .slice A27 n28 c29]⟩, delP] H14 ⟨false, [(false,
  [.bool])]⟩ post30 ∧ ∀ (H31 : Heap), Heap.le H14 H31 → ∀ (b33 : Bool), post30 b33 H31 → ((!b33) = true → (0 : Int) ≤ n18 ∧ n18 < (↑n16 : Int) ∧ Int.toNat n18 * 4 + 4 ≤ List.length xs17 ∧ rng
  .i64 (n18 + (1 : Int)) ∧ rng .i64 (n19 + (1 : Int)) ∧ inv12 n16 (splice xs17 (Int.toNat n18 * 4) [.slice A22 n23 c24, .int .i64 n25, .int .i64 n26, .slice A27 n28 c29]) (n18 + (1 : Int))
  (n19 + (1 : Int)) H31 ∧ m13 n16 (splice xs17 (Int.toNat n18 * 4) [.slice A22 n23 c24, .int .i64 n25, .int .i64 n26, .slice A27 n28 c29]) (n18 + (1 : Int)) (n19 + (1 : Int)) < m13 n16 xs17
  n18 n19) ∧ ((!b33) = false → rng .i64 (n19 + (1 : Int)) ∧ inv12 n16 xs17 n18 (n19 + (1 : Int)) H31 ∧ m13 n16 xs17 n18 (n19 + (1 : Int)) < m13 n16 xs17 n18 n19)) ∧ (decide (n19 < (↑n16 :
  Int)) = false → (0 : Int) ≤ n18 ∧ n18 ≤ (↑n16 : Int) ∧ (↑n16 : Int) ≤ (↑n16 : Int) ∧ (0 : Int) ≤ (0 : Int) ∧ (0 : Int) ≤ n18 ∧ n18 ≤ (↑n16 : Int) ∧ post (Int.toNat n18 - 0) (List.take
  (List.length (splice xs17 (Int.toNat n18 * 4) (repl [.slice none 0 0, .int .i64 (0 : Int), .int .i64 (0 : Int), .slice none 0 0] (Int.toNat (↑n16 : Int) - Int.toNat n18))) / n16 *
  (Int.toNat n18 - 0)) (splice xs17 (Int.toNat n18 * 4) (repl [.slice none 0 0, .int .i64 (0 : Int), .int .i64 (0 : Int), .slice none 0 0] (Int.toNat (↑n16 : Int) - Int.toNat n18)))) H14))) := by kernel_rfl
theorem DeleteFunc_Tup {H0 H : Heap} {n r : Nat} {xs : List Value} {l : List Tup} {f : FuncId} {q : Value} {p : Tup → Bool} (hle0 : Heap.le H0 H) (hr : Row H0 xs l) (hl : l.length = n) (hb : n * 64 ≤ 140737488355328) (hf : PredFn Tryz.prog Tup H f q p) :
    ConM Tryz.prog 99 [.slice none 0 0, .func (.func f) #[] #[q]] 0 57 n xs false H ⟨false, [(false, [.row r 57])]⟩
      (fun _ => fun k ys _ => k = (l.filter fun x => !p x).length ∧ Row H0 ys (l.filter fun x => !p x)) := by
  refine conM_of_vc (an := an99) (fn := Tryz.f99) mix tabOK Tryz.func99 (by kernel_rfl) (extra := 1) (by simp) ?_
  rw [vc99]
  refine ⟨_, fun A1 c1 H3 l3 hc hn => IndexFunc_Tup (hr.sl (hle_trans hle0 l3) hc hl hn hb (by omega)) (fun H' vs t h1 h2 => hf H' vs t (hle_trans l3 h1) h2), ?_⟩
  rintro H7 i0 rfl
  rcases idxOf_spec p l 0 (by omega) with ⟨h1, h2⟩ | ⟨k0, h1, h2, h3⟩
  · refine ⟨fun _ => ⟨by rw [h2, hl], by rw [h2]; exact hr⟩, fun he => ?_⟩
    have := of_decide_eq_false he
    exact absurd h1 this
  rw [h1]
  refine ⟨fun he => by have := of_decide_eq_true he; omega, fun he => ⟨by simp only [rng]; omega, ?_⟩⟩
  refine ⟨fun k ys i j _ => k = n ∧ 0 ≤ i ∧ i < j ∧ j ≤ n ∧ ∃ cur : List Tup, Row H0 ys cur ∧ cur.length = n ∧ cur.take i.toNat = (l.take j.toNat).filter (fun x => !p x) ∧ cur.drop j.toNat = l.drop j.toNat,
    fun _ _ _ j => n - j.toNat, ⟨rfl, by omega, by omega, by omega, l, hr, hl, by rw [show ((0 : Int) + k0 + 1).toNat = k0 + 1 by omega, h3]; congr 1; omega, rfl⟩, ?_⟩
  rintro H14 l14 k ys i j ⟨rfl, i0, hij, hjn, cur, hc, hcl, ht, hd⟩
  have hyl := hc.length
  refine ⟨fun hlt => ?_, fun hge => ?_⟩
  · have hlt := of_decide_eq_true hlt
    have hj : j.toNat < cur.length := by omega
    have hj' : j.toNat < l.length := by omega
    have hcj : cur[j.toNat] = l[j.toNat] := by
      have := congrArg (fun x => x[0]?) hd
      simp only [List.getElem?_drop, Nat.add_zero] at this
      rw [List.getElem?_eq_getElem hj, List.getElem?_eq_getElem hj'] at this
      simpa using this
    have hw := hc.getw hj
    rw [hcj] at hw
    have hset := hc.setw (i := i.toNat) (by omega) hw
    have hcon := hf H14 _ _ l14 (Rep.mono (hle_trans hle0 l14) hw)
    have hsu := filter_take_succ p hj'
    have e1 : (j + 1).toNat = j.toNat + 1 := by omega
    have hdr : cur.drop (j.toNat + 1) = l.drop (j.toNat + 1) := by
      rw [← List.drop_drop, ← List.drop_drop, hd]
    generalize hwv : win ys (j.toNat * Rep.sz Tup) (Rep.sz Tup) = wv at hw hset hcon
    obtain ⟨A9, n9, c9, B9, m9, d9, rfl, -⟩ := hw
    refine ⟨by omega, hlt, _, _, _, _, _, _, _, _, rfl, _, hcon, ?_⟩
    rintro H34 l34 _ rfl
    refine ⟨fun hp => ?_, fun hp => ?_⟩
    · have hp : p l[j.toNat] = false := by simpa using hp
      rw [if_neg (by simp [hp])] at hsu
      refine ⟨i0, by omega, ?_, by simp only [rng]; omega, by simp only [rng]; omega, ⟨rfl, by omega, by omega, by omega, cur.set i.toNat l[j.toNat], hset, by simpa using hcl, ?_, ?_⟩, by dsimp only; omega⟩
      · rw [hyl]
        show i.toNat * 4 + 4 ≤ cur.length * 4
        omega
      · rw [e1, hsu, ← ht, show (i + 1).toNat = i.toNat + 1 by omega, List.take_succ_eq_append_getElem (by simp; omega), List.take_set_of_le (by omega)]
        simp
      · rw [e1, List.drop_set_of_lt (by omega), hdr]
    · have hp : p l[j.toNat] = true := by simpa using hp
      rw [if_pos hp, List.append_nil] at hsu
      exact ⟨by simp only [rng]; omega, ⟨rfl, i0, by omega, by omega, cur, hc, hcl, by rw [e1, hsu]; exact ht, by rw [e1]; exact hdr⟩, by dsimp only; omega⟩
  · have hge := of_decide_eq_false hge
    rw [List.take_of_length_le (by omega : l.length ≤ j.toNat)] at ht
    have hil : i.toNat = (l.filter fun x => !p x).length := by
      rw [← ht, List.length_take]; omega
    have hfin := cut_splice (Z := repl [.slice none 0 0, .int .i64 0, .int .i64 0, .slice none 0 0] (Int.toNat (k : Int) - i.toNat)) hc hcl (i := i.toNat) (by omega) (by rw [repl_length]; simp only [Int.toNat_natCast]; rfl)
    refine ⟨i0, by omega, by omega, by omega, i0, by omega, by omega, ?_⟩
    rw [← ht]
    exact hfin
end Go.Vc
/- Sets of periods: intersections, differences, normal forms. -/
namespace Go.Vc
open Go Go.Proofs Go.Shelf
def an102 : Ann where
  res := fun _ => none
  lend := fun | 19 => true | 23 => true | _ => false
  sch := fun _ => .done
  lt := fun _ => []
  tup := tups

theorem vc102 (P : Program) (H : Heap) (aFrom : Int) (aTo : Int) (bFrom : Int) (bTo : Int) (post : Int → Int → Bool → Heap → Prop) :
  vcFn P tab an102 Tryz.f102 [.agg #[.int .i64 aFrom, .int .i64 aTo], .agg #[.int .i64 bFrom, .int .i64 bTo]] 0 H ⟨true, [(true, [.int .i64, .int .i64]), (false, [.bool])]⟩ post =
  (  ∃ (post0 : Bool → Heap → Prop), ConT P 50 [.agg ⟨[.int .i64 aFrom, .int .i64 aTo]⟩] H ⟨false, [(false, [.bool])]⟩ post0 ∧ ∀ (H1 : Heap), Heap.le H H1 → ∀ (b3 : Bool), post0 b3 H1 → ((!b3) =
  true → post (0 : Int) (0 : Int) false H1) ∧ ((!b3) = false → ∃ (post7 : Bool → Heap → Prop), ConT P 50 [.agg ⟨[.int .i64 bFrom, .int .i64 bTo]⟩] H1 ⟨false, [(false, [.bool])]⟩ post7 ∧ ∀ (H8
  : Heap), Heap.le H1 H8 → ∀ (b10 : Bool), post7 b10 H8 → ((!b10) = true → post (0 : Int) (0 : Int) false H8) ∧ ((!b10) = false → (decide (min aTo bTo ≤ max aFrom bFrom) = true → post (0 :
  Int) (0 : Int) false H8) ∧ (decide (min aTo bTo ≤ max aFrom bFrom) = false → post (max aFrom bFrom) (min aTo bTo) true H8)))) := by kernel_rfl
theorem period_Intersect {a b c d : Int} {H : Heap} : ConT Tryz.prog 102 [.agg ⟨[.int .i64 a, .int .i64 b]⟩, .agg ⟨[.int .i64 c, .int .i64 d]⟩] H ⟨true, [(true, [.int .i64, .int .i64]), (false, [.bool])]⟩
    (fun x y r _ => r = perHit ⟨a, b⟩ ⟨c, d⟩ ∧ (r = true → x = (perInt ⟨a, b⟩ ⟨c, d⟩).lo ∧ y = (perInt ⟨a, b⟩ ⟨c, d⟩).hi) ∧ (r = false → x = 0 ∧ y = 0)) := by
  refine con_of_vc (an := an102) (fn := Tryz.f102) mix tabOK Tryz.func102 (by kernel_rfl) (extra := 0) ?_
  rw [vc102]
  refine ⟨_, period_Valid, ?_⟩
  rintro H1 _ _ rfl
  refine ⟨fun h => ?_, fun h => ⟨_, period_Valid, ?_⟩⟩
  · grind [perHit]
  rintro H2 _ _ rfl
  grind [perHit, perInt]
def same {T : Type} [DecidableEq T] : List T → List T → Bool := fun a b => decide (a = b)
theorem row1 {H : Heap} (p : Per) (h1 : rng .i64 p.lo) (h2 : rng .i64 p.hi) : Row H [.int .i64 p.lo, .int .i64 p.hi] [p] := Row.one ⟨rfl, h1, h2⟩
section
variable {H : Heap} {A B : Option Addr} {n c m d : Nat} {l k : List Per}
def an68 : Ann where
  res := fun _ => none
  lend := fun _ => false
  sch := fun _ => .done
  lt := fun | 4 => [.slot 5 false [.row 66 51], .slot 16 false [.int .i64]] | 8 => [.slot 5 false [.row 67 51], .slot 8 false [.int .i64], .slot 24 false [.int .i64]] | _ => []
  tup := tups

theorem vc68 (P : Program) (H : Heap) (aA : Option Addr) (aN aC : Nat) (p1A : Option Addr) (p1N p1C : Nat) (post : Option Addr → Nat → Nat → Heap → Prop) :
  vcFn P tab an68 Tryz.f68 [.slice aA aN aC, .slice p1A p1N p1C] 2 H ⟨false, [(false, [.sl])]⟩ post =
  (  ∃ (post0 : Option Addr → Nat → Nat → Heap → Prop), ConT P 33 [.slice p1A p1N p1C] H ⟨false, [(false, [.sl])]⟩ post0 ∧ ∀ (H1 : Heap), Heap.le H H1 → ∀ (A3 : Option Addr) (n4 c5 : Nat), post0
  A3 n4 c5 H1 → ∃ (post7 : Option Addr → Nat → Nat → Heap → Prop), ConT P 33 [.slice aA aN aC] H1 ⟨false, [(false, [.sl])]⟩ post7 ∧ ∀ (H8 : Heap), Heap.le H1 H8 → ∀ (A10 : Option Addr) (n11
  c12 : Nat), post7 A10 n11 c12 H8 → ∃ (inv14 : Nat → List Value → Int → Heap → Prop), ∃ (m15 : Nat → List Value → Int → Nat), inv14 0 [] (0 : Int) H8 ∧ ∀ (H16 : Heap), Heap.le H8 H16 → ∀
  (n18 : Nat) (xs19 : List Value) (n20 : Int), inv14 n18 xs19 n20 H16 → (decide (n20 < (↑n11 : Int)) = true → someA A10 ∧ (0 : Int) ≤ n20 ∧ n20 < (↑n11 : Int) ∧ ∃ (n23 : Int), ∃ (n24 : Int),
  Cells H16 A10 (Int.toNat n20 * 2) [.int .i64 n23, .int .i64 n24] ∧ ∃ (inv25 : Nat → List Value → Int → Int → Heap → Prop), ∃ (m26 : Nat → List Value → Int → Int → Nat), inv25 n18 xs19 n23
  (0 : Int) H16 ∧ ∀ (H27 : Heap), Heap.le H16 H27 → ∀ (n29 : Nat) (xs30 : List Value) (n31 n32 : Int), inv25 n29 xs30 n31 n32 H27 → (decide (n32 < (↑n4 : Int)) = true → someA A3 ∧ (0 : Int) ≤
  n32 ∧ n32 < (↑n4 : Int) ∧ ∃ (n35 : Int), ∃ (n36 : Int), Cells H27 A3 (Int.toNat n32 * 2) [.int .i64 n35, .int .i64 n36] ∧ (decide (n36 ≤ n31) = true → rng .i64 (n32 + (1 : Int)) ∧ inv25 n29
  xs30 n31 (n32 + (1 : Int)) H27 ∧ m26 n29 xs30 n31 (n32 + (1 : Int)) < m26 n29 xs30 n31 n32) ∧ (decide (n36 ≤ n31) = false → (decide (n24 ≤ n35) = true → rng .i64 (n32 + (1 : Int)) ∧ inv25
  n29 xs30 n31 (n32 + (1 : Int)) H27 ∧ m26 n29 xs30 n31 (n32 + (1 : Int)) < m26 n29 xs30 n31 n32) ∧ (decide (n24 ≤ n35) = false → (decide (n31 < n35) = true → (n29 + 1) * 16 ≤ 140737488355328
  ∧ rng .i64 (n32 + (1 : Int)) ∧ inv25 (n29 + 1) (xs30 ++ [.int .i64 n31, .int .i64 n35]) n36 (n32 + (1 : Int)) H27 ∧ m26 (n29 + 1) (xs30 ++ [.int .i64 n31, .int .i64 n35]) n36 (n32 + (1 :
  Int)) < m26 n29 xs30 n31 n32) ∧ (decide (n31 < n35) = false → rng .i64 (n32 + (1 : Int)) ∧ inv25 n29 xs30 n36 (n32 + (1 : Int)) H27 ∧ m26 n29 xs30 n36 (n32 + (1 : Int)) < m26 n29 xs30 n31
  n32)))) ∧ (decide (n32 < (↑n4 : Int)) = false → (decide (n31 < n24) = true → (n29 + 1) * 16 ≤ 140737488355328 ∧ rng .i64 (n20 + (1 : Int)) ∧ inv14 (n29 + 1) (xs30 ++ [.int .i64 n31, .int
  .i64 n24]) (n20 + (1 : Int)) H27 ∧ m15 (n29 + 1) (xs30 ++ [.int .i64 n31, .int .i64 n24]) (n20 + (1 : Int)) < m15 n18 xs19 n20) ∧ (decide (n31 < n24) = false → rng .i64 (n20 + (1 : Int)) ∧
  inv14 n29 xs30 (n20 + (1 : Int)) H27 ∧ m15 n29 xs30 (n20 + (1 : Int)) < m15 n18 xs19 n20))) ∧ (decide (n20 < (↑n11 : Int)) = false → ∀ (A47 : Option Addr) (c48 : Nat) (H49 : Heap), Heap.le
  H16 H49 → Cells H49 A47 0 xs19 → n18 ≤ c48 → post A47 n18 c48 H49)) := by kernel_rfl
set_option maxHeartbeats 1000000 in
theorem periodset_Subtract (hs : Sl H A n c l) (ht : Sl H B m d k) : ConT Tryz.prog 68 [.slice A n c, .slice B m d] H shS (fun A' n' c' H' => Sl H' A' n' c' (diff l k)) := by
  refine con_of_vc (an := an68) (fn := Tryz.f68) mix tabOK Tryz.func68 (by kernel_rfl) (extra := 2) ?_
  rw [vc68]
  refine ⟨_, periodset_Normalize ht, ?_⟩
  intro H1 l1 A1 n1 c1 h1
  refine ⟨_, periodset_Normalize (hs.mono l1), ?_⟩
  intro H2 l2 A2 n2 c2 h2
  have h1 := h1.mono l2
  have b1 := h1.bn; have b2 := h1.len; have b3 := h2.bn; have b4 := h2.len
  have hbd := nrm_bnd (diff_nrm l k)
  have hok1 := nrmGo_ok (norm_nrm l); have hok2 := nrmGo_ok (norm_nrm k)
  have hmx : maxT = 1099511627776 := rfl
  generalize hR : diff l k = R at hbd
  refine ⟨fun u xs i H' => 0 ≤ i ∧ i ≤ n2 ∧ ∃ out : List Per, Row H' xs out ∧ out.length = u ∧ R = out ++ cutAll ((norm l).drop i.toNat) (norm k), fun _ _ i => n2 - i.toNat, ⟨by omega, by omega, [], rfl, rfl, by rw [← hR]; rfl⟩, ?_⟩
  rintro H3 l3 u xs i ⟨i0, i1, out, hr, hu, he⟩
  refine ⟨fun hlt => ?_, fun hge => ?_⟩
  · have hlt := of_decide_eq_true hlt
    obtain ⟨hi, hA, _, hc, ⟨rfl, r1, r2⟩⟩ := h2.at l3 i0 hlt
    have o1 := hok1 _ (List.getElem_mem hi)
    rw [drop_at i0 hi] at he
    generalize (norm l)[i.toNat] = p at hc r1 r2 o1 he
    refine ⟨hA, i0, hlt, _, _, hc, fun u xs t j H' => 0 ≤ j ∧ j ≤ n1 ∧ 0 ≤ t ∧ t ≤ maxT ∧ ∃ out : List Per, Row H' xs out ∧ out.length = u ∧ R = out ++ cut t p.hi ((norm k).drop j.toNat) ++ cutAll ((norm l).drop (i + 1).toNat) (norm k), fun _ _ _ j => n1 - j.toNat,
      ⟨by omega, by omega, by omega, by omega, out, hr, hu, by rw [he, cutAll, List.flatMap_cons]; simp [cutAll]⟩, ?_⟩
    rintro H4 l4 u4 xs4 t j ⟨j0, j1, t0, t1, out4, hr4, hu4, he4⟩
    refine ⟨fun jlt => ?_, fun jge => ?_⟩
    · have jlt := of_decide_eq_true jlt
      obtain ⟨ji, jA, _, jc, ⟨rfl, q1, q2⟩⟩ := h1.at (hle_trans l3 l4) j0 jlt
      have o2 := hok2 _ (List.getElem_mem ji)
      rw [drop_at j0 ji, cut] at he4
      generalize (norm k)[j.toNat] = q at jc q1 q2 o2 he4
      have skip : (q.hi ≤ t ∨ p.hi ≤ q.lo) → rng .i64 (j + 1) ∧ (0 ≤ j + 1 ∧ j + 1 ≤ n1 ∧ 0 ≤ t ∧ t ≤ maxT ∧ ∃ out : List Per, Row H4 xs4 out ∧ out.length = u4 ∧ R = out ++ cut t p.hi ((norm k).drop (j + 1).toNat) ++ cutAll ((norm l).drop (i + 1).toNat) (norm k)) ∧ n1 - (j + 1).toNat < n1 - j.toNat := by
        intro h
        rw [if_pos h] at he4
        exact ⟨by simp only [rng]; omega, ⟨by omega, by omega, t0, t1, out4, hr4, hu4, he4⟩, by omega⟩
      refine ⟨jA, j0, jlt, _, _, jc, fun a => skip (.inl (of_decide_eq_true a)), fun a => ⟨fun b => skip (.inr (of_decide_eq_true b)), fun b => ?_⟩⟩
      have a := of_decide_eq_false a; have b := of_decide_eq_false b
      rw [if_neg (by omega)] at he4
      refine ⟨fun e => ?_, fun e => ?_⟩
      · have e := of_decide_eq_true e
        rw [if_pos e] at he4
        have hl := congrArg List.length he4
        simp only [List.length_append, List.length_cons] at hl
        refine ⟨by omega, by simp only [rng]; omega, ⟨by omega, by omega, by omega, by omega, out4 ++ [⟨t, q.lo⟩], hr4.append (Row.one (T := Per) (t := (⟨t, q.lo⟩ : Per)) ⟨rfl, by simp only [rng]; omega, q1⟩), by simp [hu4], ?_⟩, by dsimp only; omega⟩
        rw [he4]; simp
      · have e := of_decide_eq_false e
        rw [if_neg e, List.nil_append] at he4
        exact ⟨by simp only [rng]; omega, ⟨by omega, by omega, by omega, by omega, out4, hr4, hu4, he4⟩, by dsimp only; omega⟩
    · rw [drop_end (of_decide_eq_false jge) b2, cut] at he4
      refine ⟨fun e => ?_, fun e => ?_⟩
      · have e := of_decide_eq_true e
        rw [if_pos e] at he4
        have hl := congrArg List.length he4
        simp only [List.length_append, List.length_cons] at hl
        refine ⟨by omega, by simp only [rng]; omega, ⟨by omega, by omega, out4 ++ [⟨t, p.hi⟩], hr4.append (Row.one (T := Per) (t := (⟨t, p.hi⟩ : Per)) ⟨rfl, by simp only [rng]; omega, r2⟩), by simp [hu4], he4⟩, by dsimp only; omega⟩
      · have e := of_decide_eq_false e
        rw [if_neg e, List.append_nil] at he4
        exact ⟨by simp only [rng]; omega, ⟨by omega, by omega, out4, hr4, hu4, he4⟩, by dsimp only; omega⟩
  · rw [drop_end (of_decide_eq_false hge) b4] at he
    intro A5 c5 H5 l5 hc5 hn5
    have : R = out := by rw [he]; simp [cutAll]
    rw [this] at hbd ⊢
    exact hr.sl l5 hc5 hu hn5 (by show u * 16 ≤ _; omega) (by omega)
end
section
variable {H : Heap} {A B : Option Addr} {n c m d : Nat} {l k : List Per}
theorem Sl.tail {T : Type} [Rep T] {H : Heap} {A : Option Addr} {n c : Nat} {x : T} {r : List T} (h : Sl H A n c (x :: r)) : Sl H (subA A c 1 (Rep.sz T)) (n - 1) (c - 1) r := by
  have := h.len
  simp only [List.length_cons] at this
  exact h.drop (k := 1) (by omega)
theorem Sl.pos {T : Type} [Rep T] {H : Heap} {A : Option Addr} {n c : Nat} {l : List T} (h : Sl H A n c l) (hn : (0 : Int) < n) : ∃ x r, l = x :: r := by
  cases l with
  | nil => have := h.len; simp at this; omega
  | cons x r => exact ⟨x, r, rfl⟩
def an70 : Ann where
  res := fun _ => none
  lend := fun _ => false
  sch := fun | 4 => (tk [0, 1, 2, 3, 4, 5] (.alt 6 (tk [7, 8, 9] (.alt 10 (.alt 11 (tk [12] .done) .fin) .fin)) (.alt 10 (.alt 6 (tk [7, 8, 9] (.alt 11 (tk [12] .done) .fin)) .fin) .fin))) | 7 => (tk [0, 1, 2, 3, 4, 5, 6, 7, 8] .done) | _ => .done
  lt := fun | 3 => [.slot 0 false [.sl], .slot 1 false [.sl], .slot 5 false [.row 50 51]] | _ => []
  tup := tups

theorem vc70 (P : Program) (H : Heap) (aA : Option Addr) (aN aC : Nat) (bA : Option Addr) (bN bC : Nat) (post : Option Addr → Nat → Nat → Heap → Prop) :
  vcFn P tab an70 Tryz.f70 [.slice aA aN aC, .slice bA bN bC] 1 H ⟨false, [(false, [.sl])]⟩ post =
  (  ∃ (post0 : Option Addr → Nat → Nat → Heap → Prop), ConT P 33 [.slice aA aN aC] H ⟨false, [(false, [.sl])]⟩ post0 ∧ ∀ (H1 : Heap), Heap.le H H1 → ∀ (A3 : Option Addr) (n4 c5 : Nat), post0 A3
  n4 c5 H1 → ∃ (post7 : Option Addr → Nat → Nat → Heap → Prop), ConT P 33 [.slice bA bN bC] H1 ⟨false, [(false, [.sl])]⟩ post7 ∧ ∀ (H8 : Heap), Heap.le H1 H8 → ∀ (A10 : Option Addr) (n11 c12
  : Nat), post7 A10 n11 c12 H8 → ∃ (inv14 : Option Addr → Nat → Nat → Option Addr → Nat → Nat → Nat → List Value → Heap → Prop), ∃ (m15 : Option Addr → Nat → Nat → Option Addr → Nat → Nat →
  Nat → List Value → Nat), inv14 A3 n4 c5 A10 n11 c12 0 [] H8 ∧ ∀ (H16 : Heap), Heap.le H8 H16 → ∀ (A18 : Option Addr) (n19 c20 : Nat) (A21 : Option Addr) (n22 c23 n24 : Nat) (xs25 : List
  Value), inv14 A18 n19 c20 A21 n22 c23 n24 xs25 H16 → (decide ((0 : Int) < (↑n19 : Int)) = true → (decide ((0 : Int) < (↑n22 : Int)) = true → someA A18 ∧ (0 : Int) ≤ (0 : Int) ∧ (0 : Int) <
  (↑n19 : Int) ∧ ∃ (n29 : Int), ∃ (n30 : Int), Cells H16 A18 (Int.toNat (0 : Int) * 2) [.int .i64 n29, .int .i64 n30] ∧ someA A21 ∧ (0 : Int) ≤ (0 : Int) ∧ (0 : Int) < (↑n22 : Int) ∧ ∃ (n31 :
  Int), ∃ (n32 : Int), Cells H16 A21 (Int.toNat (0 : Int) * 2) [.int .i64 n31, .int .i64 n32] ∧ (∃ (post33 : Int → Int → Bool → Heap → Prop), ConT P 102 [.agg ⟨[.int .i64 n29, .int .i64
  n30]⟩, .agg ⟨[.int .i64 n31, .int .i64 n32]⟩] H16 ⟨true, [(true, [.int .i64, .int .i64]), (false, [.bool])]⟩ post33 ∧ ∀ (H34 : Heap), Heap.le H16 H34 → ∀ (n36 n37 : Int) (b38 : Bool),
  post33 n36 n37 b38 H34 → (b38 = true → (n24 + 1) * 16 ≤ 140737488355328 ∧ someA A18 ∧ (0 : Int) ≤ (0 : Int) ∧ (0 : Int) < (↑n19 : Int) ∧ ∃ (n41 : Int), Cells H34 A18 (Int.toNat (0 : Int) *
  2 + 1) [.int .i64 n41] ∧ someA A21 ∧ (0 : Int) ≤ (0 : Int) ∧ (0 : Int) < (↑n22 : Int) ∧ ∃ (n42 : Int), Cells H34 A21 (Int.toNat (0 : Int) * 2 + 1) [.int .i64 n42] ∧ (decide (n41 < n42) =
  true → (0 : Int) ≤ (1 : Int) ∧ (1 : Int) ≤ (↑n19 : Int) ∧ (↑n19 : Int) ≤ (↑c20 : Int) ∧ ∀ (A44 : Option Addr), A44 = subA A18 c20 (Int.toNat (1 : Int)) 2 → inv14 A44 (Int.toNat (↑n19 : Int)
  - Int.toNat (1 : Int)) (c20 - Int.toNat (1 : Int)) A21 n22 c23 (n24 + 1) (xs25 ++ [.int .i64 n36, .int .i64 n37]) H34 ∧ m15 A44 (Int.toNat (↑n19 : Int) - Int.toNat (1 : Int)) (c20 -
  Int.toNat (1 : Int)) A21 n22 c23 (n24 + 1) (xs25 ++ [.int .i64 n36, .int .i64 n37]) < m15 A18 n19 c20 A21 n22 c23 n24 xs25) ∧ (decide (n41 < n42) = false → (0 : Int) ≤ (1 : Int) ∧ (1 : Int)
  ≤ (↑n22 : Int) ∧ (↑n22 : Int) ≤ (↑c23 : Int) ∧ ∀ (A47 : Option Addr), A47 = subA A21 c23 (Int.toNat (1 : Int)) 2 → inv14 A18 n19 c20 A47 (Int.toNat (↑n22 : Int) - Int.toNat (1 : Int)) (c23
  - Int.toNat (1 : Int)) (n24 + 1) (xs25 ++ [.int .i64 n36, .int .i64 n37]) H34 ∧ m15 A18 n19 c20 A47 (Int.toNat (↑n22 : Int) - Int.toNat (1 : Int)) (c23 - Int.toNat (1 : Int)) (n24 + 1)
  (xs25 ++ [.int .i64 n36, .int .i64 n37]) < m15 A18 n19 c20 A21 n22 c23 n24 xs25)) ∧ (b38 = false → someA A18 ∧ (0 : Int) ≤ (0 : Int) ∧ (0 : Int) < (↑n19 : Int) ∧ ∃ (n50 : Int), Cells H34
  A18 (Int.toNat (0 : Int) * 2 + 1) [.int .i64 n50] ∧ someA A21 ∧ (0 : Int) ≤ (0 : Int) ∧ (0 : Int) < (↑n22 : Int) ∧ ∃ (n51 : Int), Cells H34 A21 (Int.toNat (0 : Int) * 2 + 1) [.int .i64 n51]
  ∧ (decide (n50 < n51) = true → (0 : Int) ≤ (1 : Int) ∧ (1 : Int) ≤ (↑n19 : Int) ∧ (↑n19 : Int) ≤ (↑c20 : Int) ∧ ∀ (A53 : Option Addr), A53 = subA A18 c20 (Int.toNat (1 : Int)) 2 → inv14 A53
  (Int.toNat (↑n19 : Int) - Int.toNat (1 : Int)) (c20 - Int.toNat (1 : Int)) A21 n22 c23 n24 xs25 H34 ∧ m15 A53 (Int.toNat (↑n19 : Int) - Int.toNat (1 : Int)) (c20 - Int.toNat (1 : Int)) A21
  n22 c23 n24 xs25 < m15 A18 n19 c20 A21 n22 c23 n24 xs25) ∧ (decide (n50 < n51) = false → (0 : Int) ≤ (1 : Int) ∧ (1 : Int) ≤ (↑n22 : Int) ∧ (↑n22 : Int) ≤ (↑c23 : Int) ∧ ∀ (A56 : Option
  Addr), A56 = subA A21 c23 (Int.toNat (1 : Int)) 2 → inv14 A18 n19 c20 A56 (Int.toNat (↑n22 : Int) - Int.toNat (1 : Int)) (c23 - Int.toNat (1 : Int)) n24 xs25 H34 ∧ m15 A18 n19 c20 A56
  (Int.toNat (↑n22 : Int) - Int.toNat (1 : Int)) (c23 - Int.toNat (1 : Int)) n24 xs25 < m15 A18 n19 c20 A21 n22 c23 n24 xs25))) ∧ ∃ (post58 : Int → Int → Bool → Heap → Prop), ConT P 102 [.agg
  ⟨[.int .i64 n29, .int .i64 n30]⟩, .agg ⟨[.int .i64 n31, .int .i64 n32]⟩] H16 ⟨true, [(true, [.int .i64, .int .i64]), (false, [.bool])]⟩ post58 ∧ ∀ (H59 : Heap), Heap.le H16 H59 → ∀ (n61 n62
  : Int) (b63 : Bool), post58 n61 n62 b63 H59 → (b63 = true → (n24 + 1) * 16 ≤ 140737488355328 ∧ someA A18 ∧ (0 : Int) ≤ (0 : Int) ∧ (0 : Int) < (↑n19 : Int) ∧ ∃ (n66 : Int), Cells H59 A18
  (Int.toNat (0 : Int) * 2 + 1) [.int .i64 n66] ∧ someA A21 ∧ (0 : Int) ≤ (0 : Int) ∧ (0 : Int) < (↑n22 : Int) ∧ ∃ (n67 : Int), Cells H59 A21 (Int.toNat (0 : Int) * 2 + 1) [.int .i64 n67] ∧
  (decide (n66 < n67) = true → (0 : Int) ≤ (1 : Int) ∧ (1 : Int) ≤ (↑n19 : Int) ∧ (↑n19 : Int) ≤ (↑c20 : Int) ∧ ∀ (A69 : Option Addr), A69 = subA A18 c20 (Int.toNat (1 : Int)) 2 → inv14 A69
  (Int.toNat (↑n19 : Int) - Int.toNat (1 : Int)) (c20 - Int.toNat (1 : Int)) A21 n22 c23 (n24 + 1) (xs25 ++ [.int .i64 n61, .int .i64 n62]) H59 ∧ m15 A69 (Int.toNat (↑n19 : Int) - Int.toNat
  (1 : Int)) (c20 - Int.toNat (1 : Int)) A21 n22 c23 (n24 + 1) (xs25 ++ [.int .i64 n61, .int .i64 n62]) < m15 A18 n19 c20 A21 n22 c23 n24 xs25) ∧ (decide (n66 < n67) = false → (0 : Int) ≤ (1
  : Int) ∧ (1 : Int) ≤ (↑n22 : Int) ∧ (↑n22 : Int) ≤ (↑c23 : Int) ∧ ∀ (A72 : Option Addr), A72 = subA A21 c23 (Int.toNat (1 : Int)) 2 → inv14 A18 n19 c20 A72 (Int.toNat (↑n22 : Int) -
  Int.toNat (1 : Int)) (c23 - Int.toNat (1 : Int)) (n24 + 1) (xs25 ++ [.int .i64 n61, .int .i64 n62]) H59 ∧ m15 A18 n19 c20 A72 (Int.toNat (↑n22 : Int) - Int.toNat (1 : Int)) (c23 - Int.toNat
  (1 : Int)) (n24 + 1) (xs25 ++ [.int .i64 n61, .int .i64 n62]) < m15 A18 n19 c20 A21 n22 c23 n24 xs25)) ∧ (b63 = false → someA A18 ∧ (0 : Int) ≤ (0 : Int) ∧ (0 : Int) < (↑n19 : Int) ∧ ∃ (n75
  : Int), Cells H59 A18 (Int.toNat (0 : Int) * 2 + 1) [.int .i64 n75] ∧ someA A21 ∧ (0 : Int) ≤ (0 : Int) ∧ (0 : Int) < (↑n22 : Int) ∧ ∃ (n76 : Int), Cells H59 A21 (Int.toNat (0 : Int) * 2 +
  1) [.int .i64 n76] ∧ (decide (n75 < n76) = true → (0 : Int) ≤ (1 : Int) ∧ (1 : Int) ≤ (↑n19 : Int) ∧ (↑n19 : Int) ≤ (↑c20 : Int) ∧ ∀ (A78 : Option Addr), A78 = subA A18 c20 (Int.toNat (1 :
  Int)) 2 → inv14 A78 (Int.toNat (↑n19 : Int) - Int.toNat (1 : Int)) (c20 - Int.toNat (1 : Int)) A21 n22 c23 n24 xs25 H59 ∧ m15 A78 (Int.toNat (↑n19 : Int) - Int.toNat (1 : Int)) (c20 -
  Int.toNat (1 : Int)) A21 n22 c23 n24 xs25 < m15 A18 n19 c20 A21 n22 c23 n24 xs25) ∧ (decide (n75 < n76) = false → (0 : Int) ≤ (1 : Int) ∧ (1 : Int) ≤ (↑n22 : Int) ∧ (↑n22 : Int) ≤ (↑c23 :
  Int) ∧ ∀ (A81 : Option Addr), A81 = subA A21 c23 (Int.toNat (1 : Int)) 2 → inv14 A18 n19 c20 A81 (Int.toNat (↑n22 : Int) - Int.toNat (1 : Int)) (c23 - Int.toNat (1 : Int)) n24 xs25 H59 ∧
  m15 A18 n19 c20 A81 (Int.toNat (↑n22 : Int) - Int.toNat (1 : Int)) (c23 - Int.toNat (1 : Int)) n24 xs25 < m15 A18 n19 c20 A21 n22 c23 n24 xs25))) ∧ (decide ((0 : Int) < (↑n22 : Int)) =
  false → ∀ (A84 : Option Addr) (c85 : Nat) (H86 : Heap), Heap.le H16 H86 → Cells H86 A84 0 xs25 → n24 ≤ c85 → ∃ (post90 : Option Addr → Nat → Nat → Heap → Prop), ConT P 33 [.slice A84 n24
  c85] H86 ⟨false, [(false, [.sl])]⟩ post90 ∧ ∀ (H91 : Heap), Heap.le H86 H91 → ∀ (A93 : Option Addr) (n94 c95 : Nat), post90 A93 n94 c95 H91 → post A93 n94 c95 H91)) ∧ (decide ((0 : Int) <
  (↑n19 : Int)) = false → ∀ (A98 : Option Addr) (c99 : Nat) (H100 : Heap), Heap.le H16 H100 → Cells H100 A98 0 xs25 → n24 ≤ c99 → ∃ (post104 : Option Addr → Nat → Nat → Heap → Prop), ConT P
  33 [.slice A98 n24 c99] H100 ⟨false, [(false, [.sl])]⟩ post104 ∧ ∀ (H105 : Heap), Heap.le H100 H105 → ∀ (A107 : Option Addr) (n108 c109 : Nat), post104 A107 n108 c109 H105 → post A107 n108
  c109 H105)) := by kernel_rfl
set_option maxHeartbeats 2000000 in
theorem periodset_Intersect (hs : Sl H A n c l) (ht : Sl H B m d k) : ConT Tryz.prog 70 [.slice A n c, .slice B m d] H shS (fun A' n' c' H' => Sl H' A' n' c' (isect l k)) := by
  refine con_of_vc (an := an70) (fn := Tryz.f70) mix tabOK Tryz.func70 (by kernel_rfl) (extra := 1) ?_
  rw [vc70]
  refine ⟨_, periodset_Normalize hs, ?_⟩
  intro H1 l1 A1 n1 c1 h1
  refine ⟨_, periodset_Normalize (ht.mono l1), ?_⟩
  intro H2 l2 A2 n2 c2 h2
  have h1 := h1.mono l2
  have hz := zipI2_isect l k
  have hzl := zipI2_length ((norm l).length + (norm k).length) (norm l) (norm k)
  have hb1 := nrm_len2 (norm_nrm l); have hb2 := nrm_len2 (norm_nrm k)
  have hok1 := nrmGo_ok (norm_nrm l); have hok2 := nrmGo_ok (norm_nrm k)
  generalize hZ : zipI2 ((norm l).length + (norm k).length) (norm l) (norm k) = Z at hz hzl
  have hmx : maxT = 1099511627776 := rfl
  refine ⟨fun A n c B m d u xs H' => ∃ a b out : List Per, Sl H' A n c a ∧ Sl H' B m d b ∧ (∀ p ∈ a, 0 ≤ p.lo ∧ p.lo < p.hi ∧ p.hi ≤ maxT) ∧ (∀ p ∈ b, 0 ≤ p.lo ∧ p.lo < p.hi ∧ p.hi ≤ maxT) ∧ Row H' xs out ∧ out.length = u ∧ Z = out ++ zipI2 (a.length + b.length) a b,
    fun _ n _ _ m _ _ _ => n + m, ⟨norm l, norm k, [], h1, h2, fun p hp => (hok1 p hp).2, fun p hp => (hok2 p hp).2, rfl, rfl, by rw [← hZ]; rfl⟩, ?_⟩
  rintro H3 l3 A3 n3 c3 B3 m3 d3 u xs ⟨a, b, out, ha, hb, hoka, hokb, hr, hu, he⟩
  have fin : ∀ {n3 : Nat} {m3 : Nat}, (n3 = 0 ∨ m3 = 0) → a.length = n3 → b.length = m3 → ∀ (A98 : Option Addr) (c99 : Nat) (H100 : Heap), Heap.le H3 H100 → Cells H100 A98 0 xs → u ≤ c99 → ∃ post104 : Option Addr → Nat → Nat → Heap → Prop, ConT Tryz.prog 33 [.slice A98 u c99] H100 shS post104 ∧
      ∀ H105 : Heap, Heap.le H100 H105 → ∀ (A107 : Option Addr) (n108 c109 : Nat), post104 A107 n108 c109 H105 → Sl H105 A107 n108 c109 (isect l k) := by
    intro n3 m3 h0 han hbm A4 c4 H4 l4 hc4 hu4
    have hZo : Z = out := by
      rw [he]
      rcases h0 with h0 | h0
      · rw [List.eq_nil_of_length_eq_zero (by omega : a.length = 0)]
        cases b.length <;> simp [zipI2]
      · rw [List.eq_nil_of_length_eq_zero (by omega : b.length = 0)]
        cases a with
        | nil => simp [zipI2]
        | cons x r => simp [zipI2]
    rw [hZo] at hz hzl
    refine ⟨_, periodset_Normalize (hr.sl l4 hc4 hu hu4 (by show u * 16 ≤ _; omega) (by omega)), ?_⟩
    intro H5 l5 A5 n5 c5 h5
    rw [hz] at h5
    exact h5
  refine ⟨fun hna => ⟨fun hmb => ?_, fun hmb => fin (.inr (by have := of_decide_eq_false hmb; omega)) ha.len hb.len⟩, fun hna => fin (.inl (by have := of_decide_eq_false hna; omega)) ha.len hb.len⟩
  have hna := of_decide_eq_true hna; have hmb := of_decide_eq_true hmb
  obtain ⟨p, a, rfl⟩ := ha.pos hna
  obtain ⟨q, b, rfl⟩ := hb.pos hmb
  have han := ha.len; have hbm := hb.len
  have hca := ha.cap; have hcb := hb.cap
  simp only [List.length_cons] at han hbm
  have hp := hoka p List.mem_cons_self; have hq := hokb q List.mem_cons_self
  obtain ⟨hi, hA, _, hc, ⟨rfl, r1, r2⟩⟩ := ha.at (hle_refl H3) (i := 0) (by omega) (by omega)
  obtain ⟨ji, jA, _, jc, ⟨rfl, q1, q2⟩⟩ := hb.at (hle_refl H3) (i := 0) (by omega) (by omega)
  simp only [Int.toNat_zero, List.getElem_cons_zero] at hc jc r1 r2 q1 q2
  rw [List.length_cons, List.length_cons, show a.length + 1 + (b.length + 1) = (a.length + b.length + 1) + 1 by omega, zipI2] at he
  have next : ∀ {H4 : Heap} {u4 : Nat} {xs4 : List Value} {out4 : List Per}, Heap.le H3 H4 → Row H4 xs4 out4 → out4.length = u4 → Z = out4 ++ (if p.hi < q.hi then zipI2 (a.length + b.length + 1) a (q :: b) else zipI2 (a.length + b.length + 1) (p :: a) b) →
      someA A3 ∧ (0 : Int) ≤ 0 ∧ (0 : Int) < n3 ∧ ∃ n41 : Int, Cells H4 A3 ((0 : Int).toNat * 2 + 1) [.int .i64 n41] ∧ someA B3 ∧ (0 : Int) ≤ 0 ∧ (0 : Int) < m3 ∧ ∃ n42 : Int, Cells H4 B3 ((0 : Int).toNat * 2 + 1) [.int .i64 n42] ∧
        (decide (n41 < n42) = true → (0 : Int) ≤ 1 ∧ (1 : Int) ≤ n3 ∧ (n3 : Int) ≤ c3 ∧ ∀ A44 : Option Addr, A44 = subA A3 c3 (1 : Int).toNat 2 →
          (∃ a b out : List Per, Sl H4 A44 ((n3 : Int).toNat - (1 : Int).toNat) (c3 - (1 : Int).toNat) a ∧ Sl H4 B3 m3 d3 b ∧ (∀ p ∈ a, 0 ≤ p.lo ∧ p.lo < p.hi ∧ p.hi ≤ maxT) ∧ (∀ p ∈ b, 0 ≤ p.lo ∧ p.lo < p.hi ∧ p.hi ≤ maxT) ∧ Row H4 xs4 out ∧ out.length = u4 ∧ Z = out ++ zipI2 (a.length + b.length) a b) ∧ ((n3 : Int).toNat - (1 : Int).toNat) + m3 < n3 + m3) ∧
        (decide (n41 < n42) = false → (0 : Int) ≤ 1 ∧ (1 : Int) ≤ m3 ∧ (m3 : Int) ≤ d3 ∧ ∀ A47 : Option Addr, A47 = subA B3 d3 (1 : Int).toNat 2 →
          (∃ a b out : List Per, Sl H4 A3 n3 c3 a ∧ Sl H4 A47 ((m3 : Int).toNat - (1 : Int).toNat) (d3 - (1 : Int).toNat) b ∧ (∀ p ∈ a, 0 ≤ p.lo ∧ p.lo < p.hi ∧ p.hi ≤ maxT) ∧ (∀ p ∈ b, 0 ≤ p.lo ∧ p.lo < p.hi ∧ p.hi ≤ maxT) ∧ Row H4 xs4 out ∧ out.length = u4 ∧ Z = out ++ zipI2 (a.length + b.length) a b) ∧ n3 + ((m3 : Int).toNat - (1 : Int).toNat) < n3 + m3) := by
    intro H4 u4 xs4 out4 l4 hr4 hu4 he4
    refine ⟨hA, by omega, by omega, p.hi, (hc.mono l4).at1 (k := 1) rfl, jA, by omega, by omega, q.hi, (jc.mono l4).at1 (k := 1) rfl, fun hlt => ?_, fun hge => ?_⟩
    · rw [if_pos (of_decide_eq_true hlt)] at he4
      refine ⟨by omega, by omega, by omega, ?_⟩
      rintro A44 rfl
      refine ⟨⟨a, q :: b, out4, (ha.mono l4).tail, hb.mono l4, fun x hx => hoka x (List.mem_cons_of_mem _ hx), hokb, hr4, hu4, by rw [he4, List.length_cons, Nat.add_assoc]⟩, by omega⟩
    · rw [if_neg (of_decide_eq_false hge)] at he4
      refine ⟨by omega, by omega, by omega, ?_⟩
      rintro A47 rfl
      refine ⟨⟨p :: a, b, out4, ha.mono l4, (hb.mono l4).tail, hoka, fun x hx => hokb x (List.mem_cons_of_mem _ hx), hr4, hu4, by rw [he4, List.length_cons]; congr 2; omega⟩, by omega⟩
  have hlen := congrArg List.length he
  refine ⟨hA, by omega, by omega, _, _, hc, jA, by omega, by omega, _, _, jc, ⟨_, period_Intersect, ?_⟩, _, period_Intersect, ?_⟩
  all_goals
    rintro H4 l4 x y e ⟨hb, ht, hf⟩
    refine ⟨fun h => ?_, fun h => ?_⟩
    · obtain ⟨rfl, rfl⟩ := ht h
      rw [h] at hb
      rw [if_pos hb.symm] at he hlen
      simp only [List.length_append, List.length_cons] at hlen
      exact ⟨by omega, next l4 ((hr.mono l4).append (row1 (perInt p q) (by simp only [rng, perInt]; omega) (by simp only [rng, perInt]; omega))) (by simp [hu]) (by rw [he]; simp)⟩
    · rw [h] at hb
      rw [if_neg (by rw [← hb]; simp)] at he
      exact next l4 (hr.mono l4) hu (by rw [he]; simp)
end
end Go.Vc
/- Groups of tuples by their key values: rows that grow in place, an index by the keys' texts. -/
namespace Go.Vc
open Go Go.Proofs Go.Shelf
/- an index by the keys' texts -/
def idxM (o : Nat) : List (List Val) → List (Value × Value)
  | [] => []
  | v :: r => (.string (keyStr v), .int .i64 ((o : Nat) : Int)) :: idxM (o + 1) r
theorem keyEq_str {v u : List Val} : keyEq (.string (keyStr v)) (.string (keyStr u)) = decide (v = u) := by
  rw [Bool.eq_iff_iff, decide_eq_true_eq]
  constructor
  · intro h
    exact keyStr_inj (of_decide_eq_true h)
  · rintro rfl; exact decide_eq_true rfl
theorem idxM_has (v : List Val) : ∀ (ks : List (List Val)) (o : Nat), mhas (idxM o ks) (.string (keyStr v)) = decide (v ∈ ks)
  | [], o => rfl
  | u :: r, o => by
    have ih := idxM_has v r (o + 1)
    unfold mhas at ih ⊢
    rw [idxM, List.any_cons, ih, keyEq_str]
    rw [Bool.eq_iff_iff]; simp
theorem idxM_find {v : List Val} : ∀ {ks : List (List Val)} {o j : Nat}, ks.Nodup → ks[j]? = some v → mfind (idxM o ks) (.string (keyStr v)) = some (.int .i64 ((o + j : Nat) : Int))
  | u :: r, o, 0, _, h => by
    simp only [List.getElem?_cons_zero, Option.some.injEq] at h
    subst h
    unfold mfind
    rw [idxM, List.find?_cons, keyEq_str, decide_eq_true rfl]; rfl
  | u :: r, o, j + 1, hn, h => by
    obtain ⟨h1, h2⟩ := List.nodup_cons.1 hn
    simp only [List.getElem?_cons_succ] at h
    have hne : v ≠ u := fun e => h1 (by rw [← e]; exact List.mem_of_getElem? h)
    have ih := idxM_find (o := o + 1) h2 h
    unfold mfind at ih ⊢
    rw [idxM, List.find?_cons, keyEq_str, decide_eq_false hne]
    rw [show o + (j + 1) = o + 1 + j by omega]
    exact ih
theorem idxM_none {v : List Val} : ∀ {ks : List (List Val)} {o : Nat}, v ∉ ks → mfind (idxM o ks) (.string (keyStr v)) = none
  | [], o, _ => rfl
  | u :: r, o, h => by
    simp only [List.mem_cons, not_or] at h
    have ih := idxM_none (o := o + 1) h.2
    unfold mfind at ih ⊢
    rw [idxM, List.find?_cons, keyEq_str, decide_eq_false h.1]
    exact ih
theorem idxM_put {v : List Val} : ∀ {ks : List (List Val)} {o : Nat}, v ∉ ks → mput (idxM o ks) (.string (keyStr v)) (.int .i64 ((o + ks.length : Nat) : Int)) = idxM o (ks ++ [v])
  | [], o, _ => rfl
  | u :: r, o, h => by
    simp only [List.mem_cons, not_or] at h
    have ih := idxM_put (o := o + 1) h.2
    rw [idxM, mput, keyEq_str, if_neg (by rw [decide_eq_false h.1]; simp), List.cons_append, idxM]
    rw [show o + (u :: r).length = o + 1 + r.length by rw [List.length_cons]; omega, ih]
/- a group while it grows: its key, its tuples' slice -/
structure GrpR where
  key : List Val
  B : Option Addr
  m : Nat
  d : Nat
  rows : List Tup
instance : Rep GrpR where
  sz := 2
  byt := 48
  rel H vs r := ∃ A n c, vs = [.slice A n c, .slice r.B r.m r.d] ∧ Sl H A n c r.key
  mono := fun hle ⟨A, n, c, h1, h2⟩ => ⟨A, n, c, h1, h2.mono hle⟩
  len := fun ⟨A, n, c, h1, _⟩ => by simp [h1]
  pos := by decide
  bpos := by decide
  one := fun ⟨A, n, c, h1, _⟩ => by rw [h1]; simp [Value.oneCell']
/- a group -/
structure Grp2 where
  key : List Val
  tups : List Tup
instance : Rep Grp2 where
  sz := 2
  byt := 48
  rel H vs r := ∃ A n c B m d, vs = [.slice A n c, .slice B m d] ∧ Sl H A n c r.key ∧ Sl H B m d r.tups
  mono := fun hle ⟨A, n, c, B, m, d, h1, h2, h3⟩ => ⟨A, n, c, B, m, d, h1, h2.mono hle, h3.mono hle⟩
  len := fun ⟨A, n, c, B, m, d, h1, _⟩ => by simp [h1]
  pos := by decide
  bpos := by decide
  one := fun ⟨A, n, c, B, m, d, h1, _⟩ => by rw [h1]; simp [Value.oneCell']
structure OpenG (O : OMap) (H : Heap) (r : GrpR) : Prop where
  opn : isOpen O r.B 57 r.m r.d
  row : ∃ ys, Cells H r.B 0 ys ∧ Row H ys r.rows
  len : r.rows.length = r.m
  cap : r.m ≤ r.d
structure GrpsOK (O : OMap) (H : Heap) (xs : List Value) (rs : List GrpR) : Prop where
  row : Row H xs rs
  opn : ∀ j (h : j < rs.length), OpenG O H rs[j]
  sep : ∀ j k (hj : j < rs.length) (hk : k < rs.length), j ≠ k → rs[j].B ≠ none → rs[j].B ≠ rs[k].B
theorem GrpsOK.mono {O : OMap} {H H' : Heap} {xs : List Value} {rs : List GrpR} (h : GrpsOK O H xs rs) (hle : Heap.le H H') : GrpsOK O H' xs rs :=
  ⟨h.row.mono hle, fun j hj => let ⟨a, ⟨ys, b1, b2⟩, c, k⟩ := h.opn j hj; ⟨a, ⟨ys, b1.mono hle, b2.mono hle⟩, c, k⟩, h.sep⟩
/- the map of the call's own changes; the rows' blocks stay -/
theorem GrpsOK.other {O O' : OMap} {H : Heap} {xs : List Value} {rs : List GrpR} {b0 : Nat} (h : GrpsOK O H xs rs) (hm : ∃ t es, O b0 = some (.mp t es)) (hk : ∀ b, b ≠ b0 → O' b = O b) : GrpsOK O' H xs rs := by
  refine ⟨h.row, fun j hj => ?_, h.sep⟩
  obtain ⟨a, b, c, k⟩ := h.opn j hj
  refine ⟨?_, b, c, k⟩
  rcases a with a | ⟨g, a1, a2⟩
  · exact .inl a
  · refine .inr ⟨g, a1, ?_⟩
    rw [hk g ?_]
    · exact a2
    · rintro rfl
      obtain ⟨t, es, e⟩ := hm
      rw [e] at a2; cases a2
theorem GrpsOK.new {O : OMap} {H : Heap} {xs : List Value} {rs : List GrpR} (h : GrpsOK O H xs rs) {A : Option Addr} {n c : Nat} {v : List Val} (hv : Sl H A n c v) :
    GrpsOK O H (xs ++ [.slice A n c, .slice none 0 0]) (rs ++ [⟨v, none, 0, 0, []⟩]) := by
  refine ⟨h.row.append (Row.one ⟨A, n, c, rfl, hv⟩), fun j hj => ?_, fun j k hj hk hne h0 => ?_⟩
  · rw [List.getElem_append]
    split
    · exact h.opn j _
    · simp only [List.getElem_singleton]
      exact ⟨.inl ⟨rfl, rfl, rfl⟩, ⟨[], .inl rfl, rfl⟩, rfl, Nat.le_refl _⟩
  · simp only [List.length_append, List.length_singleton] at hj hk
    by_cases hj' : j < rs.length
    · rw [List.getElem_append_left hj'] at h0 ⊢
      by_cases hk' : k < rs.length
      · rw [List.getElem_append_left hk']
        exact h.sep j k hj' hk' hne h0
      · have : k = rs.length := by omega
        subst this
        simp only [List.getElem_concat_length]
        exact h0
    · have : j = rs.length := by omega
      subst this
      simp only [List.getElem_concat_length] at h0
      exact absurd rfl h0
/- one tuple more in a group -/
theorem GrpsOK.push {O : OMap} {H : Heap} {xs : List Value} {rs : List GrpR} (h : GrpsOK O H xs rs) {e : Nat} (hi : e < rs.length) {ys vs : List Value} {t : Tup} (hys : Row H ys rs[e].rows) {A : Option Addr} {c : Nat} {H' : Heap} {O' : OMap}
    (hle : Heap.le H H') (hc : Cells H' A 0 (ys ++ vs)) (hr : Rep.rel H' vs t) (hop : isOpen O' A 57 (rs[e].m + 1) c) (hkeep : keepO O O' rs[e].B A) (hcap : rs[e].m + 1 ≤ c) :
    GrpsOK O' H' (splice xs (e * 2 + 1) [.slice A (rs[e].m + 1) c]) (rs.set e ⟨rs[e].key, A, rs[e].m + 1, c, rs[e].rows ++ [t]⟩) := by
  obtain ⟨us, ⟨A1, n1, c1, rfl, q1⟩, -, hs⟩ := (h.row.mono hle).getf hi
  have hrow := hs 1 [.slice A (rs[e].m + 1) c] ⟨rs[e].key, A, rs[e].m + 1, c, rs[e].rows ++ [t]⟩ (show 1 + 1 ≤ 2 by decide) ⟨A1, n1, c1, rfl, q1⟩
  have o4 := (h.opn e hi).len
  have hkp : ∀ j (hj : j < rs.length), j ≠ e → ∀ b, rs[j].B = some ⟨b, 0, none⟩ → (∃ z, O b = some z) → A ≠ some ⟨b, 0, none⟩ ∧ O' b = O b := by
    rintro j hj hne b hb ⟨z, hz⟩
    refine hkeep b (by rw [hz]; simp) ?_
    rw [← hb]
    exact fun e' => h.sep j e hj hi hne (by rw [hb]; simp) e'.symm
  refine ⟨hrow, fun j hj => ?_, fun j k hj hk hne hb => ?_⟩
  · rw [List.length_set] at hj
    rw [List.getElem_set]
    split
    · rename_i hje
      subst hje
      exact ⟨hop, ⟨_, hc, (hys.mono hle).append (Row.one hr)⟩, by simp [o4], hcap⟩
    · rename_i hne
      obtain ⟨a1, ⟨zs, a2, a3⟩, a4, a5⟩ := h.opn j hj
      refine ⟨?_, ⟨zs, a2.mono hle, a3.mono hle⟩, a4, a5⟩
      rcases a1 with a1 | ⟨b, b1, b2⟩
      · exact .inl a1
      · exact .inr ⟨b, b1, by rw [(hkp j hj (Ne.symm hne) b b1 ⟨_, b2⟩).2]; exact b2⟩
  · rw [List.length_set] at hj hk
    have sepA : ∀ j (hj : j < rs.length), j ≠ e → rs[j].B ≠ none → rs[j].B ≠ A := by
      intro j hj hne hb
      rcases (h.opn j hj).opn with ⟨b1, -⟩ | ⟨b, b1, b2⟩
      · exact absurd b1 hb
      · rw [b1]
        exact fun e' => (hkp j hj hne b b1 ⟨_, b2⟩).1 e'.symm
    rw [List.getElem_set] at hb ⊢
    rw [List.getElem_set]
    by_cases hje : e = j
    · rw [if_pos hje] at hb ⊢
      have hke : ¬ e = k := by omega
      rw [if_neg hke]
      by_cases hkn : rs[k].B = none
      · rw [hkn]; exact hb
      · exact fun e' => sepA k hk (by omega) hkn e'.symm
    · rw [if_neg hje] at hb ⊢
      by_cases hke : e = k
      · rw [if_pos hke]
        exact sepA j hj (by omega) hb
      · rw [if_neg hke]
        exact h.sep j k hj hk hne hb
/- what the groups are -/
structure GrpsAre (rs : List GrpR) (l : List Tup) (cols : List Int) : Prop where
  nod : (rs.map (·.key)).Nodup
  keys : KeysOf (rs.map (·.key)) l cols
  rows : ∀ r ∈ rs, r.rows = withK l cols r.key
theorem GrpsAre.nil {cols : List Int} : GrpsAre [] [] cols := ⟨List.nodup_nil, KeysOf.nil, fun r h => by cases h⟩
theorem GrpsAre.skip {rs : List GrpR} {l : List Tup} {cols : List Int} {i : Nat} (hi : i < l.length) (h : GrpsAre rs (l.take i) cols) (hp : pOk l[i].p = false) : GrpsAre rs (l.take (i + 1)) cols :=
  ⟨h.nod, h.keys.skip hi hp, fun r hr => by rw [withK_succ hi, if_neg (by rw [hp]; simp), List.append_nil]; exact h.rows r hr⟩
theorem GrpsAre.put {rs : List GrpR} {l : List Tup} {cols : List Int} {i e : Nat} (hi : i < l.length) (hn : (rs.map (·.key)).Nodup) (hk : KeysOf (rs.map (·.key)) (l.take (i + 1)) cols) (hr : ∀ r ∈ rs, r.rows = withK (l.take i) cols r.key)
    (he : e < rs.length) (hp : pOk l[i].p = true) (hkey : rs[e].key = keyVals l[i].vals cols) {A : Option Addr} {m d : Nat} : GrpsAre (rs.set e ⟨rs[e].key, A, m, d, rs[e].rows ++ [l[i]]⟩) (l.take (i + 1)) cols := by
  have hmap : (rs.set e ⟨rs[e].key, A, m, d, rs[e].rows ++ [l[i]]⟩).map (·.key) = rs.map (·.key) := by
    apply List.ext_getElem
    · simp
    · intro j h1 h2
      simp only [List.getElem_map, List.getElem_set]
      split
      · rename_i hje; subst hje; rfl
      · rfl
  refine ⟨by rw [hmap]; exact hn, by rw [hmap]; exact hk, fun r hr' => ?_⟩
  obtain ⟨j, hj, rfl⟩ := List.getElem_of_mem hr'
  rw [List.length_set] at hj
  rw [List.getElem_set]
  split
  · simp only
    rw [withK_succ hi, if_pos (by rw [hp, hkey, cmpVs_ord.refl]; rfl), hr _ (List.getElem_mem he)]
  · rename_i hne
    have hkj : keyVals l[i].vals cols ≠ rs[j].key := by
      rw [← hkey]
      intro e'
      have := (List.getElem_inj (xs := rs.map (·.key)) (h₀ := by simpa using he) (h₁ := by simpa using hj) hn).1 (by simpa using e')
      exact hne this
    rw [withK_succ hi, if_neg (by rw [Bool.and_eq_true, decide_eq_true_eq, cmpVs_zero]; exact fun hc => hkj hc.2), List.append_nil]
    exact hr _ (List.getElem_mem hj)
/- a key that is not there yet has no tuples -/
theorem withK_none {l : List Tup} {cols : List Int} {v : List Val} {ks : List (List Val)} (hk : KeysOf ks l cols) (h : v ∉ ks) : withK l cols v = [] := by
  refine List.filter_eq_nil_iff.2 fun t ht hc => ?_
  rw [Bool.and_eq_true, decide_eq_true_eq, cmpVs_zero] at hc
  exact h ((hk v).2 (byKey_mem.2 ⟨t, ht, hc.1, hc.2⟩))
def toGrp (r : GrpR) : Grp2 := ⟨r.key, r.rows⟩
theorem grp_row {H : Heap} : ∀ {ys : List Value} {m : List GrpR}, Row H ys m → (∀ r ∈ m, Sl H r.B r.m r.d r.rows) → Row H ys (m.map toGrp)
  | _, [], h, _ => h
  | _, r :: m, ⟨vs, zs, h1, ⟨A, n, c, e, hk⟩, h3⟩, h => ⟨vs, zs, h1, ⟨A, n, c, r.B, r.m, r.d, e, hk, h r (by simp)⟩, grp_row h3 fun q hq => h q (by simp [hq])⟩
def keyGroups (l : List Tup) (cols : List Int) : List Grp2 := (keyList l cols).map fun v => ⟨v, withK l cols v⟩
theorem grps_keys {rs m : List GrpR} {l : List Tup} {cols : List Int} (h : GrpsAre rs l cols) (hp : m.Perm rs) (hs : m.Pairwise (fun a b => ¬ cmpVs b.key a.key < 0)) : m.map toGrp = keyGroups l cols := by
  have hn : (m.map (·.key)).Nodup := (hp.map _).nodup_iff.2 h.nod
  have ha : ascV (m.map (·.key)) := ascV_of_sorted (List.pairwise_map.2 hs) hn
  have hk : KeysOf (m.map (·.key)) l cols := fun v => by rw [(hp.map (·.key)).mem_iff]; exact h.keys v
  unfold keyGroups
  rw [← keyList_eq ha hk, List.map_map]
  exact List.map_congr_left fun r hr => by
    have := h.rows r (hp.mem_iff.1 hr)
    simp only [toGrp, Function.comp_apply, this]
end Go.Vc
/- Foreign keys: what both give for all keys; the days; the sanity check's values. -/
namespace Go.Vc
open Go
def fkAll (child parent : List Tup) (cols ref : List Int) : List Vio := (keyList child cols).flatMap fun v => refV (withK child cols v) (withK parent ref v)
theorem withK_ok {l : List Tup} {cols : List Int} {v : List Val} : ∀ t ∈ withK l cols v, pOk t.p = true := fun t ht => by
  have := (List.mem_filter.1 ht).2
  rw [Bool.and_eq_true] at this
  exact this.1
theorem accF_len (F : Int → Option (List Int)) : ∀ (ps : List Int) (out : List Vio), (accF F ps out).length ≤ out.length + ps.length
  | [], out => by simp [accF]
  | [_], out => by simp [accF]
  | f :: t :: ps, out => by
    rw [accF]
    split
    · rename_i x hx
      have h1 := accF_len F (t :: ps) (extV out ⟨⟨f, t⟩, x⟩)
      have h2 := extV_len out ⟨⟨f, t⟩, x⟩
      simp only [List.length_cons] at h1 ⊢; omega
    · have h1 := accF_len F (t :: ps) out
      simp only [List.length_cons] at h1 ⊢; omega
theorem segF_len (F : Int → Option (List Int)) : ∀ (ps : List Int), (segF F ps).length ≤ ps.length
  | [] => by simp [segF]
  | [_] => by simp [segF]
  | f :: t :: ps => by
    have h1 := segF_len F (t :: ps)
    rw [segF]
    split <;> (simp only [List.length_append, List.length_cons, List.length_nil] at h1 ⊢; omega)
theorem refV_len (S A : List Tup) : (refV S A).length ≤ 2 * (S.length + A.length) := by
  have h1 := accF_len (fkF S A) (canon (tends (S ++ A))) []
  have h2 := canon_len (tends (S ++ A))
  have h3 := tends_len (S ++ A)
  rw [List.length_append] at h3
  unfold refV
  simp only [List.length_nil] at h1
  omega
/- the sanity check -/
def awC : Tup := ⟨[lv0 0, lv1 0], ⟨0, 9⟩, [4]⟩
def awP : Tup := ⟨[lv0 0, lv1 0], ⟨0, 5⟩, [1]⟩
def awQ : Tup := ⟨[lv0 0, lv1 0], ⟨6, 9⟩, [2]⟩
theorem fw_one : fkAll [awC] [awP, awQ] [0] [0] = [⟨⟨5, 6⟩, [4]⟩] := by
  have k : keyList [awC] [0] = [[lv0 0]] := by decide +kernel
  have w : withK [awC] [0] [lv0 0] = [awC] := by decide +kernel
  have w2 : withK [awP, awQ] [0] [lv0 0] = [awP, awQ] := by decide +kernel
  have t : tends ([awC] ++ [awP, awQ]) = [0, 9, 0, 5, 6, 9] := by decide +kernel
  have cn : canon [0, 9, 0, 5, 6, 9] = [0, 5, 6, 9] := asc_unique (canon_asc _) (by decide) fun y => by rw [canon_mem]; simp only [List.mem_cons, List.not_mem_nil, or_false]; omega
  have c4 : canon [4] = [4] := asc_unique (canon_asc _) (by decide) fun y => canon_mem
  have f0 : fkF [awC] [awP, awQ] 0 = none := by
    unfold fkF
    rw [if_neg (by decide +kernel), if_neg (by decide +kernel)]
  have f5 : fkF [awC] [awP, awQ] 5 = some [4] := by
    have e : tlins ([awC].filter (inT 5)) = [4] := by decide +kernel
    unfold fkF
    rw [if_neg (by decide +kernel), if_pos (by decide +kernel), e, c4]
  have f6 : fkF [awC] [awP, awQ] 6 = none := by
    unfold fkF
    rw [if_neg (by decide +kernel), if_neg (by decide +kernel)]
  unfold fkAll
  rw [k, List.flatMap_cons, List.flatMap_nil, List.append_nil, w, w2, refV, t, cn, accF, f0, accF, f5, accF, f6, accF]
  · rfl
  · simp
theorem fw_none : fkAll [awP, awQ] [awC] [0] [0] = [] := by
  have k : keyList [awP, awQ] [0] = [[lv0 0]] := by decide +kernel
  have w : withK [awC] [0] [lv0 0] = [awC] := by decide +kernel
  have w2 : withK [awP, awQ] [0] [lv0 0] = [awP, awQ] := by decide +kernel
  have t : tends ([awP, awQ] ++ [awC]) = [0, 5, 6, 9, 0, 9] := by decide +kernel
  have cn : canon [0, 5, 6, 9, 0, 9] = [0, 5, 6, 9] := asc_unique (canon_asc _) (by decide) fun y => by rw [canon_mem]; simp only [List.mem_cons, List.not_mem_nil, or_false]; omega
  have f0 : fkF [awP, awQ] [awC] 0 = none := by
    unfold fkF
    rw [if_neg (by decide +kernel), if_neg (by decide +kernel)]
  have f5 : fkF [awP, awQ] [awC] 5 = none := by
    unfold fkF
    rw [if_pos (by decide +kernel)]
  have f6 : fkF [awP, awQ] [awC] 6 = none := by
    unfold fkF
    rw [if_neg (by decide +kernel), if_neg (by decide +kernel)]
  unfold fkAll
  rw [k, List.flatMap_cons, List.flatMap_nil, List.append_nil, w, w2, refV, t, cn, accF, f0, accF, f5, accF, f6, accF]
  all_goals first | rfl | simp
theorem fw_cov : covL [awP, awQ] [0] [lv0 0] = [⟨0, 5⟩, ⟨6, 9⟩] := by decide +kernel
/- how many parts a difference has -/
theorem cut_len {hi : Int} : ∀ (b : List Per) (t : Int), (cut t hi b).length ≤ b.length + 1
  | [], t => by unfold cut; split <;> simp
  | q :: b, t => by
    have h1 := cut_len (hi := hi) b t
    have h2 := cut_len (hi := hi) b q.hi
    unfold cut
    simp only [List.length_cons]
    repeat' split
    all_goals (try simp only [List.length_cons, List.length_append, List.length_nil])
    all_goals omega
theorem cutAll_len (b : List Per) : ∀ a : List Per, (cutAll a b).length ≤ a.length * (b.length + 1)
  | [] => by simp [cutAll]
  | p :: a => by
    have h1 := cutAll_len b a
    have h2 := cut_len (hi := p.hi) b p.lo
    simp only [cutAll, List.flatMap_cons, List.length_append, List.length_cons, Nat.succ_mul] at h1 ⊢
    omega
theorem isect_one_len (p : Per) (ms : List Per) : (isect [p] ms).length ≤ ms.length := by
  have h1 := norm_length ms
  have e : norm [p] = if pOk p then [p] else [] := by
    unfold norm
    simp only [nrmFrom]
    split <;> simp [ins]
  have h2 : ∀ b : List Per, (hits p b).length ≤ b.length := fun b => by
    unfold hits
    rw [List.length_map]
    exact List.length_filter_le _ _
  unfold isect isectGo
  rw [e]
  split
  · rw [List.flatMap_cons, List.flatMap_nil, List.append_nil]
    exact Nat.le_trans (h2 _) h1
  · simp
end Go.Vc
/- Segments: plain law. -/
namespace Go.Vc
open Go
def onT (d : Int) (x : Tup) : Bool := decide (x.p.lo ≤ d) && decide (d < x.p.hi)
def stepAT (f : Int) (act rest : List Tup) : List Tup := act.filter (fun x => !decide (x.p.hi ≤ f)) ++ rest.takeWhile (fun x => decide (x.p.lo = f))
def stepRT (f : Int) (rest : List Tup) : List Tup := rest.dropWhile (fun x => decide (x.p.lo = f))
def ascT (l : List Tup) : Prop := l.Pairwise (fun a b => a.p.lo ≤ b.p.lo)
def lateT (f : Int) (l : List Tup) : List Tup := l.filter (fun x => !decide (x.p.hi ≤ f))
theorem restT_take {f : Int} : ∀ {rest : List Tup}, ascT rest → (∀ x ∈ rest, f ≤ x.p.lo ∧ x.p.lo < x.p.hi) →
    rest.filter (onT f) = rest.takeWhile (fun x => decide (x.p.lo = f)) ∧ (∀ x ∈ stepRT f rest, f < x.p.lo)
  | [], _, _ => ⟨rfl, fun x h => by cases h⟩
  | x :: r, hs, h => by
    obtain ⟨h1, h2⟩ := List.pairwise_cons.1 hs
    obtain ⟨a1, a2⟩ := h x (by simp)
    obtain ⟨i1, i2⟩ := restT_take h2 (fun y hy => h y (by simp [hy]))
    by_cases e : x.p.lo = f
    · have ha : onT f x = true := by simp only [onT, Bool.and_eq_true, decide_eq_true_eq]; omega
      rw [List.filter_cons, if_pos ha, List.takeWhile_cons, if_pos (by simpa using e), i1]
      refine ⟨rfl, ?_⟩
      unfold stepRT
      rw [List.dropWhile_cons, if_pos (by simpa using e)]
      exact i2
    · have ha : ∀ y ∈ x :: r, f < y.p.lo := by
        intro y hy
        rcases List.mem_cons.1 hy with rfl | hy
        · omega
        · have := h1 y hy; omega
      refine ⟨?_, ?_⟩
      · rw [List.takeWhile_cons, if_neg (by simpa using e)]
        refine List.filter_eq_nil_iff.2 fun y hy => ?_
        have := ha y hy
        simp only [onT, Bool.and_eq_true, decide_eq_true_eq]; omega
      · unfold stepRT
        rw [List.dropWhile_cons, if_neg (by simpa using e)]
        exact ha
theorem stepT_at {f : Int} {pre act rest : List Tup} (hp : ∀ x ∈ pre, x.p.lo < f) (ha : lateT f act = lateT f pre) (hs : ascT rest) (hr : ∀ x ∈ rest, f ≤ x.p.lo ∧ x.p.lo < x.p.hi) :
    stepAT f act rest = (pre ++ rest).filter (onT f) ∧ lateT f (stepAT f act rest) = lateT f (pre ++ rest.takeWhile (fun x => decide (x.p.lo = f))) := by
  obtain ⟨h1, h2⟩ := restT_take hs hr
  have e0 : lateT f pre = pre.filter (onT f) := by
    refine List.filter_congr fun x hx => ?_
    have := hp x hx
    rw [Bool.eq_iff_iff]
    simp only [onT, Bool.and_eq_true, decide_eq_true_eq, Bool.not_eq_true', decide_eq_false_iff_not]; omega
  have e1 : stepAT f act rest = (pre ++ rest).filter (onT f) := by
    rw [List.filter_append, h1, ← e0, ← ha]; rfl
  refine ⟨e1, ?_⟩
  have : stepAT f act rest = lateT f act ++ rest.takeWhile (fun x => decide (x.p.lo = f)) := rfl
  rw [this, ha]
  simp only [lateT, List.filter_append, List.filter_filter, Bool.and_self]
theorem lateT_late {f t : Int} (h : f < t) (l : List Tup) : lateT t (lateT f l) = lateT t l := by
  simp only [lateT, List.filter_filter]
  refine List.filter_congr fun x _ => ?_
  rw [Bool.eq_iff_iff]
  simp only [Bool.and_eq_true, Bool.not_eq_true', decide_eq_false_iff_not]; omega
def sgOf (f t : Int) (a : List Tup) : List Vio := if 0 < a.length then [⟨⟨f, t⟩, canon (tlins a)⟩] else []
def segGo : List Int → List Tup → List Tup → List Vio
  | f :: t :: ps, act, rest => sgOf f t (stepAT f act rest) ++ segGo (t :: ps) (stepAT f act rest) (stepRT f rest)
  | _, _, _ => []
def atF (g : List Tup) (f : Int) : Option (List Int) := if (g.filter (onT f)).length = 0 then none else some (canon (tlins (g.filter (onT f))))
theorem sgOf_at (g : List Tup) (f t : Int) : sgOf f t (g.filter (onT f)) = (match atF g f with | some x => [⟨⟨f, t⟩, x⟩] | none => []) := by
  unfold sgOf atF
  by_cases h : (g.filter (onT f)).length = 0
  · rw [if_neg (by omega), if_pos h]
  · rw [if_pos (by omega), if_neg h]
theorem segGo_eq : ∀ (ps : List Int) (f : Int) (pre act rest : List Tup), (f :: ps).Pairwise (fun a b => a < b) → (∀ x ∈ pre, x.p.lo < f) → lateT f act = lateT f pre → ascT rest →
    (∀ x ∈ rest, x.p.lo ∈ f :: ps ∧ x.p.lo < x.p.hi) → segGo (f :: ps) act rest = segF (atF (pre ++ rest)) (f :: ps)
  | [], f, pre, act, rest, _, _, _, _, _ => rfl
  | t :: ps, f, pre, act, rest, hp, h1, h2, h3, h4 => by
    obtain ⟨p1, p2⟩ := List.pairwise_cons.1 hp
    have hft : f < t := p1 t (by simp)
    have hge : ∀ x ∈ rest, f ≤ x.p.lo ∧ x.p.lo < x.p.hi := by
      intro x hx
      obtain ⟨a, b⟩ := h4 x hx
      rcases List.mem_cons.1 a with a | a
      · omega
      · have := p1 _ a; omega
    obtain ⟨s1, s2⟩ := stepT_at h1 h2 h3 hge
    obtain ⟨-, r2⟩ := restT_take h3 hge
    have hsub : (stepRT f rest).Sublist rest := List.dropWhile_sublist _
    have hsplit : rest.takeWhile (fun x => decide (x.p.lo = f)) ++ stepRT f rest = rest := List.takeWhile_append_dropWhile
    have a1 : ∀ x ∈ pre ++ rest.takeWhile (fun x => decide (x.p.lo = f)), x.p.lo < t := by
      intro x hx
      rcases List.mem_append.1 hx with hx | hx
      · have := h1 x hx; omega
      · have := tw_mem hx
        have := of_decide_eq_true this
        omega
    have a2 : lateT t (stepAT f act rest) = lateT t (pre ++ rest.takeWhile (fun x => decide (x.p.lo = f))) := by
      rw [← lateT_late hft (stepAT f act rest), s2, lateT_late hft]
    have a4 : ∀ x ∈ stepRT f rest, x.p.lo ∈ t :: ps ∧ x.p.lo < x.p.hi := by
      intro x hx
      have a := h4 x (hsub.subset hx)
      have b := r2 x hx
      refine ⟨?_, a.2⟩
      rcases List.mem_cons.1 a.1 with e | e
      · omega
      · exact e
    have ih := segGo_eq ps t (pre ++ rest.takeWhile (fun x => decide (x.p.lo = f))) _ _ p2 a1 a2 (List.Pairwise.sublist hsub h3) a4
    rw [List.append_assoc, hsplit] at ih
    have e1 : segGo (f :: t :: ps) act rest = sgOf f t (stepAT f act rest) ++ segGo (t :: ps) (stepAT f act rest) (stepRT f rest) := by rw [segGo]
    have e2 : segF (atF (pre ++ rest)) (f :: t :: ps) = sgOf f t ((pre ++ rest).filter (onT f)) ++ segF (atF (pre ++ rest)) (t :: ps) := by
      rw [sgOf_at]
      exact segF.eq_1 _ _ _ _
    exact e1.trans (by rw [ih, s1]; exact e2.symm)
def ptsT (l : List Tup) : List Int := l.flatMap fun t => [t.p.lo, t.p.hi]
theorem ptsT_succ {l : List Tup} {i : Nat} (hi : i < l.length) : ptsT (l.take (i + 1)) = ptsT (l.take i) ++ [l[i].p.lo, l[i].p.hi] := by
  rw [List.take_succ_eq_append_getElem hi, ptsT, List.flatMap_append]; simp [ptsT]
theorem ptsT_len : ∀ l : List Tup, (ptsT l).length = 2 * l.length
  | [] => rfl
  | k :: l => by
    have := ptsT_len l
    simp only [ptsT, List.flatMap_cons, List.length_append, List.length_cons, List.length_nil] at *
    omega
theorem atF_fk {g S : List Tup} (hp : g.Perm S) (hS : ∀ x ∈ S, pOk x.p = true) : atF g = fkF S [] := by
  funext f
  have e : g.filter (onT f) = g.filter (inT f) := List.filter_congr fun x hx => by
    have := pOk_iff.1 (hS x (hp.mem_iff.1 hx))
    rw [Bool.eq_iff_iff, inT, pIn_iff]
    simp only [onT, Bool.and_eq_true, decide_eq_true_eq]; omega
  have hq : (g.filter (inT f)).Perm (S.filter (inT f)) := hp.filter _
  have ec : canon (tlins (g.filter (inT f))) = canon (tlins (S.filter (inT f))) := canon_eq fun y => (hq.flatMap_right _).mem_iff
  unfold atF fkF
  rw [e, hq.length_eq, ec]
  by_cases h : (S.filter (inT f)).length = 0
  · rw [if_pos h, if_pos h]
  · rw [if_neg h, if_neg h, if_pos (by simp)]
theorem ptsT_tends {g S : List Tup} (hp : g.Perm S) (hS : ∀ x ∈ S, pOk x.p = true) : canon (ptsT g) = canon (tends S) := by
  refine canon_eq fun y => ?_
  rw [ptsT, tends, List.mem_flatMap, List.mem_flatMap]
  constructor
  · rintro ⟨x, hx, hy⟩
    exact ⟨x, List.mem_filter.2 ⟨hp.mem_iff.1 hx, hS x (hp.mem_iff.1 hx)⟩, hy⟩
  · rintro ⟨t, ht, hy⟩
    exact ⟨t, hp.mem_iff.2 (List.mem_filter.1 ht).1, hy⟩
theorem segs_ref {g S : List Tup} (hp : g.Perm S) (hS : ∀ x ∈ S, pOk x.p = true) (hs : ascT g) : segGo (canon (ptsT g)) [] g = segF (fkF S []) (canon (tends S)) := by
  rw [← atF_fk hp hS, ← ptsT_tends hp hS]
  have ha := canon_asc (ptsT g)
  have hm : ∀ x ∈ g, x.p.lo ∈ canon (ptsT g) := fun x hx => by
    rw [canon_mem]; exact List.mem_flatMap.2 ⟨x, hx, by simp⟩
  have hv : ∀ x ∈ g, x.p.lo < x.p.hi := fun x hx => (pOk_iff.1 (hS x (hp.mem_iff.1 hx))).2.1
  revert ha hm
  generalize canon (ptsT g) = ps
  intro ha hm
  cases ps with
  | nil => rfl
  | cons f ps => exact segGo_eq ps f [] [] g ha (fun x h => by cases h) rfl hs fun x hx => ⟨hm x hx, hv x hx⟩
end Go.Vc
