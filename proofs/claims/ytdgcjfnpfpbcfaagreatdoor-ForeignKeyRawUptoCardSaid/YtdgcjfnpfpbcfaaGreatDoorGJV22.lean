/- Constraints: what the program's parts compute. -/
import Derived.Test.YtdgcjfnpfpbcfaaGreatDoorGJV16
import Derived.Test.YtdgcjfnpfpbcfaaGreatDoorGJV20
import Derived.Test.YtdgcjfnpfpbcfaaGreatDoorGJV21
import Derived.Test.YtdgcjfnpfpbcfaaGreatDoorGJV15
set_option linter.unusedSectionVars false
set_option linter.unusedSimpArgs false
set_option linter.unusedVariables false
namespace Go.Vc
open Go Go.Proofs Go.Shelf
/- a set of keys by their texts -/
def setE (vs : List (List Val)) : List (Value × Value) := vs.map fun v => (Value.string (keyStr v), Value.agg ⟨[]⟩)
theorem setE_look (vs : List (List Val)) (s : ByteArray) : lkIs (setE vs) (.string s) true [] [] := by
  unfold lkIs
  rcases h : mfind (setE vs) (.string s) with _ | v
  · rfl
  · have : v = Value.agg ⟨[]⟩ := by
      unfold mfind at h
      obtain ⟨p, h1, rfl⟩ := Option.map_eq_some_iff.1 h
      have := List.mem_of_find?_eq_some h1
      obtain ⟨w, -, rfl⟩ := List.mem_map.1 this
      rfl
    rw [this]; rfl
theorem setE_has (vs : List (List Val)) (v : List Val) : mhas (setE vs) (.string (keyStr v)) = decide (v ∈ vs) := by
  rw [Bool.eq_iff_iff, decide_eq_true_eq]
  unfold mhas setE
  rw [List.any_map, List.any_eq_true]
  constructor
  · rintro ⟨u, hu, he⟩
    have he : decide (keyStr v = keyStr u) = true := he
    rw [keyStr_inj (of_decide_eq_true he)]; exact hu
  · intro h
    exact ⟨v, h, decide_eq_true rfl⟩
theorem setE_put {vs : List (List Val)} {v : List Val} (h : v ∉ vs) : mput (setE vs) (.string (keyStr v)) (.agg ⟨[]⟩) = setE (vs ++ [v]) := by
  induction vs with
  | nil => rfl
  | cons u vs ih =>
    simp only [List.mem_cons, not_or] at h
    have hne : keyEq (.string (keyStr v)) (.string (keyStr u)) = false := decide_eq_false fun e => h.1 (keyStr_inj e)
    have e : setE (u :: vs) = (Value.string (keyStr u), Value.agg ⟨[]⟩) :: setE vs := rfl
    rw [e, mput, if_neg (by rw [hne]; simp), ih h.2]
    rfl
/- the keys' texts fit -/
def keyFit (l : List Tup) (cols : List Int) : Prop := ∀ t ∈ l, (keyBytes (keyVals t.vals cols)).length ≤ 140737488355328
theorem KeysOf.nil {cols : List Int} : KeysOf [] [] cols := fun v => by simp [byKeyL]
theorem KeysOf.skip {vs : List (List Val)} {l : List Tup} {cols : List Int} {i : Nat} (hi : i < l.length) (h : KeysOf vs (l.take i) cols) (hp : pOk l[i].p = false) : KeysOf vs (l.take (i + 1)) cols := by
  intro v
  rw [h v, byKeyL_succ hi, if_neg (by rw [hp]; simp), List.append_nil]
theorem KeysOf.old {vs : List (List Val)} {l : List Tup} {cols : List Int} {i : Nat} (hi : i < l.length) (h : KeysOf vs (l.take i) cols) (hv : keyVals l[i].vals cols ∈ vs) : KeysOf vs (l.take (i + 1)) cols := by
  intro v
  rw [byKeyL_succ hi]
  by_cases hp : pOk l[i].p = true
  · rw [if_pos hp]
    simp only [List.mem_append, List.mem_singleton]
    constructor
    · intro h1
      obtain ⟨k, h2, h3⟩ := (h v).1 h1
      exact ⟨k, .inl h2, h3⟩
    · rintro ⟨k, h1 | rfl, rfl⟩
      · exact (h _).2 ⟨k, h1, rfl⟩
      · exact hv
  · rw [if_neg hp, List.append_nil]; exact h v
theorem KeysOf.new {vs : List (List Val)} {l : List Tup} {cols : List Int} {i : Nat} (hi : i < l.length) (h : KeysOf vs (l.take i) cols) (hp : pOk l[i].p = true) : KeysOf (vs ++ [keyVals l[i].vals cols]) (l.take (i + 1)) cols := by
  intro v
  rw [byKeyL_succ hi, if_pos hp]
  simp only [List.mem_append, List.mem_singleton]
  constructor
  · rintro (h1 | rfl)
    · obtain ⟨k, h2, h3⟩ := (h v).1 h1
      exact ⟨k, .inl h2, h3⟩
    · exact ⟨_, .inr rfl, rfl⟩
  · rintro ⟨k, h1 | rfl, rfl⟩
    · exact .inl ((h _).2 ⟨k, h1, rfl⟩)
    · exact .inr rfl
theorem cmpVs_swo : Sort.SWO (ltOf cmpVs) where
  irrefl x := by simp [ltOf, cmpVs_ord.refl]
  trans x y z h1 h2 := by
    simp only [ltOf, decide_eq_true_eq] at *
    have s1 := cmpVs_ord.sign x y; have s2 := cmpVs_ord.sign y z
    have := cmpVs_ord.trans x y z (by omega) (by omega)
    omega
  ntrans x y z h1 h2 := by
    simp only [ltOf, decide_eq_false_iff_not] at *
    intro h
    have s1 := cmpVs_ord.sign x y; have s2 := cmpVs_ord.sign y z; have s3 := cmpVs_ord.sign x z
    have a1 := cmpVs_ord.anti x y; have a2 := cmpVs_ord.anti y z
    rcases Int.lt_or_eq_of_le (show 0 ≤ cmpVs x y by omega) with hxy | hxy
    · have h3 := cmpVs_ord.trans y x z (by omega) (by omega)
      omega
    · have : x = y := cmpVs_zero.1 hxy.symm
      subst this; omega
theorem touch_succ {l : List Tup} {g : Per} {i : Nat} (hi : i < l.length) : tlins ((l.take (i + 1)).filter (touch g)) = tlins ((l.take i).filter (touch g)) ++ (if touch g l[i] then l[i].lin else []) := by
  rw [List.take_succ_eq_append_getElem hi, List.filter_append, tlins_append]
  congr 1
  by_cases h : touch g l[i] = true
  · rw [if_pos h, List.filter_cons, if_pos h]; simp [tlins]
  · rw [if_neg h, List.filter_cons, if_neg h]; rfl
theorem touch_le (l : List Tup) (g : Per) (i : Nat) : (tlins ((l.take i).filter (touch g))).length ≤ (tlins l).length :=
  tlins_sub (List.filter_sublist.trans (List.take_sublist i l))
def an12 : Ann where
  res := fun _ => none
  lend := fun | 21 => true | _ => false
  sch := fun _ => .done
  lt := fun | 3 => [.slot 7 false [.row 31 51], .slot 12 false [.int .i64]] | _ => []
  tup := tups

theorem vc12 (P : Program) (H : Heap) (lA : Option Addr) (lN lC : Nat) (colsA : Option Addr) (colsN colsC : Nat) (keyA : Option Addr) (keyN keyC : Nat) (post : Option Addr → Nat → Nat → Heap → Prop) :
  vcFn P tab an12 Tryz.f12 [.slice lA lN lC, .slice colsA colsN colsC, .slice keyA keyN keyC] 1 H ⟨false, [(false, [.sl])]⟩ post =
  (  ∃ (inv0 : Nat → List Value → Int → Heap → Prop), ∃ (m1 : Nat → List Value → Int → Nat), inv0 0 [] (0 : Int) H ∧ ∀ (H2 : Heap), Heap.le H H2 → ∀ (n4 : Nat) (xs5 : List Value) (n6 : Int),
  inv0 n4 xs5 n6 H2 → (decide (n6 < (↑lN : Int)) = true → someA lA ∧ (0 : Int) ≤ n6 ∧ n6 < (↑lN : Int) ∧ ∃ (A9 : Option Addr), ∃ (n10 : Nat), ∃ (c11 : Nat), ∃ (n12 : Int), ∃ (n13 : Int), ∃
  (A14 : Option Addr), ∃ (n15 : Nat), ∃ (c16 : Nat), Cells H2 lA (Int.toNat n6 * 4) [.slice A9 n10 c11, .int .i64 n12, .int .i64 n13, .slice A14 n15 c16] ∧ ∃ (post17 : Option Addr → Nat → Nat
  → Heap → Prop), ConT P 19 [.slice A9 n10 c11, .slice colsA colsN colsC] H2 ⟨false, [(false, [.sl])]⟩ post17 ∧ ∀ (H18 : Heap), Heap.le H2 H18 → ∀ (A20 : Option Addr) (n21 c22 : Nat), post17
  A20 n21 c22 H18 → ∃ (post24 : Int → Heap → Prop), ConT P 32 [.slice A20 n21 c22, .slice keyA keyN keyC] H18 ⟨false, [(false, [.int .i64])]⟩ post24 ∧ ∀ (H25 : Heap), Heap.le H18 H25 → ∀ (n27
  : Int), post24 n27 H25 → (decide (n27 = (0 : Int)) = true → (n4 + 1) * 16 ≤ 140737488355328 ∧ rng .i64 (n6 + (1 : Int)) ∧ inv0 (n4 + 1) (xs5 ++ [.int .i64 n12, .int .i64 n13]) (n6 + (1 :
  Int)) H25 ∧ m1 (n4 + 1) (xs5 ++ [.int .i64 n12, .int .i64 n13]) (n6 + (1 : Int)) < m1 n4 xs5 n6) ∧ (decide (n27 = (0 : Int)) = false → rng .i64 (n6 + (1 : Int)) ∧ inv0 n4 xs5 (n6 + (1 :
  Int)) H25 ∧ m1 n4 xs5 (n6 + (1 : Int)) < m1 n4 xs5 n6)) ∧ (decide (n6 < (↑lN : Int)) = false → ∀ (A32 : Option Addr) (c33 : Nat) (H34 : Heap), Heap.le H2 H34 → Cells H34 A32 0 xs5 → n4 ≤
  c33 → ∃ (post38 : Option Addr → Nat → Nat → Heap → Prop), ConT P 33 [.slice A32 n4 c33] H34 ⟨false, [(false, [.sl])]⟩ post38 ∧ ∀ (H39 : Heap), Heap.le H34 H39 → ∀ (A41 : Option Addr) (n42
  c43 : Nat), post38 A41 n42 c43 H39 → post A41 n42 c43 H39)) := by kernel_rfl
theorem foreignkey_Covered {H : Heap} {A B C : Option Addr} {n c m d k e : Nat} {l : List Tup} {cols : List Int} {key : List Val} (hs : Sl H A n c l) (ht : Sl H B m d cols) (hu : Sl H C k e key) (hb : m * 32 ≤ 140737488355328) :
    ConT Tryz.prog 12 [.slice A n c, .slice B m d, .slice C k e] H shS (fun A' n' c' H' => Sl H' A' n' c' (covL l cols key)) := by
  refine con_of_vc (an := an12) (fn := Tryz.f12) mix tabOK Tryz.func12 (by kernel_rfl) (extra := 1) ?_
  rw [vc12]
  have hl := hs.len
  have hbd : n * 64 ≤ 140737488355328 := hs.bnd
  have clen : ∀ i, (covT (l.take i) cols key).length ≤ i := fun i => by
    have : (covT (l.take i) cols key).length ≤ (l.take i).length := List.length_filter_le _ _
    rw [List.length_take] at this; omega
  refine ⟨fun k xs i H' => 0 ≤ i ∧ i ≤ n ∧ k = ((covT (l.take i.toNat) cols key).map (·.p)).length ∧ Row H' xs ((covT (l.take i.toNat) cols key).map (·.p)), fun _ _ i => n - i.toNat, ⟨by omega, by omega, rfl, rfl⟩, ?_⟩
  rintro H2 hle k xs i ⟨h0, h1, hk, hr⟩
  have hc1 := clen i.toNat
  have hk' := hk
  rw [List.length_map] at hk'
  have e1 : (i + 1).toNat = i.toNat + 1 := by omega
  refine ⟨fun hlt => ?_, fun hge => ?_⟩
  · have hlt := of_decide_eq_true hlt
    obtain ⟨hi, hA, _, hc, ⟨A9, n9, c9, A14, n15, c16, rfl, q1, q2, q3, q4⟩⟩ := hs.at hle h0 hlt
    have hsu := congrArg (List.map (·.p)) (covT_succ (cols := cols) (key := key) hi)
    rw [List.map_append] at hsu
    refine ⟨hA, h0, hlt, _, _, _, _, _, _, _, _, hc, _, keys_Values q1 (ht.mono hle) hb, ?_⟩
    intro H4 l4 A4 n4 c4 h4
    refine ⟨_, value_CompareRows h4 (hu.mono (hle_trans hle l4)), ?_⟩
    rintro H5 l5 _ rfl
    have l45 := hle_trans l4 l5
    refine ⟨fun he => ?_, fun he => ?_⟩
    · rw [if_pos he] at hsu
      refine ⟨by omega, by simp only [rng]; omega, ⟨by omega, by omega, by rw [e1, hsu, List.length_append, ← hk]; rfl, ?_⟩, by dsimp only; omega⟩
      rw [e1, hsu]
      exact (hr.mono l45).append (Row.one ⟨rfl, q2, q3⟩)
    · rw [if_neg (by rw [he]; simp), List.map_nil, List.append_nil] at hsu
      exact ⟨by simp only [rng]; omega, ⟨by omega, by omega, by rw [e1, hsu]; exact hk, by rw [e1, hsu]; exact hr.mono l45⟩, by dsimp only; omega⟩
  · have hge := of_decide_eq_false hge
    rw [List.take_of_length_le (by omega)] at hk hr
    intro A4 c4 H4 l4 hc4 hn4
    exact ⟨_, periodset_Normalize (hr.sl l4 hc4 hk.symm hn4 (by show k * 16 ≤ _; omega) (by omega)), fun _ _ _ _ _ h => h⟩
def an34 : Ann where
  res := fun _ => none
  lend := fun _ => false
  sch := fun _ => .done
  lt := fun | 3 => [.slot 3 false [.row 20 51], .slot 8 false [.int .i64]] | _ => []
  tup := tups

theorem vc34 (P : Program) (H : Heap) (tuplesA : Option Addr) (tuplesN tuplesC : Nat) (post : Option Addr → Nat → Nat → Heap → Prop) :
  vcFn P tab an34 Tryz.f34 [.slice tuplesA tuplesN tuplesC] 1 H ⟨false, [(false, [.sl])]⟩ post =
  (  ∃ (inv0 : Nat → List Value → Int → Heap → Prop), ∃ (m1 : Nat → List Value → Int → Nat), inv0 0 [] (0 : Int) H ∧ ∀ (H2 : Heap), Heap.le H H2 → ∀ (n4 : Nat) (xs5 : List Value) (n6 : Int),
  inv0 n4 xs5 n6 H2 → (decide (n6 < (↑tuplesN : Int)) = true → someA tuplesA ∧ (0 : Int) ≤ n6 ∧ n6 < (↑tuplesN : Int) ∧ ∃ (A9 : Option Addr), ∃ (n10 : Nat), ∃ (c11 : Nat), ∃ (n12 : Int), ∃
  (n13 : Int), ∃ (A14 : Option Addr), ∃ (n15 : Nat), ∃ (c16 : Nat), Cells H2 tuplesA (Int.toNat n6 * 4) [.slice A9 n10 c11, .int .i64 n12, .int .i64 n13, .slice A14 n15 c16] ∧ (n4 + 1) * 16 ≤
  140737488355328 ∧ rng .i64 (n6 + (1 : Int)) ∧ inv0 (n4 + 1) (xs5 ++ [.int .i64 n12, .int .i64 n13]) (n6 + (1 : Int)) H2 ∧ m1 (n4 + 1) (xs5 ++ [.int .i64 n12, .int .i64 n13]) (n6 + (1 :
  Int)) < m1 n4 xs5 n6) ∧ (decide (n6 < (↑tuplesN : Int)) = false → ∀ (A18 : Option Addr) (c19 : Nat) (H20 : Heap), Heap.le H2 H20 → Cells H20 A18 0 xs5 → n4 ≤ c19 → ∃ (post24 : Option Addr →
  Nat → Nat → Heap → Prop), ConT P 61 [.slice A18 n4 c19] H20 ⟨false, [(false, [.sl])]⟩ post24 ∧ ∀ (H25 : Heap), Heap.le H20 H25 → ∀ (A27 : Option Addr) (n28 c29 : Nat), post24 A27 n28 c29
  H25 → post A27 n28 c29 H25)) := by kernel_rfl
theorem ref9_Coverage {H : Heap} {A : Option Addr} {n c : Nat} {l : List Tup} (hs : Sl H A n c l) :
    ConT Tryz.prog 34 [.slice A n c] H shS (fun A' n' c' H' => Sl H' A' n' c' (norm (l.map (·.p)))) := by
  refine con_of_vc (an := an34) (fn := Tryz.f34) mix tabOK Tryz.func34 (by kernel_rfl) (extra := 1) ?_
  rw [vc34]
  have hl := hs.len
  have hbd : n * 64 ≤ 140737488355328 := hs.bnd
  refine ⟨fun k xs i H' => 0 ≤ i ∧ i ≤ n ∧ k = i.toNat ∧ Row H' xs ((l.take i.toNat).map (·.p)), fun _ _ i => n - i.toNat, ⟨by omega, by omega, rfl, rfl⟩, ?_⟩
  rintro H2 hle k xs i ⟨h0, h1, hk, hr⟩
  have e1 : (i + 1).toNat = i.toNat + 1 := by omega
  refine ⟨fun hlt => ?_, fun hge => ?_⟩
  · have hlt := of_decide_eq_true hlt
    obtain ⟨hi, hA, _, hc, ⟨A9, n9, c9, A14, n15, c16, rfl, q1, q2, q3, q4⟩⟩ := hs.at hle h0 hlt
    refine ⟨hA, h0, hlt, _, _, _, _, _, _, _, _, hc, by omega, by simp only [rng]; omega, ⟨by omega, by omega, by omega, ?_⟩, by dsimp only; omega⟩
    rw [e1, List.take_succ_eq_append_getElem hi, List.map_append]
    exact hr.append (Row.one ⟨rfl, q2, q3⟩)
  · have hge := of_decide_eq_false hge
    rw [List.take_of_length_le (by omega)] at hr
    intro A4 c4 H4 l4 hc4 hn4
    exact ⟨_, ref1_Normalize (hr.sl l4 hc4 (by rw [List.length_map]; omega) hn4 (by show k * 16 ≤ _; omega) (by omega)), fun _ _ _ _ _ h => h⟩
end Go.Vc
/- Gaps: the program's and the reference's. -/
namespace Go.Vc
open Go Go.Proofs Go.Shelf
theorem withK_lins (l : List Tup) (cols : List Int) (v : List Val) : (tlins (withK l cols v)).length ≤ (tlins l).length := tlins_sub List.filter_sublist
end Go.Vc
/- Violations of a constraint; the sanity check. -/
namespace Go.Vc
open Go Go.Proofs Go.Shelf
theorem ConT.post {P : Program} {f : FuncId} {args : List Value} {H : Heap} {p q : Option Addr → Nat → Nat → Heap → Prop} (h : ConT P f args H shS p) (hpq : ∀ A n c H', p A n c H' → q A n c H') : ConT P f args H shS q := by
  refine ⟨h.1, fun w hw => (h.2 w hw).mono ?_⟩
  rintro e w' ⟨v, H', nr, rfl, ⟨A, n, c, v', e1, e2, e3, e4⟩, hr⟩
  exact ⟨v, H', nr, rfl, ⟨A, n, c, v', e1, e2, e3, hpq _ _ _ _ e4⟩, hr⟩
/- the keys in ascending order, each once -/
def insV (v : List Val) : List (List Val) → List (List Val)
  | [] => [v]
  | u :: r => if v = u then u :: r else if cmpVs v u = -1 then v :: u :: r else u :: insV v r
theorem insV_mem {v x : List Val} : ∀ {r : List (List Val)}, x ∈ insV v r ↔ x = v ∨ x ∈ r
  | [] => by simp [insV]
  | u :: r => by
    unfold insV
    by_cases h : v = u
    · rw [if_pos h]; subst h; simp
    · rw [if_neg h]
      split
      · simp
      · simp only [List.mem_cons, insV_mem]
        constructor
        · rintro (h | h | h)
          · exact .inr (.inl h)
          · exact .inl h
          · exact .inr (.inr h)
        · rintro (h | h | h)
          · exact .inr (.inl h)
          · exact .inl h
          · exact .inr (.inr h)
theorem insV_asc {v : List Val} : ∀ {r : List (List Val)}, ascV r → ascV (insV v r)
  | [], _ => List.pairwise_singleton _ _
  | u :: r, h => by
    obtain ⟨h1, h2⟩ := List.pairwise_cons.1 h
    unfold insV
    by_cases e : v = u
    · rw [if_pos e]; exact h
    · rw [if_neg e]
      split
      · rename_i hlt
        refine List.pairwise_cons.2 ⟨fun x hx => ?_, h⟩
        rcases List.mem_cons.1 hx with rfl | hx
        · exact hlt
        · exact cmpVs_ord.trans _ _ _ hlt (h1 x hx)
      · rename_i hge
        refine List.pairwise_cons.2 ⟨fun x hx => ?_, insV_asc h2⟩
        rcases insV_mem.1 hx with rfl | hx
        · have a := cmpVs_ord.anti u x; have s := cmpVs_ord.sign u x
          have z : cmpVs x u ≠ 0 := fun h => e (cmpVs_zero.1 h)
          omega
        · exact h1 x hx
def keyList (l : List Tup) (cols : List Int) : List (List Val) := (byKeyL l cols).foldr (fun k acc => insV k.key acc) []
theorem keyList_asc (l : List Tup) (cols : List Int) : ascV (keyList l cols) := by
  unfold keyList
  induction byKeyL l cols with
  | nil => exact List.Pairwise.nil
  | cons k r ih => exact insV_asc ih
theorem keyList_keys (l : List Tup) (cols : List Int) : KeysOf (keyList l cols) l cols := by
  unfold KeysOf keyList
  induction byKeyL l cols with
  | nil => intro v; simp
  | cons k r ih =>
    intro v
    rw [List.foldr_cons, insV_mem, ih v]
    constructor
    · rintro (rfl | ⟨x, hx, rfl⟩)
      · exact ⟨k, by simp, rfl⟩
      · exact ⟨x, by simp [hx], rfl⟩
    · rintro ⟨x, hx, rfl⟩
      rcases List.mem_cons.1 hx with rfl | hx
      · exact .inl rfl
      · exact .inr ⟨x, hx, rfl⟩
theorem keyList_eq {l : List Tup} {cols : List Int} {vs : List (List Val)} (h1 : ascV vs) (h2 : KeysOf vs l cols) : vs = keyList l cols :=
  ascV_unique h1 (keyList_asc l cols) fun v => (h2 v).trans (keyList_keys l cols v).symm
def gapsAll (l : List Tup) (cols : List Int) : List Vio := (keyList l cols).flatMap (gapsK l cols)
def keysAll (l : List Tup) (cols : List Int) : List Vio := (keyList l cols).flatMap (keyV l cols)
def consV (l : List Tup) (kind : Int) (cols : List Int) : List Vio := if kind = 1 then gapsAll l cols else if kind = 2 then keysAll l cols else []
/- what a call must be handed -/
structure Fit (l : List Tup) (cols : List Int) : Prop where
  few : l.length < 20
  clen : cols.length * 32 ≤ 140737488355328
  lins : (tlins l).length * 8 ≤ 140737488355328
  keys : keyFit l cols
section
variable {H : Heap} {A B : Option Addr} {n c m d : Nat} {l : List Tup} {cols : List Int}
end
/- the texts of keys fit where the values' strings do -/
theorem digits_len : ∀ (k u : Nat), u < 10 ^ (k + 1) → (Lib.decDigits u).length ≤ k + 1
  | 0, u, h => by rw [Lib.decDigits, dif_pos (by omega)]; simp
  | k + 1, u, h => by
    rw [Lib.decDigits]
    split
    · simp
    · rw [List.length_append, List.length_singleton]
      have := digits_len k (u / 10) (by rw [Nat.div_lt_iff_lt_mul (by decide)]; rw [Nat.pow_succ] at h; exact h)
      omega
theorem itoa_len {n : Int} (h : rng .i64 n) : (Lib.itoa n).length ≤ 21 := by
  simp only [rng] at h
  unfold Lib.itoa
  split
  · have := digits_len 19 n.natAbs (by have : (10 : Nat) ^ (19 + 1) = 100000000000000000000 := by decide
                                       omega)
    first | (rw [List.length_cons]; omega) | (simp only [List.length_cons]; omega)
  · have := digits_len 19 n.natAbs (by have : (10 : Nat) ^ (19 + 1) = 100000000000000000000 := by decide
                                       omega)
    first | omega | (have e : n.toNat = n.natAbs := by omega
                     rw [e]; omega)
def valOk (b : Nat) (v : Val) : Prop := rng .i64 v.kind ∧ rng .i64 v.n ∧ v.s.size ≤ b
theorem valBytes_len {b : Nat} (hb : b ≤ 140737488355328) {v : Val} (h : valOk b v) : (valBytes v).length ≤ 66 + b := by
  have h1 := itoa_len h.1; have h2 := itoa_len h.2.1
  have h3 := itoa_len (n := (v.s.size : Int)) (by have := h.2.2; simp only [rng]; omega)
  have h4 := h.2.2
  have e : v.s.data.toList.length = v.s.size := Array.length_toList
  simp only [valBytes, List.length_append, List.length_cons]; omega
theorem keyBytes_len {b : Nat} (hb : b ≤ 140737488355328) : ∀ {vs : List Val}, (∀ v ∈ vs, valOk b v) → (keyBytes vs).length ≤ vs.length * (66 + b)
  | [], _ => by simp [keyBytes]
  | v :: vs, h => by
    have h1 := valBytes_len hb (h v (by simp))
    have h2 := keyBytes_len hb (vs := vs) fun x hx => h x (by simp [hx])
    have e : (keyBytes (v :: vs)).length = (valBytes v).length + (keyBytes vs).length := by simp [keyBytes]
    rw [e, List.length_cons, Nat.succ_mul]; omega
theorem keyVal_ok {b : Nat} {vals : List Val} {i : Int} (h : ∀ v ∈ vals, valOk b v) : valOk b (keyVal vals i) := by
  have z : valOk b val0 := ⟨by decide, by decide, Nat.zero_le _⟩
  unfold keyVal
  split
  · rw [List.getD_eq_getElem?_getD]
    rcases hv : vals[i.toNat]? with _ | v
    · exact z
    · exact h _ (List.mem_of_getElem? hv)
  · exact z
theorem keyFit_of {l : List Tup} {cols : List Int} {b : Nat} (hb : b ≤ 1048576) (hc : cols.length ≤ 1048576) (h : ∀ t ∈ l, ∀ v ∈ t.vals, valOk b v) : keyFit l cols := by
  intro t ht
  have h1 : ∀ v ∈ keyVals t.vals cols, valOk b v := fun v hv => by
    obtain ⟨i, -, rfl⟩ := List.mem_map.1 hv
    exact keyVal_ok (h t ht)
  have h2 := keyBytes_len (by omega) h1
  have h3 : (keyVals t.vals cols).length = cols.length := List.length_map _
  rw [h3] at h2
  refine Nat.le_trans h2 (Nat.le_trans (Nat.mul_le_mul hc (show 66 + b ≤ 1048642 by omega)) (by decide))
end Go.Vc
/- Foreign keys: plain law. -/
namespace Go.Vc
open Go
/- violations as labelled days -/
def labV (l : List Vio) (d : Int) (x : List Int) : Prop := ∃ v ∈ l, inV v d ∧ v.ids = x
structure NormV (l : List Vio) : Prop where
  chain : chainV l
  pos : ∀ v ∈ l, v.p.lo < v.p.hi
theorem chain_tail {u : Vio} : ∀ {r : List Vio}, chainV (u :: r) → chainV r
  | [], _ => trivial
  | _ :: _, h => h.2
theorem chain_ge {u : Vio} : ∀ {r : List Vio}, chainV (u :: r) → (∀ v ∈ r, v.p.lo < v.p.hi) → ∀ v ∈ r, u.p.hi ≤ v.p.lo
  | [], _, _, v, hv => by cases hv
  | w :: r, h, hp, v, hv => by
    rcases List.mem_cons.1 hv with rfl | hv
    · exact h.1.1
    · have := chain_ge h.2 (fun v hv => hp v (by simp [hv])) v hv
      have := h.1.1
      have := hp w (by simp)
      omega
theorem NormV.tail {u : Vio} {r : List Vio} (h : NormV (u :: r)) : NormV r := ⟨chain_tail h.chain, fun v hv => h.pos v (by simp [hv])⟩
theorem NormV.ge {u : Vio} {r : List Vio} (h : NormV (u :: r)) : ∀ v ∈ r, u.p.hi ≤ v.p.lo := chain_ge h.chain fun v hv => h.pos v (by simp [hv])
/- the label at a day is that of the first violation, where this holds there -/
theorem NormV.head {u : Vio} {r : List Vio} (h : NormV (u :: r)) {d : Int} {x : List Int} (hl : labV (u :: r) d x) (hd : d < u.p.hi) : inV u d ∧ u.ids = x := by
  obtain ⟨w, hw, h1, h2⟩ := hl
  rcases List.mem_cons.1 hw with rfl | hw
  · exact ⟨h1, h2⟩
  · have := h.ge w hw; have := h1.1; omega
theorem NormV.first {u : Vio} {r : List Vio} (h : NormV (u :: r)) {d : Int} {x : List Int} (hl : labV (u :: r) d x) : u.p.lo ≤ d := by
  obtain ⟨w, hw, h1, h2⟩ := hl
  rcases List.mem_cons.1 hw with rfl | hw
  · exact h1.1
  · have := h.ge w hw; have := h.pos u (by simp); have := h1.1; omega
theorem NormV.hi_le {u v : Vio} {r s : List Vio} (ha : NormV (u :: r)) (hb : NormV (v :: s)) (h : ∀ d x, labV (v :: s) d x → labV (u :: r) d x) (hlo : u.p.lo = v.p.lo) (hid : u.ids = v.ids) : v.p.hi ≤ u.p.hi := by
  refine Classical.byContradiction fun hc => ?_
  have hu := ha.pos u (by simp)
  have h1 : labV (v :: s) u.p.hi v.ids := ⟨v, by simp, ⟨by omega, by omega⟩, rfl⟩
  obtain ⟨w, hw, h2, h3⟩ := h _ _ h1
  rcases List.mem_cons.1 hw with rfl | hw
  · have := h2.2; omega
  · rcases r with _ | ⟨k, r⟩
    · cases hw
    · rcases List.mem_cons.1 hw with rfl | hw'
      · have := ha.chain.1
        exact this.2 ⟨by have := this.1; have := h2.1; omega, by rw [hid, h3]⟩
      · have a1 := ha.ge k (by simp)
        have a2 := ha.tail.ge w hw'
        have a3 := ha.pos k (by simp)
        have := h2.1
        omega
theorem normV_ext : ∀ {a b : List Vio}, NormV a → NormV b → (∀ d x, labV a d x ↔ labV b d x) → a = b
  | [], [], _, _, _ => rfl
  | [], v :: s, _, hb, h => by
    obtain ⟨w, hw, -⟩ := (h v.p.lo v.ids).2 ⟨v, by simp, ⟨Int.le_refl _, hb.pos v (by simp)⟩, rfl⟩
    cases hw
  | u :: r, [], ha, _, h => by
    obtain ⟨w, hw, -⟩ := (h u.p.lo u.ids).1 ⟨u, by simp, ⟨Int.le_refl _, ha.pos u (by simp)⟩, rfl⟩
    cases hw
  | u :: r, v :: s, ha, hb, h => by
    have hu := ha.pos u (by simp); have hv := hb.pos v (by simp)
    have l1 : labV (u :: r) u.p.lo u.ids := ⟨u, by simp, ⟨Int.le_refl _, hu⟩, rfl⟩
    have l2 : labV (v :: s) v.p.lo v.ids := ⟨v, by simp, ⟨Int.le_refl _, hv⟩, rfl⟩
    have hlo : u.p.lo = v.p.lo := by
      have a1 := hb.first ((h _ _).1 l1); have a2 := ha.first ((h _ _).2 l2); omega
    have hid : u.ids = v.ids := ((hb.head ((h _ _).1 l1) (by omega)).2).symm
    have hhi : u.p.hi = v.p.hi := by
      have a1 := ha.hi_le hb (fun d x hl => (h d x).2 hl) hlo hid
      have a2 := hb.hi_le ha (fun d x hl => (h d x).1 hl) hlo.symm hid.symm
      omega
    have huv : u = v := vio_eq.2 ⟨hlo, hhi, hid⟩
    subst huv
    congr 1
    refine normV_ext ha.tail hb.tail fun d x => ⟨fun hl => ?_, fun hl => ?_⟩
    · obtain ⟨w, hw, h1, h2⟩ := hl
      have hge := ha.ge w hw
      obtain ⟨w', hw', h1', h2'⟩ := (h d x).1 ⟨w, by simp [hw], h1, h2⟩
      rcases List.mem_cons.1 hw' with rfl | hw'
      · have := h1'.2; have := h1.1; omega
      · exact ⟨w', hw', h1', h2'⟩
    · obtain ⟨w, hw, h1, h2⟩ := hl
      have hge := hb.ge w hw
      obtain ⟨w', hw', h1', h2'⟩ := (h d x).2 ⟨w, by simp [hw], h1, h2⟩
      rcases List.mem_cons.1 hw' with rfl | hw'
      · have := h1'.2; have := h1.1; omega
      · exact ⟨w', hw', h1', h2'⟩
/- one violation more -/
theorem extV_norm {l : List Vio} {v : Vio} (h : NormV l) (hv : v.p.lo < v.p.hi) (hl : ∀ u, l.getLast? = some u → u.p.hi ≤ v.p.lo) :
    NormV (extV l v) ∧ (∀ u, (extV l v).getLast? = some u → u.p.hi = v.p.hi) ∧ ∀ d x, labV (extV l v) d x ↔ labV l d x ∨ (inV v d ∧ v.ids = x) := by
  obtain ⟨c1, c2⟩ := extV_chain h.chain hl
  have key : (∀ w ∈ extV l v, w.p.lo < w.p.hi) ∧ ∀ d x, labV (extV l v) d x ↔ labV l d x ∨ (inV v d ∧ v.ids = x) := by
    have plain : (∀ w ∈ l ++ [v], w.p.lo < w.p.hi) ∧ ∀ d x, labV (l ++ [v]) d x ↔ labV l d x ∨ (inV v d ∧ v.ids = x) := by
      refine ⟨fun w hw => ?_, fun d x => ?_⟩
      · rcases List.mem_append.1 hw with hw | hw
        · exact h.pos w hw
        · rw [List.mem_singleton] at hw; subst hw; exact hv
      · constructor
        · rintro ⟨w, hw, h1⟩
          rcases List.mem_append.1 hw with hw | hw
          · exact .inl ⟨w, hw, h1⟩
          · rw [List.mem_singleton] at hw; subst hw; exact .inr h1
        · rintro (⟨w, hw, h1⟩ | h1)
          · exact ⟨w, by simp [hw], h1⟩
          · exact ⟨v, by simp, h1⟩
    unfold extV
    split
    · rename_i u hu
      have hlu := hl u hu
      obtain ⟨l', rfl⟩ := List.getLast?_eq_some_iff.1 hu
      rw [List.dropLast_concat]
      have hu0 := h.pos u (by simp)
      split
      · rename_i hc
        refine ⟨fun w hw => ?_, fun d x => ?_⟩
        · rcases List.mem_append.1 hw with hw | hw
          · exact h.pos w (by simp [hw])
          · rw [List.mem_singleton] at hw; subst hw; show u.p.lo < v.p.hi; omega
        · constructor
          · rintro ⟨w, hw, h1, h2⟩
            rcases List.mem_append.1 hw with hw | hw
            · exact .inl ⟨w, by simp [hw], h1, h2⟩
            · rw [List.mem_singleton] at hw; subst hw
              have h1a : u.p.lo ≤ d := h1.1
              have h1b : d < v.p.hi := h1.2
              have h2 : u.ids = x := h2
              by_cases hd : d < u.p.hi
              · exact .inl ⟨u, by simp, ⟨h1a, hd⟩, h2⟩
              · exact .inr ⟨⟨by omega, h1b⟩, by rw [← hc.2]; exact h2⟩
          · rintro (⟨w, hw, h1, h2⟩ | ⟨h1, h2⟩)
            · rcases List.mem_append.1 hw with hw | hw
              · exact ⟨w, by simp [hw], h1, h2⟩
              · rw [List.mem_singleton] at hw; subst hw
                exact ⟨⟨⟨w.p.lo, v.p.hi⟩, w.ids⟩, by simp, ⟨h1.1, by have := h1.2; show d < v.p.hi; omega⟩, h2⟩
            · exact ⟨⟨⟨u.p.lo, v.p.hi⟩, u.ids⟩, by simp, ⟨by have := h1.1; show u.p.lo ≤ d; omega, h1.2⟩, by rw [← h2]; exact hc.2⟩
      · exact plain
    · exact plain
  exact ⟨⟨c1, key.1⟩, c2, key.2⟩
/- steps between points, each with what is found at its start -/
def segF (F : Int → Option (List Int)) : List Int → List Vio
  | f :: t :: ps => (match F f with | some x => [⟨⟨f, t⟩, x⟩] | none => []) ++ segF F (t :: ps)
  | _ => []
def accF (F : Int → Option (List Int)) : List Int → List Vio → List Vio
  | f :: t :: ps, out => accF F (t :: ps) (match F f with | some x => extV out ⟨⟨f, t⟩, x⟩ | none => out)
  | _, out => out
def btw : List Int → Int → Prop
  | f :: t :: ps, d => (f ≤ d ∧ d < t) ∨ btw (t :: ps) d
  | _, _ => False
def stepC (F : Int → Option (List Int)) : List Int → Prop
  | f :: t :: ps => (∀ d, f ≤ d → d < t → F d = F f) ∧ stepC F (t :: ps)
  | _ => True
theorem btw_of {a b d : Int} (h1 : a ≤ d) (h2 : d < b) : ∀ {ps : List Int}, ps.Pairwise (fun x y => x < y) → a ∈ ps → b ∈ ps → btw ps d
  | [], _, ha, _ => by cases ha
  | [f], _, ha, hb => by
    rw [List.mem_singleton] at ha hb; omega
  | f :: t :: ps, hp, ha, hb => by
    obtain ⟨p1, p2⟩ := List.pairwise_cons.1 hp
    by_cases hd : d < t
    · refine .inl ⟨?_, hd⟩
      rcases List.mem_cons.1 ha with rfl | ha
      · exact h1
      · have := p1 a ha; omega
    · right
      have hb' : b ∈ t :: ps := by
        rcases List.mem_cons.1 hb with rfl | hb
        · have := p1 t (by simp); omega
        · exact hb
      rcases List.mem_cons.1 ha with rfl | ha
      · exact btw_of (a := t) (by omega) h2 p2 (by simp) hb'
      · exact btw_of h1 h2 p2 ha hb'
theorem segF_lab {F : Int → Option (List Int)} {d : Int} {x : List Int} : ∀ {ps : List Int}, stepC F ps → (labV (segF F ps) d x ↔ btw ps d ∧ F d = some x)
  | [], _ => by simp [segF, labV, btw]
  | [_], _ => by simp [segF, labV, btw]
  | f :: t :: ps, hc => by
    obtain ⟨c1, c2⟩ := hc
    have ih := segF_lab (d := d) (x := x) c2
    have e : labV (segF F (f :: t :: ps)) d x ↔ (f ≤ d ∧ d < t ∧ F f = some x) ∨ labV (segF F (t :: ps)) d x := by
      rw [segF]
      constructor
      · rintro ⟨v, hv, h1, h2⟩
        rcases List.mem_append.1 hv with hv | hv
        · split at hv
          · rename_i y hy
            rw [List.mem_singleton] at hv; subst hv
            exact .inl ⟨h1.1, h1.2, by rw [hy]; exact congrArg some h2⟩
          · cases hv
        · exact .inr ⟨v, hv, h1, h2⟩
      · rintro (⟨h1, h2, h3⟩ | ⟨v, hv, h1⟩)
        · exact ⟨⟨⟨f, t⟩, x⟩, by rw [h3]; simp, ⟨h1, h2⟩, rfl⟩
        · exact ⟨v, List.mem_append_right _ hv, h1⟩
    rw [e, ih, btw]
    constructor
    · rintro (⟨h1, h2, h3⟩ | ⟨h1, h2⟩)
      · exact ⟨.inl ⟨h1, h2⟩, by rw [c1 d h1 h2]; exact h3⟩
      · exact ⟨.inr h1, h2⟩
    · rintro ⟨h1 | h1, h2⟩
      · exact .inl ⟨h1.1, h1.2, by rw [← c1 d h1.1 h1.2]; exact h2⟩
      · exact .inr ⟨h1, h2⟩
theorem accF_lab {F : Int → Option (List Int)} : ∀ {ps : List Int} {out : List Vio}, ps.Pairwise (fun x y => x < y) → stepC F ps → NormV out → (∀ u f, out.getLast? = some u → ps.head? = some f → u.p.hi ≤ f) →
    NormV (accF F ps out) ∧ ∀ d x, labV (accF F ps out) d x ↔ labV out d x ∨ (btw ps d ∧ F d = some x)
  | [], out, _, _, hn, _ => ⟨hn, fun d x => by simp [accF, btw]⟩
  | [_], out, _, _, hn, _ => ⟨hn, fun d x => by simp [accF, btw]⟩
  | f :: t :: ps, out, hp, hc, hn, hl => by
    obtain ⟨c1, c2⟩ := hc
    obtain ⟨p1, p2⟩ := List.pairwise_cons.1 hp
    have hft := p1 t (by simp)
    rw [accF]
    rcases hF : F f with _ | y
    · simp only
      obtain ⟨a1, a2⟩ := accF_lab (out := out) p2 c2 hn (fun u g hu hg => by
        simp only [List.head?_cons, Option.some.injEq] at hg
        subst hg
        have := hl u f hu rfl; omega)
      refine ⟨a1, fun d x => ?_⟩
      rw [a2, btw]
      constructor
      · rintro (h | ⟨h1, h2⟩)
        · exact .inl h
        · exact .inr ⟨.inr h1, h2⟩
      · rintro (h | ⟨h1 | h1, h2⟩)
        · exact .inl h
        · rw [c1 d h1.1 h1.2, hF] at h2; cases h2
        · exact .inr ⟨h1, h2⟩
    · simp only
      obtain ⟨b1, b2, b3⟩ := extV_norm (v := ⟨⟨f, t⟩, y⟩) hn hft (fun u hu => hl u f hu rfl)
      obtain ⟨a1, a2⟩ := accF_lab (out := extV out ⟨⟨f, t⟩, y⟩) p2 c2 b1 (fun u g hu hg => by
        simp only [List.head?_cons, Option.some.injEq] at hg
        subst hg
        have := b2 u hu
        have this : u.p.hi = t := this
        omega)
      refine ⟨a1, fun d x => ?_⟩
      rw [a2, b3, btw]
      constructor
      · rintro ((h | ⟨h1, h2⟩) | ⟨h1, h2⟩)
        · exact .inl h
        · have h1a : f ≤ d := h1.1
          have h1b : d < t := h1.2
          have h2 : y = x := h2
          exact .inr ⟨.inl ⟨h1a, h1b⟩, by rw [c1 d h1a h1b, hF, h2]⟩
        · exact .inr ⟨.inr h1, h2⟩
      · rintro (h | ⟨h1 | h1, h2⟩)
        · exact .inl (.inl h)
        · rw [c1 d h1.1 h1.2, hF] at h2
          exact .inl (.inr ⟨⟨h1.1, h1.2⟩, Option.some.inj h2⟩)
        · exact .inr ⟨h1, h2⟩
/- the child rows that hold on a day without parent -/
def fkF (S A : List Tup) (d : Int) : Option (List Int) := if (S.filter (inT d)).length = 0 then none else if (A.filter (inT d)).length = 0 then some (canon (tlins (S.filter (inT d)))) else none
theorem filt_same {S : List Tup} {f t d : Int} {ps : List Int} (hv : ∀ x ∈ S, x.p.lo ∉ ps ∨ x.p.lo ≤ f ∨ t ≤ x.p.lo) (hm : ∀ x ∈ S, x.p.lo ≤ f ∨ t ≤ x.p.lo) (hm2 : ∀ x ∈ S, x.p.hi ≤ f ∨ t ≤ x.p.hi) (h1 : f ≤ d) (h2 : d < t) : S.filter (inT d) = S.filter (inT f) := by
  refine List.filter_congr fun x hx => ?_
  have a := hm x hx; have b := hm2 x hx
  unfold inT
  rw [Bool.eq_iff_iff, pIn_iff, pIn_iff]
  omega
theorem fk_step {S A : List Tup} : ∀ {ps qs : List Int}, (qs ++ ps).Pairwise (fun x y => x < y) → (∀ x ∈ S ++ A, x.p.lo ∈ qs ++ ps ∧ x.p.hi ∈ qs ++ ps) → stepC (fkF S A) ps
  | [], _, _, _ => trivial
  | [_], _, _, _ => trivial
  | f :: t :: ps, qs, hp, hm => by
    have side : ∀ y ∈ qs ++ f :: t :: ps, y ≤ f ∨ t ≤ y := by
      intro y hy
      obtain ⟨-, q2, q3⟩ := List.pairwise_append.1 hp
      obtain ⟨r1, r2⟩ := List.pairwise_cons.1 q2
      obtain ⟨s1, -⟩ := List.pairwise_cons.1 r2
      rcases List.mem_append.1 hy with hy | hy
      · have := q3 y hy f (by simp); omega
      · rcases List.mem_cons.1 hy with rfl | hy
        · omega
        · rcases List.mem_cons.1 hy with rfl | hy
          · omega
          · have := s1 y hy; omega
    refine ⟨fun d h1 h2 => ?_, fk_step (ps := t :: ps) (qs := qs ++ [f]) (by simpa using hp) (by simpa using hm)⟩
    have eS : S.filter (inT d) = S.filter (inT f) := filt_same (ps := []) (fun x hx => .inl (by simp)) (fun x hx => side _ (hm x (by simp [hx])).1) (fun x hx => side _ (hm x (by simp [hx])).2) h1 h2
    have eA : A.filter (inT d) = A.filter (inT f) := filt_same (ps := []) (fun x hx => .inl (by simp)) (fun x hx => side _ (hm x (by simp [hx])).1) (fun x hx => side _ (hm x (by simp [hx])).2) h1 h2
    unfold fkF
    rw [eS, eA]
theorem tends_mem {S : List Tup} (hv : ∀ x ∈ S, pOk x.p = true) {x : Tup} (hx : x ∈ S) : x.p.lo ∈ canon (tends S) ∧ x.p.hi ∈ canon (tends S) := by
  rw [canon_mem, canon_mem]
  unfold tends
  exact ⟨List.mem_flatMap.2 ⟨x, List.mem_filter.2 ⟨hx, hv x hx⟩, by simp⟩, List.mem_flatMap.2 ⟨x, List.mem_filter.2 ⟨hx, hv x hx⟩, by simp⟩⟩
theorem fk_some {S A : List Tup} {d : Int} {x : List Int} : fkF S A d = some x ↔ (∃ y ∈ S, inT d y = true) ∧ (¬ ∃ y ∈ A, inT d y = true) ∧ canon (tlins (S.filter (inT d))) = x := by
  have h : ∀ L : List Tup, (L.filter (inT d)).length = 0 ↔ ¬ ∃ y ∈ L, inT d y = true := by
    intro L
    rw [List.length_eq_zero_iff, List.filter_eq_nil_iff]
    simp
  unfold fkF
  by_cases h1 : ∃ y ∈ S, inT d y = true
  · rw [if_neg (fun hc => (h S).1 hc h1)]
    by_cases h2 : ∃ y ∈ A, inT d y = true
    · rw [if_neg (fun hc => (h A).1 hc h2)]
      simp only [reduceCtorEq, false_iff]
      exact fun hc => hc.2.1 h2
    · rw [if_pos ((h A).2 h2), Option.some.injEq]
      exact ⟨fun hc => ⟨h1, h2, hc⟩, fun hc => hc.2.2⟩
  · rw [if_pos ((h S).2 h1)]
    simp only [reduceCtorEq, false_iff]
    exact fun hc => h1 hc.1
def refV (S A : List Tup) : List Vio := accF (fkF S A) (canon (tends (S ++ A))) []
theorem fk_btw {S A : List Tup} (hS : ∀ x ∈ S, pOk x.p = true) (hA : ∀ x ∈ A, pOk x.p = true) {d : Int} {y : Tup} (hy : y ∈ S) (h : inT d y = true) : btw (canon (tends (S ++ A))) d := by
  have hv : ∀ x ∈ S ++ A, pOk x.p = true := fun x hx => (List.mem_append.1 hx).elim (hS x) (hA x)
  have := tends_mem hv (x := y) (by simp [hy])
  have h := (pIn_iff.1 h).2
  exact btw_of h.1 h.2 (canon_asc _) this.1 this.2
theorem refV_lab {S A : List Tup} (hS : ∀ x ∈ S, pOk x.p = true) (hA : ∀ x ∈ A, pOk x.p = true) : NormV (refV S A) ∧ ∀ d x, labV (refV S A) d x ↔ fkF S A d = some x := by
  have hv : ∀ x ∈ S ++ A, pOk x.p = true := fun x hx => (List.mem_append.1 hx).elim (hS x) (hA x)
  have hst : stepC (fkF S A) (canon (tends (S ++ A))) := fk_step (qs := []) (canon_asc _) fun x hx => tends_mem hv hx
  obtain ⟨a1, a2⟩ := accF_lab (F := fkF S A) (out := []) (canon_asc (tends (S ++ A))) hst ⟨trivial, fun v hv => by cases hv⟩ (fun u f hu => by cases hu)
  refine ⟨a1, fun d x => ?_⟩
  have e : labV [] d x ↔ False := by simp [labV]
  rw [refV, a2, e, false_or]
  refine ⟨fun h => h.2, fun h => ⟨?_, h⟩⟩
  obtain ⟨⟨y, hy, hin⟩, -⟩ := fk_some.1 h
  exact fk_btw hS hA hy hin
/- the program: each step's part without parent -/
def pieces (s : Vio) (ms : List Per) (out : List Vio) : List Vio := (isect [s.p] ms).foldl (fun o p => extV o ⟨p, s.ids⟩) out
def orphGo : List Vio → List Per → List Vio → List Vio
  | s :: r, ms, out => orphGo r ms (pieces s ms out)
  | [], _, out => out
theorem fold_lab {ids : List Int} : ∀ {ps : List Per} {h : Int} {out : List Vio}, nrmGo h ps = true → NormV out → (∀ u p, out.getLast? = some u → ps.head? = some p → u.p.hi ≤ p.lo) →
    NormV (ps.foldl (fun o p => extV o ⟨p, ids⟩) out) ∧ (∀ u, (ps.foldl (fun o p => extV o ⟨p, ids⟩) out).getLast? = some u → (∃ p ∈ ps, u.p.hi = p.hi) ∨ out.getLast? = some u) ∧
      ∀ d x, labV (ps.foldl (fun o p => extV o ⟨p, ids⟩) out) d x ↔ labV out d x ∨ (inSet ps d = true ∧ ids = x)
  | [], h, out, _, hn, _ => ⟨hn, fun u hu => .inr hu, fun d x => by simp [inSet]⟩
  | p :: ps, h, out, hp, hn, hl => by
    obtain ⟨q1, q2, q3⟩ := nrmGo_cons.1 hp
    obtain ⟨b1, b2, b3⟩ := extV_norm (v := ⟨p, ids⟩) hn q1.2.1 (fun u hu => hl u p hu rfl)
    obtain ⟨a1, a2, a3⟩ := fold_lab (ids := ids) (out := extV out ⟨p, ids⟩) q3 b1 (fun u r hu hr => by
      have e1 := b2 u hu
      have e1 : u.p.hi = p.hi := e1
      rcases ps with _ | ⟨r', ps⟩
      · cases hr
      · simp only [List.head?_cons, Option.some.injEq] at hr
        subst hr
        have := (nrmGo_cons.1 q3).2.1
        omega)
    rw [List.foldl_cons]
    refine ⟨a1, fun u hu => ?_, fun d x => ?_⟩
    · rcases a2 u hu with ⟨r, hr, e⟩ | hu
      · exact .inl ⟨r, by simp [hr], e⟩
      · exact .inl ⟨p, by simp, b2 u hu⟩
    · rw [a3, b3, inSet_cons, Bool.or_eq_true]
      have hin : (inV ⟨p, ids⟩ d ∧ ids = x) ↔ (pIn p d = true ∧ ids = x) := by
        rw [pIn_iff]
        constructor
        · rintro ⟨h1, h2⟩; exact ⟨⟨q1, h1.1, h1.2⟩, h2⟩
        · rintro ⟨⟨-, h1⟩, h2⟩; exact ⟨⟨h1.1, h1.2⟩, h2⟩
      constructor
      · rintro ((h | h) | ⟨h1, h2⟩)
        · exact .inl h
        · have := hin.1 h
          exact .inr ⟨.inl this.1, this.2⟩
        · exact .inr ⟨.inr h1, h2⟩
      · rintro (h | ⟨h1 | h1, h2⟩)
        · exact .inl (.inl h)
        · exact .inl (.inr (hin.2 ⟨h1, h2⟩))
        · exact .inr ⟨h1, h2⟩
theorem isect_bd {a : Per} {ms : List Per} : ∀ p ∈ isect [a] ms, a.lo ≤ p.lo ∧ p.hi ≤ a.hi := by
  intro p hp
  unfold isect isectGo at hp
  obtain ⟨q, hq, hx⟩ := List.mem_flatMap.1 hp
  have hq' : q = a := by
    have e : norm [a] = if pOk a then [a] else [] := by
      unfold norm
      simp only [nrmFrom]
      split <;> simp [ins]
    rw [e] at hq
    split at hq
    · exact List.mem_singleton.1 hq
    · cases hq
  subst hq'
  obtain ⟨r, hr, rfl⟩ := List.mem_map.1 hx
  simp only [perInt]; omega
theorem orphGo_lab {ms : List Per} : ∀ {segs : List Vio} {out : List Vio} {h : Int}, segs.Pairwise (fun a b => a.p.hi ≤ b.p.lo) → NormV out → (∀ u s, out.getLast? = some u → segs.head? = some s → u.p.hi ≤ s.p.lo) → (∀ s ∈ segs, s.p.lo < s.p.hi) →
    NormV (orphGo segs ms out) ∧ ∀ d x, labV (orphGo segs ms out) d x ↔ labV out d x ∨ ∃ s ∈ segs, inSet (isect [s.p] ms) d = true ∧ s.ids = x
  | [], out, _, _, hn, _, _ => ⟨hn, fun d x => by simp [orphGo]⟩
  | s :: r, out, h, hp, hn, hl, hpos => by
    obtain ⟨p1, p2⟩ := List.pairwise_cons.1 hp
    have hnr := isect_nrm [s.p] ms
    have hbd := isect_bd (a := s.p) (ms := ms)
    obtain ⟨a1, a2, a3⟩ := fold_lab (ids := s.ids) (ps := isect [s.p] ms) (h := -1) (out := out) hnr hn (fun u p hu hpp => by
      have := hl u s hu rfl
      have := (hbd p (List.mem_of_mem_head? hpp)).1
      omega)
    obtain ⟨b1, b2⟩ := orphGo_lab (ms := ms) (segs := r) (out := pieces s ms out) (h := h) p2 a1 (fun u q hu hq => by
      have hqm := List.mem_of_mem_head? hq
      have hsq := p1 q hqm
      rcases a2 u hu with ⟨p, hpm, e⟩ | hu
      · have := (hbd p hpm).2; omega
      · have := hl u s hu rfl
        have := hpos s (by simp)
        omega) (fun q hq => hpos q (by simp [hq]))
    refine ⟨b1, fun d x => ?_⟩
    rw [orphGo, b2]
    unfold pieces
    rw [a3]
    constructor
    · rintro ((h | h) | ⟨q, hq, h⟩)
      · exact .inl h
      · exact .inr ⟨s, by simp, h⟩
      · exact .inr ⟨q, by simp [hq], h⟩
    · rintro (h | ⟨q, hq, h⟩)
      · exact .inl (.inl h)
      · rcases List.mem_cons.1 hq with rfl | hq
        · exact .inl (.inr h)
        · exact .inr ⟨q, hq, h⟩
theorem segF_asc {F : Int → Option (List Int)} : ∀ {ps : List Int}, ps.Pairwise (fun x y => x < y) → (segF F ps).Pairwise (fun a b => a.p.hi ≤ b.p.lo) ∧ ∀ s ∈ segF F ps, s.p.lo < s.p.hi ∧ s.p.lo ∈ ps ∧ s.p.hi ∈ ps
  | [], _ => ⟨List.Pairwise.nil, fun s hs => by cases hs⟩
  | [_], _ => ⟨List.Pairwise.nil, fun s hs => by cases hs⟩
  | f :: t :: ps, hp => by
    obtain ⟨p1, p2⟩ := List.pairwise_cons.1 hp
    obtain ⟨a1, a2⟩ := segF_asc (F := F) p2
    have hft := p1 t (by simp)
    rw [segF]
    split
    · rename_i x hx
      refine ⟨List.pairwise_cons.2 ⟨fun s hs => ?_, a1⟩, fun s hs => ?_⟩
      · have h1 := (a2 s hs).2.1
        rcases List.mem_cons.1 h1 with h1 | h1
        · show t ≤ s.p.lo; omega
        · have := (List.pairwise_cons.1 p2).1 _ h1
          show t ≤ s.p.lo; omega
      · rcases List.mem_cons.1 hs with rfl | hs
        · exact ⟨hft, by simp, by simp⟩
        · exact ⟨(a2 s hs).1, List.mem_cons_of_mem _ (a2 s hs).2.1, List.mem_cons_of_mem _ (a2 s hs).2.2⟩
    · exact ⟨a1, fun s hs => ⟨(a2 s hs).1, List.mem_cons_of_mem _ (a2 s hs).2.1, List.mem_cons_of_mem _ (a2 s hs).2.2⟩⟩
theorem tset_in {S : List Tup} {d : Int} : inSet (S.map (·.p)) d = true ↔ ∃ y ∈ S, inT d y = true := by
  unfold inSet
  rw [List.any_map, List.any_eq_true]
  rfl
/- the program's violations of one key are the reference's -/
theorem orph_ref {S A : List Tup} {ms : List Per} (hS : ∀ x ∈ S, pOk x.p = true) (hA : ∀ x ∈ A, pOk x.p = true) (hms : ∀ d, inSet ms d = (inSet (S.map (·.p)) d && !inSet (A.map (·.p)) d)) :
    orphGo (segF (fkF S []) (canon (tends S))) ms [] = refV S A := by
  obtain ⟨r1, r2⟩ := refV_lab hS hA
  obtain ⟨s1, s2⟩ := segF_asc (F := fkF S []) (canon_asc (tends S))
  have hst : stepC (fkF S []) (canon (tends S)) := fk_step (qs := []) (canon_asc _) fun x hx => tends_mem hS (by simpa using hx)
  have hsl := fun d x => segF_lab (d := d) (x := x) hst
  obtain ⟨o1, o2⟩ := orphGo_lab (ms := ms) (segs := segF (fkF S []) (canon (tends S))) (out := []) (h := 0) s1 ⟨trivial, fun v hv => by cases hv⟩ (fun u s hu => by cases hu) (fun s hs => (s2 s hs).1)
  refine normV_ext o1 r1 fun d x => ?_
  have e : labV [] d x ↔ False := by simp [labV]
  rw [o2, r2, e, false_or]
  have hok : ∀ s ∈ segF (fkF S []) (canon (tends S)), pOk s.p = true := by
    intro s hs
    obtain ⟨h1, h2, h3⟩ := s2 s hs
    rw [canon_mem] at h2 h3
    unfold tends at h2 h3
    obtain ⟨y, hy, h2⟩ := List.mem_flatMap.1 h2
    obtain ⟨z, hz, h3⟩ := List.mem_flatMap.1 h3
    have b1 := pOk_iff.1 (List.mem_filter.1 hy).2
    have b2 := pOk_iff.1 (List.mem_filter.1 hz).2
    simp only [List.mem_cons, List.not_mem_nil, or_false] at h2 h3
    rw [pOk_iff]; omega
  have hone : ∀ s ∈ segF (fkF S []) (canon (tends S)), (inSet [s.p] d = true ↔ inV s d) := by
    intro s hs
    rw [inSet_cons, inSet_nil, Bool.or_false, pIn_iff]
    have := pOk_iff.1 (hok s hs)
    exact ⟨fun h => h.2, fun h => ⟨this, h⟩⟩
  rw [fk_some]
  constructor
  · rintro ⟨s, hs, h1, h2⟩
    rw [isect_in, Bool.and_eq_true, hone s hs, hms, Bool.and_eq_true] at h1
    obtain ⟨h3, h4, h5⟩ := h1
    obtain ⟨-, h6⟩ := (hsl d x).1 ⟨s, hs, h3, h2⟩
    obtain ⟨a, -, b⟩ := fk_some.1 h6
    refine ⟨a, fun hc => ?_, b⟩
    rw [tset_in.2 hc] at h5; simp at h5
  · rintro ⟨a, b, c⟩
    have h6 : fkF S [] d = some x := fk_some.2 ⟨a, by simp, c⟩
    obtain ⟨y, hy, hin⟩ := a
    have hbt := fk_btw (A := []) hS (fun x hx => by cases hx) hy hin
    rw [List.append_nil] at hbt
    obtain ⟨s, hs, h3, h2⟩ := (hsl d x).2 ⟨hbt, h6⟩
    refine ⟨s, hs, ?_, h2⟩
    rw [isect_in, Bool.and_eq_true, hone s hs, hms, Bool.and_eq_true]
    refine ⟨h3, tset_in.2 ⟨y, hy, hin⟩, ?_⟩
    rcases h : inSet (A.map (·.p)) d with _ | _
    · rw [h]; rfl
    · exact absurd (tset_in.1 h) b
end Go.Vc
/- Sorting tuples by their starts; deleting those that have ended. -/
namespace Go.Vc
open Go Go.Proofs Go.Shelf
def cmpLo (a b : Tup) : Int := cmpI a.p.lo b.p.lo
theorem cmpLo_swo : Sort.SWO (ltOf cmpLo) := swo_of cmpI_ord fun t : Tup => t.p.lo
def insLay_Tup_ren : Go.Shelf.Ren := ⟨fun | 20 => 167 | n => n, fun | 24 => 57 | 22 => 22 | 3 => 3 | 25 => 141 | 4 => 4 | 0 => 0 | n => n, fun n => n⟩
theorem insLay_Tup : SlLaysF0.n20 Tryz.prog insLay_Tup_ren where
  mixed := by kernel_rfl
  f20 := ⟨Tryz.f167.name, by kernel_rfl, Tryz.func167.trans (congrArg some (by kernel_rfl))⟩
  t0 := Tryz.underlying0
  a0 := Tryz.isAgg0
  z0 := Tryz.sizeOf0
  v0 := Tryz.zeroValue0
  t3 := Tryz.underlying3
  a3 := Tryz.isAgg3
  z3 := Tryz.sizeOf3
  v3 := Tryz.zeroValue3
  t4 := Tryz.underlying4
  a4 := Tryz.isAgg4
  z4 := Tryz.sizeOf4
  v4 := Tryz.zeroValue4
  t22 := Tryz.underlying22
  a22 := Tryz.isAgg22
  z22 := Tryz.sizeOf22
  v22 := Tryz.zeroValue22
  t25 := Tryz.underlying141
  a25 := Tryz.isAgg141
  z25 := Tryz.sizeOf141
  v25 := Tryz.zeroValue141
theorem insL_Tup : InsL Tryz.prog insLay_Tup_ren 4 := ⟨insLay_Tup, Tryz.isAgg57, Tryz.sizeOf57, by kernel_rfl⟩
set_option maxRecDepth 100000 in
theorem ins_Tup {H : Heap} {n i j : Nat} (hij : i ≤ j) {xs : List Value} {l : List Tup} (hr : Row H xs l) (hl : l.length = n) (hj : j ≤ n) (hn : n ≤ 140737488355328) {g : FuncId} (hg : FnOK Tryz.prog g) {cf : Tup → Tup → Int} (hO : Sort.SWO (ltOf cf)) (hc : CmpT Tryz.prog Tup H g cf) :
    ConM Tryz.prog 167 [.slice none 0 0, .int .i64 i, .int .i64 j, .func (.func g) #[] #[]] 0 57 n xs true H ⟨true, []⟩
      (fun ys (H' : Heap) => ∃ m : List Tup, Row H' ys (l.take i ++ m ++ l.drop j) ∧ m.Perm ((l.take j).drop i) ∧ m.Pairwise (fun a b => ¬ cf b a < 0)) :=
  by
    have h := ins_con (cap := []) insL_Tup hij hr hl hj hn hg hO (fun H' vs us s t h1 h2 h3 => hc H' vs us s t h1 h2 h3)
    exact h
def an134 : Ann where
  res := fun _ => none
  lend := fun _ => false
  mt := fun | 167 => some true | 168 => some true | _ => none
  sch := fun _ => .done
  lt := fun | 2 => [.rowc 63 57, .slot 7 false [.int .i64], .slot 8 false [.int .i64]] | 7 => [.rowc 63 57, .slot 6 false [.int .i64]] | 9 => [.rowc 63 57, .slot 7 false [.int .i64], .slot 8 false [.int .i64]] | _ => []
  tup := tups

theorem vc134 (P : Program) (H : Heap) (n : Int) (cmpF : FuncId) (rowN : Nat) (rowXs : List Value) (post : List Value → Heap → Prop) :
  vcFnK P tab an134 Tryz.f134 [.slice none 0 0, .int .i64 n, .func (.func cmpF) #[] #[]] 0 57 rowN rowXs 0 H post =
  (  ∀ (s0 : Value), ∃ (inv1 : Nat → List Value → Int → Int → Heap → Prop), ∃ (m2 : Nat → List Value → Int → Int → Nat), inv1 rowN rowXs (0 : Int) (20 : Int) H ∧ ∀ (H3 : Heap), Heap.le H H3 → ∀
  (n5 : Nat) (xs6 : List Value) (n7 n8 : Int), inv1 n5 xs6 n7 n8 H3 → (decide (n8 ≤ n) = true → ∃ (post11 : List Value → Heap → Prop), ConM P 167 [.slice none 0 0, .int .i64 n7, .int .i64 n8,
  .func (.func cmpF) ⟨[]⟩ ⟨[]⟩] 0 57 n5 xs6 true H3 ⟨true, []⟩ post11 ∧ ∀ (H12 : Heap), Heap.le H3 H12 → ∀ (ys14 : List Value), post11 ys14 H12 → rng .i64 (n8 + (20 : Int)) ∧ inv1 n5 ys14 n8
  (n8 + (20 : Int)) H12 ∧ m2 n5 ys14 n8 (n8 + (20 : Int)) < m2 n5 xs6 n7 n8) ∧ (decide (n8 ≤ n) = false → ∃ (post17 : List Value → Heap → Prop), ConM P 167 [.slice none 0 0, .int .i64 n7,
  .int .i64 n, .func (.func cmpF) ⟨[]⟩ ⟨[]⟩] 0 57 n5 xs6 true H3 ⟨true, []⟩ post17 ∧ ∀ (H18 : Heap), Heap.le H3 H18 → ∀ (ys20 : List Value), post17 ys20 H18 → ∃ (inv22 : Nat → List Value →
  Int → Heap → Prop), ∃ (m23 : Nat → List Value → Int → Nat), inv22 n5 ys20 (20 : Int) H18 ∧ ∀ (H24 : Heap), Heap.le H18 H24 → ∀ (n26 : Nat) (xs27 : List Value) (n28 : Int), inv22 n26 xs27
  n28 H24 → (decide (n28 < n) = true → rng .i64 ((2 : Int) * n28) ∧ ∃ (inv31 : Nat → List Value → Int → Int → Heap → Prop), ∃ (m32 : Nat → List Value → Int → Int → Nat), inv31 n26 xs27 (0 :
  Int) ((2 : Int) * n28) H24 ∧ ∀ (H33 : Heap), Heap.le H24 H33 → ∀ (n35 : Nat) (xs36 : List Value) (n37 n38 : Int), inv31 n35 xs36 n37 n38 H33 → (decide (n38 ≤ n) = true → rng .i64 (n37 +
  n28) ∧ ∃ (post41 : List Value → Heap → Prop), ConM P 168 [.slice none 0 0, .int .i64 n37, .int .i64 (n37 + n28), .int .i64 n38, .func (.func cmpF) ⟨[]⟩ ⟨[]⟩] 0 57 n35 xs36 true H33 ⟨true,
  []⟩ post41 ∧ ∀ (H42 : Heap), Heap.le H33 H42 → ∀ (ys44 : List Value), post41 ys44 H42 → rng .i64 ((2 : Int) * n28) ∧ rng .i64 (n38 + (2 : Int) * n28) ∧ inv31 n35 ys44 n38 (n38 + (2 : Int) *
  n28) H42 ∧ m32 n35 ys44 n38 (n38 + (2 : Int) * n28) < m32 n35 xs36 n37 n38) ∧ (decide (n38 ≤ n) = false → rng .i64 (n37 + n28) ∧ (decide (n37 + n28 < n) = true → ∃ (post48 : List Value →
  Heap → Prop), ConM P 168 [.slice none 0 0, .int .i64 n37, .int .i64 (n37 + n28), .int .i64 n, .func (.func cmpF) ⟨[]⟩ ⟨[]⟩] 0 57 n35 xs36 true H33 ⟨true, []⟩ post48 ∧ ∀ (H49 : Heap),
  Heap.le H33 H49 → ∀ (ys51 : List Value), post48 ys51 H49 → rng .i64 (n28 * (2 : Int)) ∧ inv22 n35 ys51 (n28 * (2 : Int)) H49 ∧ m23 n35 ys51 (n28 * (2 : Int)) < m23 n26 xs27 n28) ∧ (decide
  (n37 + n28 < n) = false → rng .i64 (n28 * (2 : Int)) ∧ inv22 n35 xs36 (n28 * (2 : Int)) H33 ∧ m23 n35 xs36 (n28 * (2 : Int)) < m23 n26 xs27 n28))) ∧ (decide (n28 < n) = false → s0 = s0 ∧
  n26 = rowN ∧ post xs27 H24))) := by kernel_rfl
theorem stable_Tup {H : Heap} {n : Nat} {xs : List Value} {l : List Tup} (hr : Row H xs l) (hl : l.length = n) (hn : n < 20) {g : FuncId} (hg : FnOK Tryz.prog g) {cf : Tup → Tup → Int} (hO : Sort.SWO (ltOf cf)) (hc : CmpT Tryz.prog Tup H g cf) :
    ConM Tryz.prog 134 [.slice none 0 0, .int .i64 n, .func (.func g) #[] #[]] 0 57 n xs true H ⟨true, []⟩
      (fun ys (H' : Heap) => ∃ m : List Tup, Row H' ys m ∧ m.Perm l ∧ m.Pairwise (fun a b => ¬ cf b a < 0)) := by
  refine conK_of_vc (an := an134) (fn := Tryz.f134) mix tabOK Tryz.func134 (by kernel_rfl) (extra := 0) (by simp) ?_
  rw [vc134]
  intro s0
  refine ⟨fun k xs i j H' => k = n ∧ i = 0 ∧ j = 20 ∧ Row H' xs l, fun _ _ _ _ => 0, ⟨rfl, rfl, rfl, hr⟩, ?_⟩
  rintro H2 l2 k ys i j ⟨rfl, rfl, rfl, hr2⟩
  refine ⟨fun h => ?_, fun _ => ?_⟩
  · have := of_decide_eq_true h; omega
  refine ⟨_, ins_Tup (i := 0) (j := k) (Nat.zero_le _) hr2 hl (Nat.le_refl _) (by omega) hg hO (fun H' vs us s t h1 h2 h3 => hc H' vs us s t (hle_trans l2 h1) h2 h3), ?_⟩
  rintro H3 l3 ys' ⟨m, h1, h2, h3⟩
  have e1 : l.take k = l := List.take_of_length_le (by omega)
  have e2 : l.drop k = [] := List.drop_eq_nil_of_le (by omega)
  simp only [List.take_zero, List.nil_append, e1, e2, List.append_nil, List.drop_zero] at h1 h2
  refine ⟨fun k' xs b H' => k' = k ∧ b = 20 ∧ Row H' xs m, fun _ _ _ => 0, ⟨rfl, rfl, h1⟩, ?_⟩
  rintro H4 l4 _ zs b ⟨rfl, rfl, hr4⟩
  refine ⟨fun h => ?_, fun _ => ⟨rfl, rfl, m, hr4, h2, h3⟩⟩
  have := of_decide_eq_true h; omega
def an96 : Ann where
  res := fun _ => none
  lend := fun _ => false
  mt := fun | 134 => some true | _ => none
  sch := fun _ => .done
  lt := fun _ => []
  tup := tups

theorem vc96 (P : Program) (H : Heap) (cmpF : FuncId) (rowN : Nat) (rowXs : List Value) (post : List Value → Heap → Prop) :
  vcFnK P tab an96 Tryz.f96 [.slice none 0 0, .func (.func cmpF) #[] #[]] 0 57 rowN rowXs 0 H post =
  (  ∀ (s0 : Value), ∃ (post1 : List Value → Heap → Prop), ConM P 134 [.slice none 0 0, .int .i64 (↑rowN : Int), .func (.func cmpF) ⟨[]⟩ ⟨[]⟩] 0 57 rowN rowXs true H ⟨true, []⟩ post1 ∧ ∀ (H2 :
  Heap), Heap.le H H2 → ∀ (ys4 : List Value), post1 ys4 H2 → s0 = s0 ∧ rowN = rowN ∧ post ys4 H2) := by kernel_rfl
theorem SortStable_Tup {H : Heap} {n : Nat} {xs : List Value} {l : List Tup} (hr : Row H xs l) (hl : l.length = n) (hn : n < 20) {g : FuncId} (hg : FnOK Tryz.prog g) {cf : Tup → Tup → Int} (hO : Sort.SWO (ltOf cf)) (hc : CmpT Tryz.prog Tup H g cf) :
    ConM Tryz.prog 96 [.slice none 0 0, .func (.func g) #[] #[]] 0 57 n xs true H ⟨true, []⟩
      (fun ys (H' : Heap) => ∃ m : List Tup, Row H' ys m ∧ m.Perm l ∧ m.Pairwise (fun a b => ¬ cf b a < 0)) := by
  refine conK_of_vc (an := an96) (fn := Tryz.f96) mix tabOK Tryz.func96 (by kernel_rfl) (extra := 0) (by simp) ?_
  rw [vc96]
  intro s0
  exact ⟨_, stable_Tup hr hl hn hg hO hc, fun H2 l2 ys h => ⟨rfl, rfl, h⟩⟩
def an135 : Ann where
  res := fun _ => none
  lend := fun | 16 => true | _ => false
  sch := fun _ => .done
  lt := fun | 2 => [.slot 8 false [.int .i64]] | _ => []
  tup := tups

theorem vc135 (P : Program) (H : Heap) (sA : Option Addr) (sN sC : Nat) (fF : FuncId) (fP : Value) (post : Int → Heap → Prop) :
  vcFn P tab an135 Tryz.f135 [.slice sA sN sC, .func (.func fF) #[] #[fP]] 0 H ⟨false, [(false, [.int .i64])]⟩ post =
  (  ∃ (inv0 : Int → Heap → Prop), ∃ (m1 : Int → Nat), inv0 (0 : Int) H ∧ ∀ (H2 : Heap), Heap.le H H2 → ∀ (n4 : Int), inv0 n4 H2 → (decide (n4 < (↑sN : Int)) = true → someA sA ∧ (0 : Int) ≤ n4 ∧
  n4 < (↑sN : Int) ∧ ∃ (A7 : Option Addr), ∃ (n8 : Nat), ∃ (c9 : Nat), ∃ (n10 : Int), ∃ (n11 : Int), ∃ (A12 : Option Addr), ∃ (n13 : Nat), ∃ (c14 : Nat), Cells H2 sA (Int.toNat n4 * 4)
  [.slice A7 n8 c9, .int .i64 n10, .int .i64 n11, .slice A12 n13 c14] ∧ ∃ (post15 : Bool → Heap → Prop), ConT P fF [.agg ⟨[.slice A7 n8 c9, .int .i64 n10, .int .i64 n11, .slice A12 n13 c14]⟩,
  fP] H2 ⟨false, [(false, [.bool])]⟩ post15 ∧ ∀ (H16 : Heap), Heap.le H2 H16 → ∀ (b18 : Bool), post15 b18 H16 → (b18 = true → post n4 H16) ∧ (b18 = false → rng .i64 (n4 + (1 : Int)) ∧ inv0
  (n4 + (1 : Int)) H16 ∧ m1 (n4 + (1 : Int)) < m1 n4)) ∧ (decide (n4 < (↑sN : Int)) = false → post (-1 : Int) H2)) := by kernel_rfl
theorem IndexFunc_Tup {H : Heap} {A : Option Addr} {n c : Nat} {l : List Tup} {f : FuncId} {q : Value} {p : Tup → Bool} (hs : Sl H A n c l) (hf : PredFn Tryz.prog Tup H f q p) :
    ConT Tryz.prog 135 [.slice A n c, .func (.func f) #[] #[q]] H shI (fun r _ => r = idxOf p 0 l) := by
  refine con_of_vc (an := an135) (fn := Tryz.f135) mix tabOK Tryz.func135 (by kernel_rfl) (extra := 0) ?_
  rw [vc135]
  refine ⟨fun n _ => 0 ≤ n ∧ n ≤ l.length ∧ idxOf p 0 l = idxOf p n (l.drop n.toNat), fun n => l.length - n.toNat, ⟨by omega, by omega, rfl⟩, ?_⟩
  rintro H2 hle i ⟨h0, h1, h2⟩
  simp only [decide_eq_true_eq, decide_eq_false_iff_not]
  refine ⟨fun hlt => ?_, fun hge => ?_⟩
  · obtain ⟨hi, hA, _, hc, hr⟩ := hs.at hle h0 hlt
    have hcon := hf H2 _ _ hle hr
    obtain ⟨A9, n9, c9, B9, m9, d9, rfl, -⟩ := hr
    refine ⟨hA, h0, hlt, _, _, _, _, _, _, _, _, hc, _, hcon, ?_⟩
    rintro H3 _ b rfl
    rw [drop_at h0 hi, idxOf] at h2
    refine ⟨fun hp => ?_, fun hp => ⟨?_, ⟨by omega, by omega, ?_⟩, by omega⟩⟩
    · rw [h2, if_pos hp]
    · have := hs.bn; have := hs.len; simp only [rng]; omega
    · rw [h2, if_neg (by simp [hp])]
  · rw [drop_end hge hs.len, idxOf] at h2
    exact h2.symm
def an99 : Ann where
  res := fun _ => none
  lend := fun | 10 => true | 28 => true | _ => false
  sch := fun _ => .done
  lt := fun | 5 => [.slot 0 false [.row 42 57], .slot 5 false [.int .i64], .slot 6 false [.int .i64]] | _ => []
  tup := tups

theorem vc99 (P : Program) (H : Heap) (delF : FuncId) (delP : Value) (rowN : Nat) (rowXs : List Value) (ri0 : Nat) (post : Nat → List Value → Heap → Prop) :
  vcFnM P tab an99 Tryz.f99 [.slice none 0 0, .func (.func delF) #[] #[delP]] 0 57 rowN rowXs 1 H ⟨false, [(false, [.row ri0 57])]⟩ post =
  (  ∃ (post0 : Int → Heap → Prop), (∀ (A1 : Option Addr) (c2 : Nat) (H3 : Heap), Heap.le H H3 → Cells H3 A1 0 rowXs → rowN ≤ c2 → ConT P 135 [.slice A1 rowN c2, .func (.func delF) ⟨[]⟩
  ⟨[delP]⟩] H3 ⟨false, [(false, [.int .i64])]⟩ post0) ∧ ∀ (H7 : Heap) (n8 : Int), post0 n8 H7 → (decide (n8 = (-1 : Int)) = true → post rowN rowXs H) ∧ (decide (n8 = (-1 : Int)) = false → rng
  .i64 (n8 + (1 : Int)) ∧ ∃ (inv12 : Nat → List Value → Int → Int → Heap → Prop), ∃ (m13 : Nat → List Value → Int → Int → Nat), inv12 rowN rowXs n8 (n8 + (1 : Int)) H ∧ ∀ (H14 : Heap),
  Heap.le H H14 → ∀ (n16 : Nat) (xs17 : List Value) (n18 n19 : Int), inv12 n16 xs17 n18 n19 H14 → (decide (n19 < (↑n16 : Int)) = true → (0 : Int) ≤ n19 ∧ n19 < (↑n16 : Int) ∧ ∃ (A22 : Option
  Addr), ∃ (n23 : Nat), ∃ (c24 : Nat), ∃ (n25 : Int), ∃ (n26 : Int), ∃ (A27 : Option Addr), ∃ (n28 : Nat), ∃ (c29 : Nat), win xs17 (Int.toNat n19 * 4) 4 = [.slice A22 n23 c24, .int .i64 n25,
  .int .i64 n26, .slice A27 n28 c29] ∧ ∃ (post30 : Bool → Heap → Prop), ConT P delF [.agg ⟨[.slice A22 n23 c24, .int .i64 n25, .int .i64 n26, .slice A27 n28 c29]⟩, delP] H14 ⟨false, [(false,
  [.bool])]⟩ post30 ∧ ∀ (H31 : Heap), Heap.le H14 H31 → ∀ (b33 : Bool), post30 b33 H31 → ((!b33) = true → (0 : Int) ≤ n18 ∧ n18 < (↑n16 : Int) ∧ Int.toNat n18 * 4 + 4 ≤ List.length xs17 ∧ rng
  .i64 (n18 + (1 : Int)) ∧ rng .i64 (n19 + (1 : Int)) ∧ inv12 n16 (splice xs17 (Int.toNat n18 * 4) [.slice A22 n23 c24, .int .i64 n25, .int .i64 n26, .slice A27 n28 c29]) (n18 + (1 : Int))
  (n19 + (1 : Int)) H31 ∧ m13 n16 (splice xs17 (Int.toNat n18 * 4) [.slice A22 n23 c24, .int .i64 n25, .int .i64 n26, .slice A27 n28 c29]) (n18 + (1 : Int)) (n19 + (1 : Int)) < m13 n16 xs17
  n18 n19) ∧ ((!b33) = false → rng .i64 (n19 + (1 : Int)) ∧ inv12 n16 xs17 n18 (n19 + (1 : Int)) H31 ∧ m13 n16 xs17 n18 (n19 + (1 : Int)) < m13 n16 xs17 n18 n19)) ∧ (decide (n19 < (↑n16 :
  Int)) = false → (0 : Int) ≤ n18 ∧ n18 ≤ (↑n16 : Int) ∧ (↑n16 : Int) ≤ (↑n16 : Int) ∧ (0 : Int) ≤ (0 : Int) ∧ (0 : Int) ≤ n18 ∧ n18 ≤ (↑n16 : Int) ∧ post (Int.toNat n18 - 0) (List.take
  (List.length (splice xs17 (Int.toNat n18 * 4) (repl [.slice none 0 0, .int .i64 (0 : Int), .int .i64 (0 : Int), .slice none 0 0] (Int.toNat (↑n16 : Int) - Int.toNat n18))) / n16 *
  (Int.toNat n18 - 0)) (splice xs17 (Int.toNat n18 * 4) (repl [.slice none 0 0, .int .i64 (0 : Int), .int .i64 (0 : Int), .slice none 0 0] (Int.toNat (↑n16 : Int) - Int.toNat n18)))) H14))) := by kernel_rfl
theorem DeleteFunc_Tup {H0 H : Heap} {n r : Nat} {xs : List Value} {l : List Tup} {f : FuncId} {q : Value} {p : Tup → Bool} (hle0 : Heap.le H0 H) (hr : Row H0 xs l) (hl : l.length = n) (hb : n * 64 ≤ 140737488355328) (hf : PredFn Tryz.prog Tup H f q p) :
    ConM Tryz.prog 99 [.slice none 0 0, .func (.func f) #[] #[q]] 0 57 n xs false H ⟨false, [(false, [.row r 57])]⟩
      (fun _ => fun k ys _ => k = (l.filter fun x => !p x).length ∧ Row H0 ys (l.filter fun x => !p x)) := by
  refine conM_of_vc (an := an99) (fn := Tryz.f99) mix tabOK Tryz.func99 (by kernel_rfl) (extra := 1) (by simp) ?_
  rw [vc99]
  refine ⟨_, fun A1 c1 H3 l3 hc hn => IndexFunc_Tup (hr.sl (hle_trans hle0 l3) hc hl hn hb (by omega)) (fun H' vs t h1 h2 => hf H' vs t (hle_trans l3 h1) h2), ?_⟩
  rintro H7 i0 rfl
  rcases idxOf_spec p l 0 (by omega) with ⟨h1, h2⟩ | ⟨k0, h1, h2, h3⟩
  · refine ⟨fun _ => ⟨by rw [h2, hl], by rw [h2]; exact hr⟩, fun he => ?_⟩
    have := of_decide_eq_false he
    exact absurd h1 this
  rw [h1]
  refine ⟨fun he => by have := of_decide_eq_true he; omega, fun he => ⟨by simp only [rng]; omega, ?_⟩⟩
  refine ⟨fun k ys i j _ => k = n ∧ 0 ≤ i ∧ i < j ∧ j ≤ n ∧ ∃ cur : List Tup, Row H0 ys cur ∧ cur.length = n ∧ cur.take i.toNat = (l.take j.toNat).filter (fun x => !p x) ∧ cur.drop j.toNat = l.drop j.toNat,
    fun _ _ _ j => n - j.toNat, ⟨rfl, by omega, by omega, by omega, l, hr, hl, by rw [show ((0 : Int) + k0 + 1).toNat = k0 + 1 by omega, h3]; congr 1; omega, rfl⟩, ?_⟩
  rintro H14 l14 k ys i j ⟨rfl, i0, hij, hjn, cur, hc, hcl, ht, hd⟩
  have hyl := hc.length
  refine ⟨fun hlt => ?_, fun hge => ?_⟩
  · have hlt := of_decide_eq_true hlt
    have hj : j.toNat < cur.length := by omega
    have hj' : j.toNat < l.length := by omega
    have hcj : cur[j.toNat] = l[j.toNat] := by
      have := congrArg (fun x => x[0]?) hd
      simp only [List.getElem?_drop, Nat.add_zero] at this
      rw [List.getElem?_eq_getElem hj, List.getElem?_eq_getElem hj'] at this
      simpa using this
    have hw := hc.getw hj
    rw [hcj] at hw
    have hset := hc.setw (i := i.toNat) (by omega) hw
    have hcon := hf H14 _ _ l14 (Rep.mono (hle_trans hle0 l14) hw)
    have hsu := filter_take_succ p hj'
    have e1 : (j + 1).toNat = j.toNat + 1 := by omega
    have hdr : cur.drop (j.toNat + 1) = l.drop (j.toNat + 1) := by
      rw [← List.drop_drop, ← List.drop_drop, hd]
    generalize hwv : win ys (j.toNat * Rep.sz Tup) (Rep.sz Tup) = wv at hw hset hcon
    obtain ⟨A9, n9, c9, B9, m9, d9, rfl, -⟩ := hw
    refine ⟨by omega, hlt, _, _, _, _, _, _, _, _, rfl, _, hcon, ?_⟩
    rintro H34 l34 _ rfl
    refine ⟨fun hp => ?_, fun hp => ?_⟩
    · have hp : p l[j.toNat] = false := by simpa using hp
      rw [if_neg (by simp [hp])] at hsu
      refine ⟨i0, by omega, ?_, by simp only [rng]; omega, by simp only [rng]; omega, ⟨rfl, by omega, by omega, by omega, cur.set i.toNat l[j.toNat], hset, by simpa using hcl, ?_, ?_⟩, by dsimp only; omega⟩
      · rw [hyl]
        show i.toNat * 4 + 4 ≤ cur.length * 4
        omega
      · rw [e1, hsu, ← ht, show (i + 1).toNat = i.toNat + 1 by omega, List.take_succ_eq_append_getElem (by simp; omega), List.take_set_of_le (by omega)]
        simp
      · rw [e1, List.drop_set_of_lt (by omega), hdr]
    · have hp : p l[j.toNat] = true := by simpa using hp
      rw [if_pos hp, List.append_nil] at hsu
      exact ⟨by simp only [rng]; omega, ⟨rfl, i0, by omega, by omega, cur, hc, hcl, by rw [e1, hsu]; exact ht, by rw [e1]; exact hdr⟩, by dsimp only; omega⟩
  · have hge := of_decide_eq_false hge
    rw [List.take_of_length_le (by omega : l.length ≤ j.toNat)] at ht
    have hil : i.toNat = (l.filter fun x => !p x).length := by
      rw [← ht, List.length_take]; omega
    have hfin := cut_splice (Z := repl [.slice none 0 0, .int .i64 0, .int .i64 0, .slice none 0 0] (Int.toNat (k : Int) - i.toNat)) hc hcl (i := i.toNat) (by omega) (by rw [repl_length]; simp only [Int.toNat_natCast]; rfl)
    refine ⟨i0, by omega, by omega, by omega, i0, by omega, by omega, ?_⟩
    rw [← ht]
    exact hfin
def an95 : Ann where
  res := fun _ => none
  lend := fun _ => false
  sch := fun _ => .done
  lt := fun _ => []
  tup := tups

theorem vc95 (P : Program) (H : Heap) (sA : Option Addr) (sN sC : Nat) (post : Option Addr → Nat → Nat → Heap → Prop) :
  vcFn P tab an95 Tryz.f95 [.slice sA sN sC] 0 H ⟨false, [(false, [.sl])]⟩ post =
  (  (Option.isNone sA = true → post none 0 0 H) ∧ (Option.isNone sA = false → ∃ (ys2 : List Value), Cells H sA 0 ys2 ∧ List.length ys2 = sN * 4 ∧ (0 + sN) * 64 ≤ 140737488355328 ∧ ∀ (A3 :
  Option Addr) (c4 : Nat) (H5 : Heap), Heap.le H H5 → Cells H5 A3 0 ([] ++ ys2) → 0 + sN ≤ c4 → post A3 (0 + sN) c4 H5)) := by kernel_rfl
theorem Clone_Tup {H : Heap} {A : Option Addr} {n c : Nat} {l : List Tup} (hs : Sl H A n c l) :
    ConT Tryz.prog 95 [.slice A n c] H shS (fun A' n' c' H' => Sl H' A' n' c' l) := by
  refine con_of_vc (an := an95) (fn := Tryz.f95) mix tabOK Tryz.func95 (by kernel_rfl) (extra := 0) ?_
  rw [vc95]
  refine ⟨fun hA => ?_, fun hA => ?_⟩
  · have : n = 0 := by
      rcases Nat.eq_zero_or_pos n with h | h
      · exact h
      · obtain ⟨b, o, e⟩ := hs.someA h; simp [e] at hA
    subst this
    rw [List.eq_nil_of_length_eq_zero hs.len]; exact Sl.nil
  · obtain ⟨ys, h1, h2⟩ := hs.row
    refine ⟨ys, h1, by rw [h2.length, hs.len]; rfl, by have := hs.bnd; rw [Nat.zero_add]; exact this, fun A' c' H' hle hc hn => ?_⟩
    rw [Nat.zero_add] at hn ⊢
    exact h2.sl hle (by simpa using hc) hs.len hn hs.bnd hs.bn
end Go.Vc
/- Sets of periods: intersections, differences, normal forms. -/
namespace Go.Vc
open Go Go.Proofs Go.Shelf
def an102 : Ann where
  res := fun _ => none
  lend := fun | 19 => true | 23 => true | _ => false
  sch := fun _ => .done
  lt := fun _ => []
  tup := tups

theorem vc102 (P : Program) (H : Heap) (aFrom : Int) (aTo : Int) (bFrom : Int) (bTo : Int) (post : Int → Int → Bool → Heap → Prop) :
  vcFn P tab an102 Tryz.f102 [.agg #[.int .i64 aFrom, .int .i64 aTo], .agg #[.int .i64 bFrom, .int .i64 bTo]] 0 H ⟨true, [(true, [.int .i64, .int .i64]), (false, [.bool])]⟩ post =
  (  ∃ (post0 : Bool → Heap → Prop), ConT P 50 [.agg ⟨[.int .i64 aFrom, .int .i64 aTo]⟩] H ⟨false, [(false, [.bool])]⟩ post0 ∧ ∀ (H1 : Heap), Heap.le H H1 → ∀ (b3 : Bool), post0 b3 H1 → ((!b3) =
  true → post (0 : Int) (0 : Int) false H1) ∧ ((!b3) = false → ∃ (post7 : Bool → Heap → Prop), ConT P 50 [.agg ⟨[.int .i64 bFrom, .int .i64 bTo]⟩] H1 ⟨false, [(false, [.bool])]⟩ post7 ∧ ∀ (H8
  : Heap), Heap.le H1 H8 → ∀ (b10 : Bool), post7 b10 H8 → ((!b10) = true → post (0 : Int) (0 : Int) false H8) ∧ ((!b10) = false → (decide (min aTo bTo ≤ max aFrom bFrom) = true → post (0 :
  Int) (0 : Int) false H8) ∧ (decide (min aTo bTo ≤ max aFrom bFrom) = false → post (max aFrom bFrom) (min aTo bTo) true H8)))) := by kernel_rfl
theorem period_Intersect {a b c d : Int} {H : Heap} : ConT Tryz.prog 102 [.agg ⟨[.int .i64 a, .int .i64 b]⟩, .agg ⟨[.int .i64 c, .int .i64 d]⟩] H ⟨true, [(true, [.int .i64, .int .i64]), (false, [.bool])]⟩
    (fun x y r _ => r = perHit ⟨a, b⟩ ⟨c, d⟩ ∧ (r = true → x = (perInt ⟨a, b⟩ ⟨c, d⟩).lo ∧ y = (perInt ⟨a, b⟩ ⟨c, d⟩).hi) ∧ (r = false → x = 0 ∧ y = 0)) := by
  refine con_of_vc (an := an102) (fn := Tryz.f102) mix tabOK Tryz.func102 (by kernel_rfl) (extra := 0) ?_
  rw [vc102]
  refine ⟨_, period_Valid, ?_⟩
  rintro H1 _ _ rfl
  refine ⟨fun h => ?_, fun h => ⟨_, period_Valid, ?_⟩⟩
  · grind [perHit]
  rintro H2 _ _ rfl
  grind [perHit, perInt]
theorem nrmGo_step {h : Int} {p : Per} {r : List Per} : nrmGo h (p :: r) = (pOk p && decide (h < p.lo) && nrmGo p.hi r) := rfl
def an23 : Ann where
  res := fun _ => none
  lend := fun | 14 => true | _ => false
  sch := fun | 4 => (tk [0, 1, 2, 3] (.alt 4 (tk [5, 6, 7, 8, 9, 10, 11, 12, 13, 14, 15, 16, 17, 18, 19, 20, 21, 22, 23] .done) .fin)) | _ => .done
  lt := fun | 2 => [.slot 3 false [.int .i64]] | _ => []
  tup := tups

theorem vc23 (P : Program) (H : Heap) (sA : Option Addr) (sN sC : Nat) (post : Bool → Heap → Prop) :
  vcFn P tab an23 Tryz.f23 [.slice sA sN sC] 0 H ⟨false, [(false, [.bool])]⟩ post =
  (  ∃ (inv0 : Int → Heap → Prop), ∃ (m1 : Int → Nat), inv0 (0 : Int) H ∧ ∀ (H2 : Heap), Heap.le H H2 → ∀ (n4 : Int), inv0 n4 H2 → (decide (n4 < (↑sN : Int)) = true → someA sA ∧ (0 : Int) ≤ n4 ∧
  n4 < (↑sN : Int) ∧ ∃ (n7 : Int), ∃ (n8 : Int), Cells H2 sA (Int.toNat n4 * 2) [.int .i64 n7, .int .i64 n8] ∧ ∃ (post9 : Bool → Heap → Prop), ConT P 46 [.agg ⟨[.int .i64 n7, .int .i64 n8]⟩]
  H2 ⟨false, [(false, [.bool])]⟩ post9 ∧ ∀ (H10 : Heap), Heap.le H2 H10 → ∀ (b12 : Bool), post9 b12 H10 → ((!b12) = true → post false H10) ∧ ((!b12) = false → (decide ((0 : Int) < n4) = true
  → someA sA ∧ (0 : Int) ≤ n4 ∧ n4 < (↑sN : Int) ∧ ∃ (n17 : Int), Cells H10 sA (Int.toNat n4 * 2 + 0) [.int .i64 n17] ∧ rng .i64 (n4 - (1 : Int)) ∧ someA sA ∧ (0 : Int) ≤ n4 - (1 : Int) ∧ n4
  - (1 : Int) < (↑sN : Int) ∧ ∃ (n18 : Int), Cells H10 sA (Int.toNat (n4 - (1 : Int)) * 2 + 1) [.int .i64 n18] ∧ (decide (n17 ≤ n18) = true → post false H10) ∧ (decide (n17 ≤ n18) = false →
  rng .i64 (n4 + (1 : Int)) ∧ inv0 (n4 + (1 : Int)) H10 ∧ m1 (n4 + (1 : Int)) < m1 n4)) ∧ (decide ((0 : Int) < n4) = false → rng .i64 (n4 + (1 : Int)) ∧ inv0 (n4 + (1 : Int)) H10 ∧ m1 (n4 +
  (1 : Int)) < m1 n4))) ∧ (decide (n4 < (↑sN : Int)) = false → post true H2)) := by kernel_rfl
theorem ref1_IsNormal {H : Heap} {A : Option Addr} {n c : Nat} {l : List Per} (hs : Sl H A n c l) : ConT Tryz.prog 23 [.slice A n c] H shB (fun r _ => r = nrm l) := by
  refine con_of_vc (an := an23) (fn := Tryz.f23) mix tabOK Tryz.func23 (by kernel_rfl) (extra := 0) ?_
  rw [vc23]
  have b1 := hs.bn; have b2 := hs.len
  refine ⟨fun i _ => 0 ≤ i ∧ i ≤ n ∧ nrm l = nrmGo (if i ≤ 0 then -1 else (l[(i - 1).toNat]?.map (·.hi)).getD 0) (l.drop i.toNat), fun i => n - i.toNat, ⟨by omega, by omega, rfl⟩, ?_⟩
  rintro H2 hle i ⟨h0, h1, h2⟩
  refine ⟨fun hlt => ?_, fun hge => ?_⟩
  · have hlt := of_decide_eq_true hlt
    obtain ⟨hi, hA, _, hc, ⟨rfl, r1, r2⟩⟩ := hs.at hle h0 hlt
    rw [drop_at h0 hi, nrmGo_step] at h2
    have e1 : (if i + 1 ≤ 0 then (-1 : Int) else (l[(i + 1 - 1).toNat]?.map (·.hi)).getD 0) = l[i.toNat].hi := by
      rw [if_neg (by omega), show (i + 1 - 1).toNat = i.toNat by omega, List.getElem?_eq_getElem hi]; rfl
    refine ⟨hA, h0, hlt, _, _, hc, _, ref1_Valid, ?_⟩
    rintro H3 l3 _ rfl
    refine ⟨fun hf => ?_, fun ht => ⟨fun hp => ?_, fun hp => ?_⟩⟩
    · simp only [Bool.not_eq_true'] at hf
      rw [h2, hf]; rfl
    · have hp := of_decide_eq_true hp
      simp only [Bool.not_eq_false'] at ht
      obtain ⟨ji, jA, _, jc, ⟨rfl, q1, q2⟩⟩ := hs.at (hle_trans hle l3) (i := i - 1) (by omega) (by omega)
      rw [if_neg (by omega), List.getElem?_eq_getElem ji, ht, Bool.true_and] at h2
      simp only [Option.map_some, Option.getD_some] at h2
      have hc3 := hc.mono l3
      have key : ∃ n17 : Int, Cells H3 A (i.toNat * 2 + 0) [.int .i64 n17] ∧ rng .i64 (i - 1) ∧ someA A ∧ 0 ≤ i - 1 ∧ i - 1 < n ∧ ∃ n18 : Int, Cells H3 A ((i - 1).toNat * 2 + 1) [.int .i64 n18] ∧ (decide (n17 ≤ n18) = true → false = nrm l) ∧ (decide (n17 ≤ n18) = false → rng .i64 (i + 1) ∧ (0 ≤ i + 1 ∧ i + 1 ≤ n ∧ nrm l = nrmGo (if i + 1 ≤ 0 then -1 else (l[(i + 1 - 1).toNat]?.map (·.hi)).getD 0) (l.drop (i + 1).toNat)) ∧ n - (i + 1).toNat < n - i.toNat) := by
        refine ⟨_, hc3.at1 (k := 0) rfl, by simp only [rng]; omega, jA, by omega, by omega, _, jc.at1 (k := 1) rfl, fun hf => ?_, fun hn => ⟨by simp only [rng]; omega, ⟨by omega, by omega, ?_⟩, by omega⟩⟩
        · have hf := of_decide_eq_true hf
          rw [h2, decide_eq_false (by omega)]; rfl
        · have hn := of_decide_eq_false hn
          rw [e1, h2, decide_eq_true (by omega), Bool.true_and]
      obtain ⟨n17, a1, a2, a3, a4, a5, n18, a6, a7, a8⟩ := key
      exact ⟨hA, h0, hlt, n17, a1, a2, a3, a4, a5, n18, a6, a7, a8⟩
    · have hp := of_decide_eq_false hp
      simp only [Bool.not_eq_false'] at ht
      have hlo := (pOk_iff.1 ht).1
      refine ⟨by simp only [rng]; omega, ⟨by omega, by omega, ?_⟩, by dsimp only; omega⟩
      rw [e1, h2, if_pos (by omega), ht, decide_eq_true (by dsimp only at hlo; omega)]; rfl
  · rw [drop_end (of_decide_eq_false hge) b2] at h2
    rw [h2]; rfl
def same {T : Type} [DecidableEq T] : List T → List T → Bool := fun a b => decide (a = b)
def an11 : Ann where
  res := fun _ => none
  lend := fun _ => false
  sch := fun | 6 => (tk [0, 1, 2, 3, 4, 5, 6, 7, 8] .done) | _ => .done
  lt := fun | 4 => [.slot 5 false [.int .i64]] | _ => []
  tup := tups

theorem vc11 (P : Program) (H : Heap) (aA : Option Addr) (aN aC : Nat) (bA : Option Addr) (bN bC : Nat) (post : Bool → Heap → Prop) :
  vcFn P tab an11 Tryz.f11 [.slice aA aN aC, .slice bA bN bC] 0 H ⟨false, [(false, [.bool])]⟩ post =
  (  ((!decide ((↑aN : Int) = (↑bN : Int))) = true → post false H) ∧ ((!decide ((↑aN : Int) = (↑bN : Int))) = false → ∃ (inv2 : Int → Heap → Prop), ∃ (m3 : Int → Nat), inv2 (0 : Int) H ∧ ∀ (H4 :
  Heap), Heap.le H H4 → ∀ (n6 : Int), inv2 n6 H4 → (decide (n6 < (↑aN : Int)) = true → someA aA ∧ (0 : Int) ≤ n6 ∧ n6 < (↑aN : Int) ∧ ∃ (n9 : Int), ∃ (n10 : Int), Cells H4 aA (Int.toNat n6 *
  2) [.int .i64 n9, .int .i64 n10] ∧ someA bA ∧ (0 : Int) ≤ n6 ∧ n6 < (↑bN : Int) ∧ ∃ (n11 : Int), ∃ (n12 : Int), Cells H4 bA (Int.toNat n6 * 2) [.int .i64 n11, .int .i64 n12] ∧ ((!(decide
  (n9 = n11) && decide (n10 = n12))) = true → post false H4) ∧ ((!(decide (n9 = n11) && decide (n10 = n12))) = false → rng .i64 (n6 + (1 : Int)) ∧ inv2 (n6 + (1 : Int)) H4 ∧ m3 (n6 + (1 :
  Int)) < m3 n6)) ∧ (decide (n6 < (↑aN : Int)) = false → post true H4))) := by kernel_rfl
theorem ref1_SamePeriods {H : Heap} {A B : Option Addr} {n c m d : Nat} {l k : List Per} (hs : Sl H A n c l) (ht : Sl H B m d k) : ConT Tryz.prog 11 [.slice A n c, .slice B m d] H shB (fun r _ => r = decide (l = k)) := by
  refine con_of_vc (an := an11) (fn := Tryz.f11) mix tabOK Tryz.func11 (by kernel_rfl) (extra := 0) ?_
  rw [vc11]
  have b1 := hs.bn; have b2 := hs.len; have b3 := ht.bn; have b4 := ht.len
  refine ⟨fun h => ?_, fun h => ?_⟩
  · simp only [Bool.not_eq_true', decide_eq_false_iff_not] at h
    symm; rw [decide_eq_false_iff_not]
    rintro rfl
    omega
  simp only [Bool.not_eq_false', decide_eq_true_eq] at h
  refine ⟨fun i _ => 0 ≤ i ∧ i ≤ n ∧ (decide (l = k) = decide (l.drop i.toNat = k.drop i.toNat)), fun i => n - i.toNat, ⟨by omega, by omega, rfl⟩, ?_⟩
  rintro H2 hle i ⟨h0, h1, h2⟩
  refine ⟨fun hlt => ?_, fun hge => ?_⟩
  · have hlt := of_decide_eq_true hlt
    obtain ⟨hi, hA, _, hc, ⟨rfl, r1, r2⟩⟩ := hs.at hle h0 hlt
    obtain ⟨ji, jA, _, jc, ⟨rfl, q1, q2⟩⟩ := ht.at hle (i := i) h0 (by omega)
    rw [drop_at h0 hi, drop_at h0 ji] at h2
    refine ⟨hA, h0, hlt, _, _, hc, jA, h0, by omega, _, _, jc, fun hf => ?_, fun hn => ⟨by simp only [rng]; omega, ⟨by omega, by omega, ?_⟩, by dsimp only; omega⟩⟩
    · rw [h2]
      symm; rw [decide_eq_false_iff_not]
      intro e
      simp only [List.cons.injEq] at e
      simp [e.1] at hf
    · rw [h2]
      congr 1
      simp only [Bool.not_eq_false', Bool.and_eq_true, decide_eq_true_eq] at hn
      have : l[i.toNat] = k[i.toNat] := by
        cases ha : l[i.toNat]; cases hb : k[i.toNat]; simp_all
      simp [this]
  · rw [drop_end (of_decide_eq_false hge) b2, drop_end (n := m) (by have := of_decide_eq_false hge; omega) b4] at h2
    rw [h2]; simp
theorem row1 {H : Heap} (p : Per) (h1 : rng .i64 p.lo) (h2 : rng .i64 p.hi) : Row H [.int .i64 p.lo, .int .i64 p.hi] [p] := Row.one ⟨rfl, h1, h2⟩
section
variable {H : Heap} {A B : Option Addr} {n c m d : Nat} {l k : List Per}
def an68 : Ann where
  res := fun _ => none
  lend := fun _ => false
  sch := fun _ => .done
  lt := fun | 4 => [.slot 5 false [.row 66 51], .slot 16 false [.int .i64]] | 8 => [.slot 5 false [.row 67 51], .slot 8 false [.int .i64], .slot 24 false [.int .i64]] | _ => []
  tup := tups

theorem vc68 (P : Program) (H : Heap) (aA : Option Addr) (aN aC : Nat) (p1A : Option Addr) (p1N p1C : Nat) (post : Option Addr → Nat → Nat → Heap → Prop) :
  vcFn P tab an68 Tryz.f68 [.slice aA aN aC, .slice p1A p1N p1C] 2 H ⟨false, [(false, [.sl])]⟩ post =
  (  ∃ (post0 : Option Addr → Nat → Nat → Heap → Prop), ConT P 33 [.slice p1A p1N p1C] H ⟨false, [(false, [.sl])]⟩ post0 ∧ ∀ (H1 : Heap), Heap.le H H1 → ∀ (A3 : Option Addr) (n4 c5 : Nat), post0
  A3 n4 c5 H1 → ∃ (post7 : Option Addr → Nat → Nat → Heap → Prop), ConT P 33 [.slice aA aN aC] H1 ⟨false, [(false, [.sl])]⟩ post7 ∧ ∀ (H8 : Heap), Heap.le H1 H8 → ∀ (A10 : Option Addr) (n11
  c12 : Nat), post7 A10 n11 c12 H8 → ∃ (inv14 : Nat → List Value → Int → Heap → Prop), ∃ (m15 : Nat → List Value → Int → Nat), inv14 0 [] (0 : Int) H8 ∧ ∀ (H16 : Heap), Heap.le H8 H16 → ∀
  (n18 : Nat) (xs19 : List Value) (n20 : Int), inv14 n18 xs19 n20 H16 → (decide (n20 < (↑n11 : Int)) = true → someA A10 ∧ (0 : Int) ≤ n20 ∧ n20 < (↑n11 : Int) ∧ ∃ (n23 : Int), ∃ (n24 : Int),
  Cells H16 A10 (Int.toNat n20 * 2) [.int .i64 n23, .int .i64 n24] ∧ ∃ (inv25 : Nat → List Value → Int → Int → Heap → Prop), ∃ (m26 : Nat → List Value → Int → Int → Nat), inv25 n18 xs19 n23
  (0 : Int) H16 ∧ ∀ (H27 : Heap), Heap.le H16 H27 → ∀ (n29 : Nat) (xs30 : List Value) (n31 n32 : Int), inv25 n29 xs30 n31 n32 H27 → (decide (n32 < (↑n4 : Int)) = true → someA A3 ∧ (0 : Int) ≤
  n32 ∧ n32 < (↑n4 : Int) ∧ ∃ (n35 : Int), ∃ (n36 : Int), Cells H27 A3 (Int.toNat n32 * 2) [.int .i64 n35, .int .i64 n36] ∧ (decide (n36 ≤ n31) = true → rng .i64 (n32 + (1 : Int)) ∧ inv25 n29
  xs30 n31 (n32 + (1 : Int)) H27 ∧ m26 n29 xs30 n31 (n32 + (1 : Int)) < m26 n29 xs30 n31 n32) ∧ (decide (n36 ≤ n31) = false → (decide (n24 ≤ n35) = true → rng .i64 (n32 + (1 : Int)) ∧ inv25
  n29 xs30 n31 (n32 + (1 : Int)) H27 ∧ m26 n29 xs30 n31 (n32 + (1 : Int)) < m26 n29 xs30 n31 n32) ∧ (decide (n24 ≤ n35) = false → (decide (n31 < n35) = true → (n29 + 1) * 16 ≤ 140737488355328
  ∧ rng .i64 (n32 + (1 : Int)) ∧ inv25 (n29 + 1) (xs30 ++ [.int .i64 n31, .int .i64 n35]) n36 (n32 + (1 : Int)) H27 ∧ m26 (n29 + 1) (xs30 ++ [.int .i64 n31, .int .i64 n35]) n36 (n32 + (1 :
  Int)) < m26 n29 xs30 n31 n32) ∧ (decide (n31 < n35) = false → rng .i64 (n32 + (1 : Int)) ∧ inv25 n29 xs30 n36 (n32 + (1 : Int)) H27 ∧ m26 n29 xs30 n36 (n32 + (1 : Int)) < m26 n29 xs30 n31
  n32)))) ∧ (decide (n32 < (↑n4 : Int)) = false → (decide (n31 < n24) = true → (n29 + 1) * 16 ≤ 140737488355328 ∧ rng .i64 (n20 + (1 : Int)) ∧ inv14 (n29 + 1) (xs30 ++ [.int .i64 n31, .int
  .i64 n24]) (n20 + (1 : Int)) H27 ∧ m15 (n29 + 1) (xs30 ++ [.int .i64 n31, .int .i64 n24]) (n20 + (1 : Int)) < m15 n18 xs19 n20) ∧ (decide (n31 < n24) = false → rng .i64 (n20 + (1 : Int)) ∧
  inv14 n29 xs30 (n20 + (1 : Int)) H27 ∧ m15 n29 xs30 (n20 + (1 : Int)) < m15 n18 xs19 n20))) ∧ (decide (n20 < (↑n11 : Int)) = false → ∀ (A47 : Option Addr) (c48 : Nat) (H49 : Heap), Heap.le
  H16 H49 → Cells H49 A47 0 xs19 → n18 ≤ c48 → post A47 n18 c48 H49)) := by kernel_rfl
set_option maxHeartbeats 1000000 in
theorem periodset_Subtract (hs : Sl H A n c l) (ht : Sl H B m d k) : ConT Tryz.prog 68 [.slice A n c, .slice B m d] H shS (fun A' n' c' H' => Sl H' A' n' c' (diff l k)) := by
  refine con_of_vc (an := an68) (fn := Tryz.f68) mix tabOK Tryz.func68 (by kernel_rfl) (extra := 2) ?_
  rw [vc68]
  refine ⟨_, periodset_Normalize ht, ?_⟩
  intro H1 l1 A1 n1 c1 h1
  refine ⟨_, periodset_Normalize (hs.mono l1), ?_⟩
  intro H2 l2 A2 n2 c2 h2
  have h1 := h1.mono l2
  have b1 := h1.bn; have b2 := h1.len; have b3 := h2.bn; have b4 := h2.len
  have hbd := nrm_bnd (diff_nrm l k)
  have hok1 := nrmGo_ok (norm_nrm l); have hok2 := nrmGo_ok (norm_nrm k)
  have hmx : maxT = 1099511627776 := rfl
  generalize hR : diff l k = R at hbd
  refine ⟨fun u xs i H' => 0 ≤ i ∧ i ≤ n2 ∧ ∃ out : List Per, Row H' xs out ∧ out.length = u ∧ R = out ++ cutAll ((norm l).drop i.toNat) (norm k), fun _ _ i => n2 - i.toNat, ⟨by omega, by omega, [], rfl, rfl, by rw [← hR]; rfl⟩, ?_⟩
  rintro H3 l3 u xs i ⟨i0, i1, out, hr, hu, he⟩
  refine ⟨fun hlt => ?_, fun hge => ?_⟩
  · have hlt := of_decide_eq_true hlt
    obtain ⟨hi, hA, _, hc, ⟨rfl, r1, r2⟩⟩ := h2.at l3 i0 hlt
    have o1 := hok1 _ (List.getElem_mem hi)
    rw [drop_at i0 hi] at he
    generalize (norm l)[i.toNat] = p at hc r1 r2 o1 he
    refine ⟨hA, i0, hlt, _, _, hc, fun u xs t j H' => 0 ≤ j ∧ j ≤ n1 ∧ 0 ≤ t ∧ t ≤ maxT ∧ ∃ out : List Per, Row H' xs out ∧ out.length = u ∧ R = out ++ cut t p.hi ((norm k).drop j.toNat) ++ cutAll ((norm l).drop (i + 1).toNat) (norm k), fun _ _ _ j => n1 - j.toNat,
      ⟨by omega, by omega, by omega, by omega, out, hr, hu, by rw [he, cutAll, List.flatMap_cons]; simp [cutAll]⟩, ?_⟩
    rintro H4 l4 u4 xs4 t j ⟨j0, j1, t0, t1, out4, hr4, hu4, he4⟩
    refine ⟨fun jlt => ?_, fun jge => ?_⟩
    · have jlt := of_decide_eq_true jlt
      obtain ⟨ji, jA, _, jc, ⟨rfl, q1, q2⟩⟩ := h1.at (hle_trans l3 l4) j0 jlt
      have o2 := hok2 _ (List.getElem_mem ji)
      rw [drop_at j0 ji, cut] at he4
      generalize (norm k)[j.toNat] = q at jc q1 q2 o2 he4
      have skip : (q.hi ≤ t ∨ p.hi ≤ q.lo) → rng .i64 (j + 1) ∧ (0 ≤ j + 1 ∧ j + 1 ≤ n1 ∧ 0 ≤ t ∧ t ≤ maxT ∧ ∃ out : List Per, Row H4 xs4 out ∧ out.length = u4 ∧ R = out ++ cut t p.hi ((norm k).drop (j + 1).toNat) ++ cutAll ((norm l).drop (i + 1).toNat) (norm k)) ∧ n1 - (j + 1).toNat < n1 - j.toNat := by
        intro h
        rw [if_pos h] at he4
        exact ⟨by simp only [rng]; omega, ⟨by omega, by omega, t0, t1, out4, hr4, hu4, he4⟩, by omega⟩
      refine ⟨jA, j0, jlt, _, _, jc, fun a => skip (.inl (of_decide_eq_true a)), fun a => ⟨fun b => skip (.inr (of_decide_eq_true b)), fun b => ?_⟩⟩
      have a := of_decide_eq_false a; have b := of_decide_eq_false b
      rw [if_neg (by omega)] at he4
      refine ⟨fun e => ?_, fun e => ?_⟩
      · have e := of_decide_eq_true e
        rw [if_pos e] at he4
        have hl := congrArg List.length he4
        simp only [List.length_append, List.length_cons] at hl
        refine ⟨by omega, by simp only [rng]; omega, ⟨by omega, by omega, by omega, by omega, out4 ++ [⟨t, q.lo⟩], hr4.append (Row.one (T := Per) (t := (⟨t, q.lo⟩ : Per)) ⟨rfl, by simp only [rng]; omega, q1⟩), by simp [hu4], ?_⟩, by dsimp only; omega⟩
        rw [he4]; simp
      · have e := of_decide_eq_false e
        rw [if_neg e, List.nil_append] at he4
        exact ⟨by simp only [rng]; omega, ⟨by omega, by omega, by omega, by omega, out4, hr4, hu4, he4⟩, by dsimp only; omega⟩
    · rw [drop_end (of_decide_eq_false jge) b2, cut] at he4
      refine ⟨fun e => ?_, fun e => ?_⟩
      · have e := of_decide_eq_true e
        rw [if_pos e] at he4
        have hl := congrArg List.length he4
        simp only [List.length_append, List.length_cons] at hl
        refine ⟨by omega, by simp only [rng]; omega, ⟨by omega, by omega, out4 ++ [⟨t, p.hi⟩], hr4.append (Row.one (T := Per) (t := (⟨t, p.hi⟩ : Per)) ⟨rfl, by simp only [rng]; omega, r2⟩), by simp [hu4], he4⟩, by dsimp only; omega⟩
      · have e := of_decide_eq_false e
        rw [if_neg e, List.append_nil] at he4
        exact ⟨by simp only [rng]; omega, ⟨by omega, by omega, out4, hr4, hu4, he4⟩, by dsimp only; omega⟩
  · rw [drop_end (of_decide_eq_false hge) b4] at he
    intro A5 c5 H5 l5 hc5 hn5
    have : R = out := by rw [he]; simp [cutAll]
    rw [this] at hbd ⊢
    exact hr.sl l5 hc5 hu hn5 (by show u * 16 ≤ _; omega) (by omega)
end
section
variable {H : Heap} {A B : Option Addr} {n c m d : Nat} {l k : List Per}
theorem Sl.tail {T : Type} [Rep T] {H : Heap} {A : Option Addr} {n c : Nat} {x : T} {r : List T} (h : Sl H A n c (x :: r)) : Sl H (subA A c 1 (Rep.sz T)) (n - 1) (c - 1) r := by
  have := h.len
  simp only [List.length_cons] at this
  exact h.drop (k := 1) (by omega)
theorem Sl.pos {T : Type} [Rep T] {H : Heap} {A : Option Addr} {n c : Nat} {l : List T} (h : Sl H A n c l) (hn : (0 : Int) < n) : ∃ x r, l = x :: r := by
  cases l with
  | nil => have := h.len; simp at this; omega
  | cons x r => exact ⟨x, r, rfl⟩
def an70 : Ann where
  res := fun _ => none
  lend := fun _ => false
  sch := fun | 4 => (tk [0, 1, 2, 3, 4, 5] (.alt 6 (tk [7, 8, 9] (.alt 10 (.alt 11 (tk [12] .done) .fin) .fin)) (.alt 10 (.alt 6 (tk [7, 8, 9] (.alt 11 (tk [12] .done) .fin)) .fin) .fin))) | 7 => (tk [0, 1, 2, 3, 4, 5, 6, 7, 8] .done) | _ => .done
  lt := fun | 3 => [.slot 0 false [.sl], .slot 1 false [.sl], .slot 5 false [.row 50 51]] | _ => []
  tup := tups

theorem vc70 (P : Program) (H : Heap) (aA : Option Addr) (aN aC : Nat) (bA : Option Addr) (bN bC : Nat) (post : Option Addr → Nat → Nat → Heap → Prop) :
  vcFn P tab an70 Tryz.f70 [.slice aA aN aC, .slice bA bN bC] 1 H ⟨false, [(false, [.sl])]⟩ post =
  (  ∃ (post0 : Option Addr → Nat → Nat → Heap → Prop), ConT P 33 [.slice aA aN aC] H ⟨false, [(false, [.sl])]⟩ post0 ∧ ∀ (H1 : Heap), Heap.le H H1 → ∀ (A3 : Option Addr) (n4 c5 : Nat), post0 A3
  n4 c5 H1 → ∃ (post7 : Option Addr → Nat → Nat → Heap → Prop), ConT P 33 [.slice bA bN bC] H1 ⟨false, [(false, [.sl])]⟩ post7 ∧ ∀ (H8 : Heap), Heap.le H1 H8 → ∀ (A10 : Option Addr) (n11 c12
  : Nat), post7 A10 n11 c12 H8 → ∃ (inv14 : Option Addr → Nat → Nat → Option Addr → Nat → Nat → Nat → List Value → Heap → Prop), ∃ (m15 : Option Addr → Nat → Nat → Option Addr → Nat → Nat →
  Nat → List Value → Nat), inv14 A3 n4 c5 A10 n11 c12 0 [] H8 ∧ ∀ (H16 : Heap), Heap.le H8 H16 → ∀ (A18 : Option Addr) (n19 c20 : Nat) (A21 : Option Addr) (n22 c23 n24 : Nat) (xs25 : List
  Value), inv14 A18 n19 c20 A21 n22 c23 n24 xs25 H16 → (decide ((0 : Int) < (↑n19 : Int)) = true → (decide ((0 : Int) < (↑n22 : Int)) = true → someA A18 ∧ (0 : Int) ≤ (0 : Int) ∧ (0 : Int) <
  (↑n19 : Int) ∧ ∃ (n29 : Int), ∃ (n30 : Int), Cells H16 A18 (Int.toNat (0 : Int) * 2) [.int .i64 n29, .int .i64 n30] ∧ someA A21 ∧ (0 : Int) ≤ (0 : Int) ∧ (0 : Int) < (↑n22 : Int) ∧ ∃ (n31 :
  Int), ∃ (n32 : Int), Cells H16 A21 (Int.toNat (0 : Int) * 2) [.int .i64 n31, .int .i64 n32] ∧ (∃ (post33 : Int → Int → Bool → Heap → Prop), ConT P 102 [.agg ⟨[.int .i64 n29, .int .i64
  n30]⟩, .agg ⟨[.int .i64 n31, .int .i64 n32]⟩] H16 ⟨true, [(true, [.int .i64, .int .i64]), (false, [.bool])]⟩ post33 ∧ ∀ (H34 : Heap), Heap.le H16 H34 → ∀ (n36 n37 : Int) (b38 : Bool),
  post33 n36 n37 b38 H34 → (b38 = true → (n24 + 1) * 16 ≤ 140737488355328 ∧ someA A18 ∧ (0 : Int) ≤ (0 : Int) ∧ (0 : Int) < (↑n19 : Int) ∧ ∃ (n41 : Int), Cells H34 A18 (Int.toNat (0 : Int) *
  2 + 1) [.int .i64 n41] ∧ someA A21 ∧ (0 : Int) ≤ (0 : Int) ∧ (0 : Int) < (↑n22 : Int) ∧ ∃ (n42 : Int), Cells H34 A21 (Int.toNat (0 : Int) * 2 + 1) [.int .i64 n42] ∧ (decide (n41 < n42) =
  true → (0 : Int) ≤ (1 : Int) ∧ (1 : Int) ≤ (↑n19 : Int) ∧ (↑n19 : Int) ≤ (↑c20 : Int) ∧ ∀ (A44 : Option Addr), A44 = subA A18 c20 (Int.toNat (1 : Int)) 2 → inv14 A44 (Int.toNat (↑n19 : Int)
  - Int.toNat (1 : Int)) (c20 - Int.toNat (1 : Int)) A21 n22 c23 (n24 + 1) (xs25 ++ [.int .i64 n36, .int .i64 n37]) H34 ∧ m15 A44 (Int.toNat (↑n19 : Int) - Int.toNat (1 : Int)) (c20 -
  Int.toNat (1 : Int)) A21 n22 c23 (n24 + 1) (xs25 ++ [.int .i64 n36, .int .i64 n37]) < m15 A18 n19 c20 A21 n22 c23 n24 xs25) ∧ (decide (n41 < n42) = false → (0 : Int) ≤ (1 : Int) ∧ (1 : Int)
  ≤ (↑n22 : Int) ∧ (↑n22 : Int) ≤ (↑c23 : Int) ∧ ∀ (A47 : Option Addr), A47 = subA A21 c23 (Int.toNat (1 : Int)) 2 → inv14 A18 n19 c20 A47 (Int.toNat (↑n22 : Int) - Int.toNat (1 : Int)) (c23
  - Int.toNat (1 : Int)) (n24 + 1) (xs25 ++ [.int .i64 n36, .int .i64 n37]) H34 ∧ m15 A18 n19 c20 A47 (Int.toNat (↑n22 : Int) - Int.toNat (1 : Int)) (c23 - Int.toNat (1 : Int)) (n24 + 1)
  (xs25 ++ [.int .i64 n36, .int .i64 n37]) < m15 A18 n19 c20 A21 n22 c23 n24 xs25)) ∧ (b38 = false → someA A18 ∧ (0 : Int) ≤ (0 : Int) ∧ (0 : Int) < (↑n19 : Int) ∧ ∃ (n50 : Int), Cells H34
  A18 (Int.toNat (0 : Int) * 2 + 1) [.int .i64 n50] ∧ someA A21 ∧ (0 : Int) ≤ (0 : Int) ∧ (0 : Int) < (↑n22 : Int) ∧ ∃ (n51 : Int), Cells H34 A21 (Int.toNat (0 : Int) * 2 + 1) [.int .i64 n51]
  ∧ (decide (n50 < n51) = true → (0 : Int) ≤ (1 : Int) ∧ (1 : Int) ≤ (↑n19 : Int) ∧ (↑n19 : Int) ≤ (↑c20 : Int) ∧ ∀ (A53 : Option Addr), A53 = subA A18 c20 (Int.toNat (1 : Int)) 2 → inv14 A53
  (Int.toNat (↑n19 : Int) - Int.toNat (1 : Int)) (c20 - Int.toNat (1 : Int)) A21 n22 c23 n24 xs25 H34 ∧ m15 A53 (Int.toNat (↑n19 : Int) - Int.toNat (1 : Int)) (c20 - Int.toNat (1 : Int)) A21
  n22 c23 n24 xs25 < m15 A18 n19 c20 A21 n22 c23 n24 xs25) ∧ (decide (n50 < n51) = false → (0 : Int) ≤ (1 : Int) ∧ (1 : Int) ≤ (↑n22 : Int) ∧ (↑n22 : Int) ≤ (↑c23 : Int) ∧ ∀ (A56 : Option
  Addr), A56 = subA A21 c23 (Int.toNat (1 : Int)) 2 → inv14 A18 n19 c20 A56 (Int.toNat (↑n22 : Int) - Int.toNat (1 : Int)) (c23 - Int.toNat (1 : Int)) n24 xs25 H34 ∧ m15 A18 n19 c20 A56
  (Int.toNat (↑n22 : Int) - Int.toNat (1 : Int)) (c23 - Int.toNat (1 : Int)) n24 xs25 < m15 A18 n19 c20 A21 n22 c23 n24 xs25))) ∧ ∃ (post58 : Int → Int → Bool → Heap → Prop), ConT P 102 [.agg
  ⟨[.int .i64 n29, .int .i64 n30]⟩, .agg ⟨[.int .i64 n31, .int .i64 n32]⟩] H16 ⟨true, [(true, [.int .i64, .int .i64]), (false, [.bool])]⟩ post58 ∧ ∀ (H59 : Heap), Heap.le H16 H59 → ∀ (n61 n62
  : Int) (b63 : Bool), post58 n61 n62 b63 H59 → (b63 = true → (n24 + 1) * 16 ≤ 140737488355328 ∧ someA A18 ∧ (0 : Int) ≤ (0 : Int) ∧ (0 : Int) < (↑n19 : Int) ∧ ∃ (n66 : Int), Cells H59 A18
  (Int.toNat (0 : Int) * 2 + 1) [.int .i64 n66] ∧ someA A21 ∧ (0 : Int) ≤ (0 : Int) ∧ (0 : Int) < (↑n22 : Int) ∧ ∃ (n67 : Int), Cells H59 A21 (Int.toNat (0 : Int) * 2 + 1) [.int .i64 n67] ∧
  (decide (n66 < n67) = true → (0 : Int) ≤ (1 : Int) ∧ (1 : Int) ≤ (↑n19 : Int) ∧ (↑n19 : Int) ≤ (↑c20 : Int) ∧ ∀ (A69 : Option Addr), A69 = subA A18 c20 (Int.toNat (1 : Int)) 2 → inv14 A69
  (Int.toNat (↑n19 : Int) - Int.toNat (1 : Int)) (c20 - Int.toNat (1 : Int)) A21 n22 c23 (n24 + 1) (xs25 ++ [.int .i64 n61, .int .i64 n62]) H59 ∧ m15 A69 (Int.toNat (↑n19 : Int) - Int.toNat
  (1 : Int)) (c20 - Int.toNat (1 : Int)) A21 n22 c23 (n24 + 1) (xs25 ++ [.int .i64 n61, .int .i64 n62]) < m15 A18 n19 c20 A21 n22 c23 n24 xs25) ∧ (decide (n66 < n67) = false → (0 : Int) ≤ (1
  : Int) ∧ (1 : Int) ≤ (↑n22 : Int) ∧ (↑n22 : Int) ≤ (↑c23 : Int) ∧ ∀ (A72 : Option Addr), A72 = subA A21 c23 (Int.toNat (1 : Int)) 2 → inv14 A18 n19 c20 A72 (Int.toNat (↑n22 : Int) -
  Int.toNat (1 : Int)) (c23 - Int.toNat (1 : Int)) (n24 + 1) (xs25 ++ [.int .i64 n61, .int .i64 n62]) H59 ∧ m15 A18 n19 c20 A72 (Int.toNat (↑n22 : Int) - Int.toNat (1 : Int)) (c23 - Int.toNat
  (1 : Int)) (n24 + 1) (xs25 ++ [.int .i64 n61, .int .i64 n62]) < m15 A18 n19 c20 A21 n22 c23 n24 xs25)) ∧ (b63 = false → someA A18 ∧ (0 : Int) ≤ (0 : Int) ∧ (0 : Int) < (↑n19 : Int) ∧ ∃ (n75
  : Int), Cells H59 A18 (Int.toNat (0 : Int) * 2 + 1) [.int .i64 n75] ∧ someA A21 ∧ (0 : Int) ≤ (0 : Int) ∧ (0 : Int) < (↑n22 : Int) ∧ ∃ (n76 : Int), Cells H59 A21 (Int.toNat (0 : Int) * 2 +
  1) [.int .i64 n76] ∧ (decide (n75 < n76) = true → (0 : Int) ≤ (1 : Int) ∧ (1 : Int) ≤ (↑n19 : Int) ∧ (↑n19 : Int) ≤ (↑c20 : Int) ∧ ∀ (A78 : Option Addr), A78 = subA A18 c20 (Int.toNat (1 :
  Int)) 2 → inv14 A78 (Int.toNat (↑n19 : Int) - Int.toNat (1 : Int)) (c20 - Int.toNat (1 : Int)) A21 n22 c23 n24 xs25 H59 ∧ m15 A78 (Int.toNat (↑n19 : Int) - Int.toNat (1 : Int)) (c20 -
  Int.toNat (1 : Int)) A21 n22 c23 n24 xs25 < m15 A18 n19 c20 A21 n22 c23 n24 xs25) ∧ (decide (n75 < n76) = false → (0 : Int) ≤ (1 : Int) ∧ (1 : Int) ≤ (↑n22 : Int) ∧ (↑n22 : Int) ≤ (↑c23 :
  Int) ∧ ∀ (A81 : Option Addr), A81 = subA A21 c23 (Int.toNat (1 : Int)) 2 → inv14 A18 n19 c20 A81 (Int.toNat (↑n22 : Int) - Int.toNat (1 : Int)) (c23 - Int.toNat (1 : Int)) n24 xs25 H59 ∧
  m15 A18 n19 c20 A81 (Int.toNat (↑n22 : Int) - Int.toNat (1 : Int)) (c23 - Int.toNat (1 : Int)) n24 xs25 < m15 A18 n19 c20 A21 n22 c23 n24 xs25))) ∧ (decide ((0 : Int) < (↑n22 : Int)) =
  false → ∀ (A84 : Option Addr) (c85 : Nat) (H86 : Heap), Heap.le H16 H86 → Cells H86 A84 0 xs25 → n24 ≤ c85 → ∃ (post90 : Option Addr → Nat → Nat → Heap → Prop), ConT P 33 [.slice A84 n24
  c85] H86 ⟨false, [(false, [.sl])]⟩ post90 ∧ ∀ (H91 : Heap), Heap.le H86 H91 → ∀ (A93 : Option Addr) (n94 c95 : Nat), post90 A93 n94 c95 H91 → post A93 n94 c95 H91)) ∧ (decide ((0 : Int) <
  (↑n19 : Int)) = false → ∀ (A98 : Option Addr) (c99 : Nat) (H100 : Heap), Heap.le H16 H100 → Cells H100 A98 0 xs25 → n24 ≤ c99 → ∃ (post104 : Option Addr → Nat → Nat → Heap → Prop), ConT P
  33 [.slice A98 n24 c99] H100 ⟨false, [(false, [.sl])]⟩ post104 ∧ ∀ (H105 : Heap), Heap.le H100 H105 → ∀ (A107 : Option Addr) (n108 c109 : Nat), post104 A107 n108 c109 H105 → post A107 n108
  c109 H105)) := by kernel_rfl
set_option maxHeartbeats 2000000 in
theorem periodset_Intersect (hs : Sl H A n c l) (ht : Sl H B m d k) : ConT Tryz.prog 70 [.slice A n c, .slice B m d] H shS (fun A' n' c' H' => Sl H' A' n' c' (isect l k)) := by
  refine con_of_vc (an := an70) (fn := Tryz.f70) mix tabOK Tryz.func70 (by kernel_rfl) (extra := 1) ?_
  rw [vc70]
  refine ⟨_, periodset_Normalize hs, ?_⟩
  intro H1 l1 A1 n1 c1 h1
  refine ⟨_, periodset_Normalize (ht.mono l1), ?_⟩
  intro H2 l2 A2 n2 c2 h2
  have h1 := h1.mono l2
  have hz := zipI2_isect l k
  have hzl := zipI2_length ((norm l).length + (norm k).length) (norm l) (norm k)
  have hb1 := nrm_len2 (norm_nrm l); have hb2 := nrm_len2 (norm_nrm k)
  have hok1 := nrmGo_ok (norm_nrm l); have hok2 := nrmGo_ok (norm_nrm k)
  generalize hZ : zipI2 ((norm l).length + (norm k).length) (norm l) (norm k) = Z at hz hzl
  have hmx : maxT = 1099511627776 := rfl
  refine ⟨fun A n c B m d u xs H' => ∃ a b out : List Per, Sl H' A n c a ∧ Sl H' B m d b ∧ (∀ p ∈ a, 0 ≤ p.lo ∧ p.lo < p.hi ∧ p.hi ≤ maxT) ∧ (∀ p ∈ b, 0 ≤ p.lo ∧ p.lo < p.hi ∧ p.hi ≤ maxT) ∧ Row H' xs out ∧ out.length = u ∧ Z = out ++ zipI2 (a.length + b.length) a b,
    fun _ n _ _ m _ _ _ => n + m, ⟨norm l, norm k, [], h1, h2, fun p hp => (hok1 p hp).2, fun p hp => (hok2 p hp).2, rfl, rfl, by rw [← hZ]; rfl⟩, ?_⟩
  rintro H3 l3 A3 n3 c3 B3 m3 d3 u xs ⟨a, b, out, ha, hb, hoka, hokb, hr, hu, he⟩
  have fin : ∀ {n3 : Nat} {m3 : Nat}, (n3 = 0 ∨ m3 = 0) → a.length = n3 → b.length = m3 → ∀ (A98 : Option Addr) (c99 : Nat) (H100 : Heap), Heap.le H3 H100 → Cells H100 A98 0 xs → u ≤ c99 → ∃ post104 : Option Addr → Nat → Nat → Heap → Prop, ConT Tryz.prog 33 [.slice A98 u c99] H100 shS post104 ∧
      ∀ H105 : Heap, Heap.le H100 H105 → ∀ (A107 : Option Addr) (n108 c109 : Nat), post104 A107 n108 c109 H105 → Sl H105 A107 n108 c109 (isect l k) := by
    intro n3 m3 h0 han hbm A4 c4 H4 l4 hc4 hu4
    have hZo : Z = out := by
      rw [he]
      rcases h0 with h0 | h0
      · rw [List.eq_nil_of_length_eq_zero (by omega : a.length = 0)]
        cases b.length <;> simp [zipI2]
      · rw [List.eq_nil_of_length_eq_zero (by omega : b.length = 0)]
        cases a with
        | nil => simp [zipI2]
        | cons x r => simp [zipI2]
    rw [hZo] at hz hzl
    refine ⟨_, periodset_Normalize (hr.sl l4 hc4 hu hu4 (by show u * 16 ≤ _; omega) (by omega)), ?_⟩
    intro H5 l5 A5 n5 c5 h5
    rw [hz] at h5
    exact h5
  refine ⟨fun hna => ⟨fun hmb => ?_, fun hmb => fin (.inr (by have := of_decide_eq_false hmb; omega)) ha.len hb.len⟩, fun hna => fin (.inl (by have := of_decide_eq_false hna; omega)) ha.len hb.len⟩
  have hna := of_decide_eq_true hna; have hmb := of_decide_eq_true hmb
  obtain ⟨p, a, rfl⟩ := ha.pos hna
  obtain ⟨q, b, rfl⟩ := hb.pos hmb
  have han := ha.len; have hbm := hb.len
  have hca := ha.cap; have hcb := hb.cap
  simp only [List.length_cons] at han hbm
  have hp := hoka p List.mem_cons_self; have hq := hokb q List.mem_cons_self
  obtain ⟨hi, hA, _, hc, ⟨rfl, r1, r2⟩⟩ := ha.at (hle_refl H3) (i := 0) (by omega) (by omega)
  obtain ⟨ji, jA, _, jc, ⟨rfl, q1, q2⟩⟩ := hb.at (hle_refl H3) (i := 0) (by omega) (by omega)
  simp only [Int.toNat_zero, List.getElem_cons_zero] at hc jc r1 r2 q1 q2
  rw [List.length_cons, List.length_cons, show a.length + 1 + (b.length + 1) = (a.length + b.length + 1) + 1 by omega, zipI2] at he
  have next : ∀ {H4 : Heap} {u4 : Nat} {xs4 : List Value} {out4 : List Per}, Heap.le H3 H4 → Row H4 xs4 out4 → out4.length = u4 → Z = out4 ++ (if p.hi < q.hi then zipI2 (a.length + b.length + 1) a (q :: b) else zipI2 (a.length + b.length + 1) (p :: a) b) →
      someA A3 ∧ (0 : Int) ≤ 0 ∧ (0 : Int) < n3 ∧ ∃ n41 : Int, Cells H4 A3 ((0 : Int).toNat * 2 + 1) [.int .i64 n41] ∧ someA B3 ∧ (0 : Int) ≤ 0 ∧ (0 : Int) < m3 ∧ ∃ n42 : Int, Cells H4 B3 ((0 : Int).toNat * 2 + 1) [.int .i64 n42] ∧
        (decide (n41 < n42) = true → (0 : Int) ≤ 1 ∧ (1 : Int) ≤ n3 ∧ (n3 : Int) ≤ c3 ∧ ∀ A44 : Option Addr, A44 = subA A3 c3 (1 : Int).toNat 2 →
          (∃ a b out : List Per, Sl H4 A44 ((n3 : Int).toNat - (1 : Int).toNat) (c3 - (1 : Int).toNat) a ∧ Sl H4 B3 m3 d3 b ∧ (∀ p ∈ a, 0 ≤ p.lo ∧ p.lo < p.hi ∧ p.hi ≤ maxT) ∧ (∀ p ∈ b, 0 ≤ p.lo ∧ p.lo < p.hi ∧ p.hi ≤ maxT) ∧ Row H4 xs4 out ∧ out.length = u4 ∧ Z = out ++ zipI2 (a.length + b.length) a b) ∧ ((n3 : Int).toNat - (1 : Int).toNat) + m3 < n3 + m3) ∧
        (decide (n41 < n42) = false → (0 : Int) ≤ 1 ∧ (1 : Int) ≤ m3 ∧ (m3 : Int) ≤ d3 ∧ ∀ A47 : Option Addr, A47 = subA B3 d3 (1 : Int).toNat 2 →
          (∃ a b out : List Per, Sl H4 A3 n3 c3 a ∧ Sl H4 A47 ((m3 : Int).toNat - (1 : Int).toNat) (d3 - (1 : Int).toNat) b ∧ (∀ p ∈ a, 0 ≤ p.lo ∧ p.lo < p.hi ∧ p.hi ≤ maxT) ∧ (∀ p ∈ b, 0 ≤ p.lo ∧ p.lo < p.hi ∧ p.hi ≤ maxT) ∧ Row H4 xs4 out ∧ out.length = u4 ∧ Z = out ++ zipI2 (a.length + b.length) a b) ∧ n3 + ((m3 : Int).toNat - (1 : Int).toNat) < n3 + m3) := by
    intro H4 u4 xs4 out4 l4 hr4 hu4 he4
    refine ⟨hA, by omega, by omega, p.hi, (hc.mono l4).at1 (k := 1) rfl, jA, by omega, by omega, q.hi, (jc.mono l4).at1 (k := 1) rfl, fun hlt => ?_, fun hge => ?_⟩
    · rw [if_pos (of_decide_eq_true hlt)] at he4
      refine ⟨by omega, by omega, by omega, ?_⟩
      rintro A44 rfl
      refine ⟨⟨a, q :: b, out4, (ha.mono l4).tail, hb.mono l4, fun x hx => hoka x (List.mem_cons_of_mem _ hx), hokb, hr4, hu4, by rw [he4, List.length_cons, Nat.add_assoc]⟩, by omega⟩
    · rw [if_neg (of_decide_eq_false hge)] at he4
      refine ⟨by omega, by omega, by omega, ?_⟩
      rintro A47 rfl
      refine ⟨⟨p :: a, b, out4, ha.mono l4, (hb.mono l4).tail, hoka, fun x hx => hokb x (List.mem_cons_of_mem _ hx), hr4, hu4, by rw [he4, List.length_cons]; congr 2; omega⟩, by omega⟩
  have hlen := congrArg List.length he
  refine ⟨hA, by omega, by omega, _, _, hc, jA, by omega, by omega, _, _, jc, ⟨_, period_Intersect, ?_⟩, _, period_Intersect, ?_⟩
  all_goals
    rintro H4 l4 x y e ⟨hb, ht, hf⟩
    refine ⟨fun h => ?_, fun h => ?_⟩
    · obtain ⟨rfl, rfl⟩ := ht h
      rw [h] at hb
      rw [if_pos hb.symm] at he hlen
      simp only [List.length_append, List.length_cons] at hlen
      exact ⟨by omega, next l4 ((hr.mono l4).append (row1 (perInt p q) (by simp only [rng, perInt]; omega) (by simp only [rng, perInt]; omega))) (by simp [hu]) (by rw [he]; simp)⟩
    · rw [h] at hb
      rw [if_neg (by rw [← hb]; simp)] at he
      exact next l4 (hr.mono l4) hu (by rw [he]; simp)
end
end Go.Vc
/- Groups of tuples by their key values: rows that grow in place, an index by the keys' texts. -/
namespace Go.Vc
open Go Go.Proofs Go.Shelf
/- an index by the keys' texts -/
def idxM (o : Nat) : List (List Val) → List (Value × Value)
  | [] => []
  | v :: r => (.string (keyStr v), .int .i64 ((o : Nat) : Int)) :: idxM (o + 1) r
theorem keyEq_str {v u : List Val} : keyEq (.string (keyStr v)) (.string (keyStr u)) = decide (v = u) := by
  rw [Bool.eq_iff_iff, decide_eq_true_eq]
  constructor
  · intro h
    exact keyStr_inj (of_decide_eq_true h)
  · rintro rfl; exact decide_eq_true rfl
theorem idxM_has (v : List Val) : ∀ (ks : List (List Val)) (o : Nat), mhas (idxM o ks) (.string (keyStr v)) = decide (v ∈ ks)
  | [], o => rfl
  | u :: r, o => by
    have ih := idxM_has v r (o + 1)
    unfold mhas at ih ⊢
    rw [idxM, List.any_cons, ih, keyEq_str]
    rw [Bool.eq_iff_iff]; simp
theorem idxM_find {v : List Val} : ∀ {ks : List (List Val)} {o j : Nat}, ks.Nodup → ks[j]? = some v → mfind (idxM o ks) (.string (keyStr v)) = some (.int .i64 ((o + j : Nat) : Int))
  | u :: r, o, 0, _, h => by
    simp only [List.getElem?_cons_zero, Option.some.injEq] at h
    subst h
    unfold mfind
    rw [idxM, List.find?_cons, keyEq_str, decide_eq_true rfl]; rfl
  | u :: r, o, j + 1, hn, h => by
    obtain ⟨h1, h2⟩ := List.nodup_cons.1 hn
    simp only [List.getElem?_cons_succ] at h
    have hne : v ≠ u := fun e => h1 (by rw [← e]; exact List.mem_of_getElem? h)
    have ih := idxM_find (o := o + 1) h2 h
    unfold mfind at ih ⊢
    rw [idxM, List.find?_cons, keyEq_str, decide_eq_false hne]
    rw [show o + (j + 1) = o + 1 + j by omega]
    exact ih
theorem idxM_none {v : List Val} : ∀ {ks : List (List Val)} {o : Nat}, v ∉ ks → mfind (idxM o ks) (.string (keyStr v)) = none
  | [], o, _ => rfl
  | u :: r, o, h => by
    simp only [List.mem_cons, not_or] at h
    have ih := idxM_none (o := o + 1) h.2
    unfold mfind at ih ⊢
    rw [idxM, List.find?_cons, keyEq_str, decide_eq_false h.1]
    exact ih
theorem idxM_put {v : List Val} : ∀ {ks : List (List Val)} {o : Nat}, v ∉ ks → mput (idxM o ks) (.string (keyStr v)) (.int .i64 ((o + ks.length : Nat) : Int)) = idxM o (ks ++ [v])
  | [], o, _ => rfl
  | u :: r, o, h => by
    simp only [List.mem_cons, not_or] at h
    have ih := idxM_put (o := o + 1) h.2
    rw [idxM, mput, keyEq_str, if_neg (by rw [decide_eq_false h.1]; simp), List.cons_append, idxM]
    rw [show o + (u :: r).length = o + 1 + r.length by rw [List.length_cons]; omega, ih]
/- a group while it grows: its key, its tuples' slice -/
structure GrpR where
  key : List Val
  B : Option Addr
  m : Nat
  d : Nat
  rows : List Tup
instance : Rep GrpR where
  sz := 2
  byt := 48
  rel H vs r := ∃ A n c, vs = [.slice A n c, .slice r.B r.m r.d] ∧ Sl H A n c r.key
  mono := fun hle ⟨A, n, c, h1, h2⟩ => ⟨A, n, c, h1, h2.mono hle⟩
  len := fun ⟨A, n, c, h1, _⟩ => by simp [h1]
  pos := by decide
  bpos := by decide
  one := fun ⟨A, n, c, h1, _⟩ => by rw [h1]; simp [Value.oneCell']
/- a group -/
structure Grp2 where
  key : List Val
  tups : List Tup
instance : Rep Grp2 where
  sz := 2
  byt := 48
  rel H vs r := ∃ A n c B m d, vs = [.slice A n c, .slice B m d] ∧ Sl H A n c r.key ∧ Sl H B m d r.tups
  mono := fun hle ⟨A, n, c, B, m, d, h1, h2, h3⟩ => ⟨A, n, c, B, m, d, h1, h2.mono hle, h3.mono hle⟩
  len := fun ⟨A, n, c, B, m, d, h1, _⟩ => by simp [h1]
  pos := by decide
  bpos := by decide
  one := fun ⟨A, n, c, B, m, d, h1, _⟩ => by rw [h1]; simp [Value.oneCell']
structure OpenG (O : OMap) (H : Heap) (r : GrpR) : Prop where
  opn : isOpen O r.B 57 r.m r.d
  row : ∃ ys, Cells H r.B 0 ys ∧ Row H ys r.rows
  len : r.rows.length = r.m
  cap : r.m ≤ r.d
structure GrpsOK (O : OMap) (H : Heap) (xs : List Value) (rs : List GrpR) : Prop where
  row : Row H xs rs
  opn : ∀ j (h : j < rs.length), OpenG O H rs[j]
  sep : ∀ j k (hj : j < rs.length) (hk : k < rs.length), j ≠ k → rs[j].B ≠ none → rs[j].B ≠ rs[k].B
theorem GrpsOK.mono {O : OMap} {H H' : Heap} {xs : List Value} {rs : List GrpR} (h : GrpsOK O H xs rs) (hle : Heap.le H H') : GrpsOK O H' xs rs :=
  ⟨h.row.mono hle, fun j hj => let ⟨a, ⟨ys, b1, b2⟩, c, k⟩ := h.opn j hj; ⟨a, ⟨ys, b1.mono hle, b2.mono hle⟩, c, k⟩, h.sep⟩
/- the map of the call's own changes; the rows' blocks stay -/
theorem GrpsOK.other {O O' : OMap} {H : Heap} {xs : List Value} {rs : List GrpR} {b0 : Nat} (h : GrpsOK O H xs rs) (hm : ∃ t es, O b0 = some (.mp t es)) (hk : ∀ b, b ≠ b0 → O' b = O b) : GrpsOK O' H xs rs := by
  refine ⟨h.row, fun j hj => ?_, h.sep⟩
  obtain ⟨a, b, c, k⟩ := h.opn j hj
  refine ⟨?_, b, c, k⟩
  rcases a with a | ⟨g, a1, a2⟩
  · exact .inl a
  · refine .inr ⟨g, a1, ?_⟩
    rw [hk g ?_]
    · exact a2
    · rintro rfl
      obtain ⟨t, es, e⟩ := hm
      rw [e] at a2; cases a2
theorem GrpsOK.new {O : OMap} {H : Heap} {xs : List Value} {rs : List GrpR} (h : GrpsOK O H xs rs) {A : Option Addr} {n c : Nat} {v : List Val} (hv : Sl H A n c v) :
    GrpsOK O H (xs ++ [.slice A n c, .slice none 0 0]) (rs ++ [⟨v, none, 0, 0, []⟩]) := by
  refine ⟨h.row.append (Row.one ⟨A, n, c, rfl, hv⟩), fun j hj => ?_, fun j k hj hk hne h0 => ?_⟩
  · rw [List.getElem_append]
    split
    · exact h.opn j _
    · simp only [List.getElem_singleton]
      exact ⟨.inl ⟨rfl, rfl, rfl⟩, ⟨[], .inl rfl, rfl⟩, rfl, Nat.le_refl _⟩
  · simp only [List.length_append, List.length_singleton] at hj hk
    by_cases hj' : j < rs.length
    · rw [List.getElem_append_left hj'] at h0 ⊢
      by_cases hk' : k < rs.length
      · rw [List.getElem_append_left hk']
        exact h.sep j k hj' hk' hne h0
      · have : k = rs.length := by omega
        subst this
        simp only [List.getElem_concat_length]
        exact h0
    · have : j = rs.length := by omega
      subst this
      simp only [List.getElem_concat_length] at h0
      exact absurd rfl h0
/- one tuple more in a group -/
theorem GrpsOK.push {O : OMap} {H : Heap} {xs : List Value} {rs : List GrpR} (h : GrpsOK O H xs rs) {e : Nat} (hi : e < rs.length) {ys vs : List Value} {t : Tup} (hys : Row H ys rs[e].rows) {A : Option Addr} {c : Nat} {H' : Heap} {O' : OMap}
    (hle : Heap.le H H') (hc : Cells H' A 0 (ys ++ vs)) (hr : Rep.rel H' vs t) (hop : isOpen O' A 57 (rs[e].m + 1) c) (hkeep : keepO O O' rs[e].B A) (hcap : rs[e].m + 1 ≤ c) :
    GrpsOK O' H' (splice xs (e * 2 + 1) [.slice A (rs[e].m + 1) c]) (rs.set e ⟨rs[e].key, A, rs[e].m + 1, c, rs[e].rows ++ [t]⟩) := by
  obtain ⟨us, ⟨A1, n1, c1, rfl, q1⟩, -, hs⟩ := (h.row.mono hle).getf hi
  have hrow := hs 1 [.slice A (rs[e].m + 1) c] ⟨rs[e].key, A, rs[e].m + 1, c, rs[e].rows ++ [t]⟩ (show 1 + 1 ≤ 2 by decide) ⟨A1, n1, c1, rfl, q1⟩
  have o4 := (h.opn e hi).len
  have hkp : ∀ j (hj : j < rs.length), j ≠ e → ∀ b, rs[j].B = some ⟨b, 0, none⟩ → (∃ z, O b = some z) → A ≠ some ⟨b, 0, none⟩ ∧ O' b = O b := by
    rintro j hj hne b hb ⟨z, hz⟩
    refine hkeep b (by rw [hz]; simp) ?_
    rw [← hb]
    exact fun e' => h.sep j e hj hi hne (by rw [hb]; simp) e'.symm
  refine ⟨hrow, fun j hj => ?_, fun j k hj hk hne hb => ?_⟩
  · rw [List.length_set] at hj
    rw [List.getElem_set]
    split
    · rename_i hje
      subst hje
      exact ⟨hop, ⟨_, hc, (hys.mono hle).append (Row.one hr)⟩, by simp [o4], hcap⟩
    · rename_i hne
      obtain ⟨a1, ⟨zs, a2, a3⟩, a4, a5⟩ := h.opn j hj
      refine ⟨?_, ⟨zs, a2.mono hle, a3.mono hle⟩, a4, a5⟩
      rcases a1 with a1 | ⟨b, b1, b2⟩
      · exact .inl a1
      · exact .inr ⟨b, b1, by rw [(hkp j hj (Ne.symm hne) b b1 ⟨_, b2⟩).2]; exact b2⟩
  · rw [List.length_set] at hj hk
    have sepA : ∀ j (hj : j < rs.length), j ≠ e → rs[j].B ≠ none → rs[j].B ≠ A := by
      intro j hj hne hb
      rcases (h.opn j hj).opn with ⟨b1, -⟩ | ⟨b, b1, b2⟩
      · exact absurd b1 hb
      · rw [b1]
        exact fun e' => (hkp j hj hne b b1 ⟨_, b2⟩).1 e'.symm
    rw [List.getElem_set] at hb ⊢
    rw [List.getElem_set]
    by_cases hje : e = j
    · rw [if_pos hje] at hb ⊢
      have hke : ¬ e = k := by omega
      rw [if_neg hke]
      by_cases hkn : rs[k].B = none
      · rw [hkn]; exact hb
      · exact fun e' => sepA k hk (by omega) hkn e'.symm
    · rw [if_neg hje] at hb ⊢
      by_cases hke : e = k
      · rw [if_pos hke]
        exact sepA j hj (by omega) hb
      · rw [if_neg hke]
        exact h.sep j k hj hk hne hb
/- what the groups are -/
structure GrpsAre (rs : List GrpR) (l : List Tup) (cols : List Int) : Prop where
  nod : (rs.map (·.key)).Nodup
  keys : KeysOf (rs.map (·.key)) l cols
  rows : ∀ r ∈ rs, r.rows = withK l cols r.key
theorem GrpsAre.nil {cols : List Int} : GrpsAre [] [] cols := ⟨List.nodup_nil, KeysOf.nil, fun r h => by cases h⟩
theorem GrpsAre.skip {rs : List GrpR} {l : List Tup} {cols : List Int} {i : Nat} (hi : i < l.length) (h : GrpsAre rs (l.take i) cols) (hp : pOk l[i].p = false) : GrpsAre rs (l.take (i + 1)) cols :=
  ⟨h.nod, h.keys.skip hi hp, fun r hr => by rw [withK_succ hi, if_neg (by rw [hp]; simp), List.append_nil]; exact h.rows r hr⟩
theorem GrpsAre.put {rs : List GrpR} {l : List Tup} {cols : List Int} {i e : Nat} (hi : i < l.length) (hn : (rs.map (·.key)).Nodup) (hk : KeysOf (rs.map (·.key)) (l.take (i + 1)) cols) (hr : ∀ r ∈ rs, r.rows = withK (l.take i) cols r.key)
    (he : e < rs.length) (hp : pOk l[i].p = true) (hkey : rs[e].key = keyVals l[i].vals cols) {A : Option Addr} {m d : Nat} : GrpsAre (rs.set e ⟨rs[e].key, A, m, d, rs[e].rows ++ [l[i]]⟩) (l.take (i + 1)) cols := by
  have hmap : (rs.set e ⟨rs[e].key, A, m, d, rs[e].rows ++ [l[i]]⟩).map (·.key) = rs.map (·.key) := by
    apply List.ext_getElem
    · simp
    · intro j h1 h2
      simp only [List.getElem_map, List.getElem_set]
      split
      · rename_i hje; subst hje; rfl
      · rfl
  refine ⟨by rw [hmap]; exact hn, by rw [hmap]; exact hk, fun r hr' => ?_⟩
  obtain ⟨j, hj, rfl⟩ := List.getElem_of_mem hr'
  rw [List.length_set] at hj
  rw [List.getElem_set]
  split
  · simp only
    rw [withK_succ hi, if_pos (by rw [hp, hkey, cmpVs_ord.refl]; rfl), hr _ (List.getElem_mem he)]
  · rename_i hne
    have hkj : keyVals l[i].vals cols ≠ rs[j].key := by
      rw [← hkey]
      intro e'
      have := (List.getElem_inj (xs := rs.map (·.key)) (h₀ := by simpa using he) (h₁ := by simpa using hj) hn).1 (by simpa using e')
      exact hne this
    rw [withK_succ hi, if_neg (by rw [Bool.and_eq_true, decide_eq_true_eq, cmpVs_zero]; exact fun hc => hkj hc.2), List.append_nil]
    exact hr _ (List.getElem_mem hj)
/- a key that is not there yet has no tuples -/
theorem withK_none {l : List Tup} {cols : List Int} {v : List Val} {ks : List (List Val)} (hk : KeysOf ks l cols) (h : v ∉ ks) : withK l cols v = [] := by
  refine List.filter_eq_nil_iff.2 fun t ht hc => ?_
  rw [Bool.and_eq_true, decide_eq_true_eq, cmpVs_zero] at hc
  exact h ((hk v).2 (byKey_mem.2 ⟨t, ht, hc.1, hc.2⟩))
def toGrp (r : GrpR) : Grp2 := ⟨r.key, r.rows⟩
theorem grp_row {H : Heap} : ∀ {ys : List Value} {m : List GrpR}, Row H ys m → (∀ r ∈ m, Sl H r.B r.m r.d r.rows) → Row H ys (m.map toGrp)
  | _, [], h, _ => h
  | _, r :: m, ⟨vs, zs, h1, ⟨A, n, c, e, hk⟩, h3⟩, h => ⟨vs, zs, h1, ⟨A, n, c, r.B, r.m, r.d, e, hk, h r (by simp)⟩, grp_row h3 fun q hq => h q (by simp [hq])⟩
def keyGroups (l : List Tup) (cols : List Int) : List Grp2 := (keyList l cols).map fun v => ⟨v, withK l cols v⟩
theorem grps_keys {rs m : List GrpR} {l : List Tup} {cols : List Int} (h : GrpsAre rs l cols) (hp : m.Perm rs) (hs : m.Pairwise (fun a b => ¬ cmpVs b.key a.key < 0)) : m.map toGrp = keyGroups l cols := by
  have hn : (m.map (·.key)).Nodup := (hp.map _).nodup_iff.2 h.nod
  have ha : ascV (m.map (·.key)) := ascV_of_sorted (List.pairwise_map.2 hs) hn
  have hk : KeysOf (m.map (·.key)) l cols := fun v => by rw [(hp.map (·.key)).mem_iff]; exact h.keys v
  unfold keyGroups
  rw [← keyList_eq ha hk, List.map_map]
  exact List.map_congr_left fun r hr => by
    have := h.rows r (hp.mem_iff.1 hr)
    simp only [toGrp, Function.comp_apply, this]
end Go.Vc
/- The laws of chapter 24. -/
namespace Go.Vc
open Go Go.Proofs Go.Shelf
/- the sanity check's tuples -/
def awG : Tup := ⟨[lv0 0, lv1 0], ⟨7, 9⟩, [2]⟩
theorem gw_gaps : gapsAll [awA, awG] [0] = [⟨⟨5, 7⟩, [1, 2]⟩] := by
  have k : keyList [awA, awG] [0] = [[lv0 0]] := by decide +kernel
  have w : withK [awA, awG] [0] [lv0 0] = [awA, awG] := by decide +kernel
  have c : covL [awA, awG] [0] [lv0 0] = [⟨0, 5⟩, ⟨7, 9⟩] := by decide +kernel
  have t : tlins ([awA, awG].filter (touch ⟨5, 7⟩)) = [1, 2] := by decide +kernel
  have cn : canon [1, 2] = [1, 2] := asc_unique (canon_asc _) (by decide) fun y => canon_mem
  unfold gapsAll
  rw [k, List.flatMap_cons, List.flatMap_nil, List.append_nil, gapsK, w, c, gapsGo, gapsGo, gapV, t, cn]
  simp
theorem gw_keys : keysAll [awA, awG] [0] = [] := by
  have k : keyList [awA, awG] [0] = [[lv0 0]] := by decide +kernel
  have w : withK [awA, awG] [0] [lv0 0] = [awA, awG] := by decide +kernel
  have t : tends [awA, awG] = [0, 5, 7, 9] := by decide +kernel
  have cn : canon [0, 5, 7, 9] = [0, 5, 7, 9] := asc_unique (canon_asc _) (by decide) fun y => canon_mem
  unfold keysAll
  rw [k, List.flatMap_cons, List.flatMap_nil, List.append_nil, keyV, w, t, cn]
  decide +kernel
theorem gw_keys2 : (keysAll [awA, awA] [0]).length = 1 := by
  have k : keyList [awA, awA] [0] = [[lv0 0]] := by decide +kernel
  have w : withK [awA, awA] [0] [lv0 0] = [awA, awA] := by decide +kernel
  have t : tends [awA, awA] = [0, 5, 0, 5] := by decide +kernel
  have cn : canon [0, 5, 0, 5] = [0, 5] := asc_unique (canon_asc _) (by decide) fun y => by rw [canon_mem]; simp only [List.mem_cons, List.not_mem_nil, or_false]; omega
  unfold keysAll
  rw [k, List.flatMap_cons, List.flatMap_nil, List.append_nil, keyV, w, t, cn]
  decide +kernel
theorem lv0_val {x : Int} (hx : 0 ≤ x) : valOk 2 (lv0 x) := by
  refine ⟨(lv0_ok hx).1, (lv0_ok hx).2.1, ?_⟩
  unfold lv0; split
  · decide
  · exact Nat.zero_le _
theorem lv1_val {x : Int} (hx : 0 ≤ x) : valOk 2 (lv1 x) := by
  refine ⟨(lv1_ok hx).1, (lv1_ok hx).2.1, ?_⟩
  unfold lv1; split
  · decide
  · rcases tmod3 hx with e | e | e <;> simp only [e] <;> unfold txt <;> decide
theorem two_val {x y : Int} (hx : 0 ≤ x) (hy : 0 ≤ y) : ∀ v ∈ [lv0 x, lv1 y], valOk 2 v := by
  intro v hv
  simp only [List.mem_cons, List.not_mem_nil, or_false] at hv
  rcases hv with rfl | rfl
  · exact lv0_val hx
  · exact lv1_val hy
theorem fit_of {l : List Tup} {cols : List Int} (h1 : l.length < 20) (h2 : cols.length ≤ 2) (h3 : (tlins l).length ≤ 1000) (h4 : ∀ t ∈ l, ∀ v ∈ t.vals, valOk 2 v) : Fit l cols :=
  ⟨h1, by omega, by omega, keyFit_of (b := 2) (by decide) (by omega) h4⟩
theorem awf {l : List Tup} (h : l = [awA, awG] ∨ l = [awA, awA]) : Fit l [0] := by
  rcases h with rfl | rfl
  · refine fit_of (by decide) (by decide) (by decide) fun t ht => ?_
    simp only [List.mem_cons, List.not_mem_nil, or_false] at ht
    rcases ht with rfl | rfl <;> exact two_val (by decide) (by decide)
  · refine fit_of (by decide) (by decide) (by decide) fun t ht => ?_
    simp only [List.mem_cons, List.not_mem_nil, or_false] at ht
    rcases ht with rfl | rfl <;> exact two_val (by decide) (by decide)
theorem u5_nn {H : Heap} {A : Option Addr} {n c : Nat} {l : List U5} (h : Sl H A n c l) : ∀ y ∈ l, 0 ≤ y.a ∧ 0 ≤ y.b ∧ 0 ≤ y.c ∧ 0 ≤ y.d := by
  intro y hy
  obtain ⟨i, hi, rfl⟩ := List.getElem_of_mem hy
  obtain ⟨vs, -, -, r1, r2, r3, r4, -⟩ := h.get i hi
  simp only [rng] at r1 r2 r3 r4
  omega
theorem lTups_val {l : List U5} {most : Nat} (hl : ∀ x ∈ l, 0 ≤ x.c ∧ 0 ≤ x.d) : ∀ t ∈ lTups l most, ∀ v ∈ t.vals, valOk 2 v := by
  intro t ht
  obtain ⟨x, hx, rfl⟩ := List.mem_map.1 ht
  have hx := hl x (List.take_subset _ _ hx)
  exact two_val hx.1 hx.2
theorem lTups_fit {H : Heap} {A : Option Addr} {n c : Nat} {l : List U5} (h : Sl H A n c l) {cols : List Int} (hc : cols.length ≤ 2) : Fit (lTups l 15) cols := by
  have h1 := lTups_len l 15; have h2 := lTups_lins l 15
  exact fit_of (by omega) hc (by omega) (lTups_val fun x hx => ⟨(u5_nn h x hx).2.2.1, (u5_nn h x hx).2.2.2⟩)
end Go.Vc
/- Foreign keys: what both give for all keys; the days; the sanity check's values. -/
namespace Go.Vc
open Go
def fkAll (child parent : List Tup) (cols ref : List Int) : List Vio := (keyList child cols).flatMap fun v => refV (withK child cols v) (withK parent ref v)
theorem withK_ok {l : List Tup} {cols : List Int} {v : List Val} : ∀ t ∈ withK l cols v, pOk t.p = true := fun t ht => by
  have := (List.mem_filter.1 ht).2
  rw [Bool.and_eq_true] at this
  exact this.1
theorem withK_mem {l : List Tup} {cols : List Int} {v : List Val} {t : Tup} : t ∈ withK l cols v ↔ t ∈ l ∧ pOk t.p = true ∧ keyVals t.vals cols = v := by
  unfold withK
  rw [List.mem_filter, Bool.and_eq_true, decide_eq_true_eq, cmpVs_zero]
theorem fk_daily {child parent : List Tup} {cols ref : List Int} {d : Int} : covV (fkAll child parent cols ref) d ↔ ∃ r ∈ child, pIn r.p d = true ∧ ¬ ∃ s ∈ parent, pIn s.p d = true ∧ keyVals s.vals ref = keyVals r.vals cols := by
  have hlab : ∀ v, covV (refV (withK child cols v) (withK parent ref v)) d ↔ (∃ y ∈ withK child cols v, inT d y = true) ∧ ¬ ∃ y ∈ withK parent ref v, inT d y = true := by
    intro v
    have h2 := (refV_lab (S := withK child cols v) (A := withK parent ref v) withK_ok withK_ok).2
    constructor
    · rintro ⟨w, hw, h⟩
      obtain ⟨a, b, -⟩ := fk_some.1 ((h2 d w.ids).1 ⟨w, hw, h, rfl⟩)
      exact ⟨a, b⟩
    · rintro ⟨a, b⟩
      obtain ⟨w, hw, h, -⟩ := (h2 d _).2 (fk_some.2 ⟨a, b, rfl⟩)
      exact ⟨w, hw, h⟩
  have e : covV (fkAll child parent cols ref) d ↔ ∃ v ∈ keyList child cols, covV (refV (withK child cols v) (withK parent ref v)) d := by
    unfold covV fkAll
    constructor
    · rintro ⟨w, hw, h⟩
      obtain ⟨v, hv, hw⟩ := List.mem_flatMap.1 hw
      exact ⟨v, hv, w, hw, h⟩
    · rintro ⟨v, hv, w, hw, h⟩
      exact ⟨w, List.mem_flatMap.2 ⟨v, hv, hw⟩, h⟩
  rw [e]
  constructor
  · rintro ⟨v, hv, h⟩
    obtain ⟨⟨y, hy, hin⟩, hno⟩ := (hlab v).1 h
    obtain ⟨h1, h2, rfl⟩ := withK_mem.1 hy
    refine ⟨y, h1, hin, ?_⟩
    rintro ⟨s, hs, hsd, hk⟩
    have hso : pOk s.p = true := pOk_iff.2 (pIn_iff.1 hsd).1
    exact hno ⟨s, withK_mem.2 ⟨hs, hso, hk⟩, hsd⟩
  · rintro ⟨r, hr, hin, hno⟩
    have hro : pOk r.p = true := pOk_iff.2 (pIn_iff.1 hin).1
    refine ⟨keyVals r.vals cols, (keyList_keys child cols _).2 (byKey_mem.2 ⟨r, hr, hro, rfl⟩), (hlab _).2 ⟨⟨r, withK_mem.2 ⟨hr, hro, rfl⟩, hin⟩, ?_⟩⟩
    rintro ⟨s, hs, hsd⟩
    obtain ⟨a, b, c⟩ := withK_mem.1 hs
    exact hno ⟨s, a, hsd, c⟩
theorem accF_len (F : Int → Option (List Int)) : ∀ (ps : List Int) (out : List Vio), (accF F ps out).length ≤ out.length + ps.length
  | [], out => by simp [accF]
  | [_], out => by simp [accF]
  | f :: t :: ps, out => by
    rw [accF]
    split
    · rename_i x hx
      have h1 := accF_len F (t :: ps) (extV out ⟨⟨f, t⟩, x⟩)
      have h2 := extV_len out ⟨⟨f, t⟩, x⟩
      simp only [List.length_cons] at h1 ⊢; omega
    · have h1 := accF_len F (t :: ps) out
      simp only [List.length_cons] at h1 ⊢; omega
theorem segF_len (F : Int → Option (List Int)) : ∀ (ps : List Int), (segF F ps).length ≤ ps.length
  | [] => by simp [segF]
  | [_] => by simp [segF]
  | f :: t :: ps => by
    have h1 := segF_len F (t :: ps)
    rw [segF]
    split <;> (simp only [List.length_append, List.length_cons, List.length_nil] at h1 ⊢; omega)
theorem refV_len (S A : List Tup) : (refV S A).length ≤ 2 * (S.length + A.length) := by
  have h1 := accF_len (fkF S A) (canon (tends (S ++ A))) []
  have h2 := canon_len (tends (S ++ A))
  have h3 := tends_len (S ++ A)
  rw [List.length_append] at h3
  unfold refV
  simp only [List.length_nil] at h1
  omega
/- the sanity check -/
def awC : Tup := ⟨[lv0 0, lv1 0], ⟨0, 9⟩, [4]⟩
def awP : Tup := ⟨[lv0 0, lv1 0], ⟨0, 5⟩, [1]⟩
def awQ : Tup := ⟨[lv0 0, lv1 0], ⟨6, 9⟩, [2]⟩
theorem fw_one : fkAll [awC] [awP, awQ] [0] [0] = [⟨⟨5, 6⟩, [4]⟩] := by
  have k : keyList [awC] [0] = [[lv0 0]] := by decide +kernel
  have w : withK [awC] [0] [lv0 0] = [awC] := by decide +kernel
  have w2 : withK [awP, awQ] [0] [lv0 0] = [awP, awQ] := by decide +kernel
  have t : tends ([awC] ++ [awP, awQ]) = [0, 9, 0, 5, 6, 9] := by decide +kernel
  have cn : canon [0, 9, 0, 5, 6, 9] = [0, 5, 6, 9] := asc_unique (canon_asc _) (by decide) fun y => by rw [canon_mem]; simp only [List.mem_cons, List.not_mem_nil, or_false]; omega
  have c4 : canon [4] = [4] := asc_unique (canon_asc _) (by decide) fun y => canon_mem
  have f0 : fkF [awC] [awP, awQ] 0 = none := by
    unfold fkF
    rw [if_neg (by decide +kernel), if_neg (by decide +kernel)]
  have f5 : fkF [awC] [awP, awQ] 5 = some [4] := by
    have e : tlins ([awC].filter (inT 5)) = [4] := by decide +kernel
    unfold fkF
    rw [if_neg (by decide +kernel), if_pos (by decide +kernel), e, c4]
  have f6 : fkF [awC] [awP, awQ] 6 = none := by
    unfold fkF
    rw [if_neg (by decide +kernel), if_neg (by decide +kernel)]
  unfold fkAll
  rw [k, List.flatMap_cons, List.flatMap_nil, List.append_nil, w, w2, refV, t, cn, accF, f0, accF, f5, accF, f6, accF]
  · rfl
  · simp
theorem fw_none : fkAll [awP, awQ] [awC] [0] [0] = [] := by
  have k : keyList [awP, awQ] [0] = [[lv0 0]] := by decide +kernel
  have w : withK [awC] [0] [lv0 0] = [awC] := by decide +kernel
  have w2 : withK [awP, awQ] [0] [lv0 0] = [awP, awQ] := by decide +kernel
  have t : tends ([awP, awQ] ++ [awC]) = [0, 5, 6, 9, 0, 9] := by decide +kernel
  have cn : canon [0, 5, 6, 9, 0, 9] = [0, 5, 6, 9] := asc_unique (canon_asc _) (by decide) fun y => by rw [canon_mem]; simp only [List.mem_cons, List.not_mem_nil, or_false]; omega
  have f0 : fkF [awP, awQ] [awC] 0 = none := by
    unfold fkF
    rw [if_neg (by decide +kernel), if_neg (by decide +kernel)]
  have f5 : fkF [awP, awQ] [awC] 5 = none := by
    unfold fkF
    rw [if_pos (by decide +kernel)]
  have f6 : fkF [awP, awQ] [awC] 6 = none := by
    unfold fkF
    rw [if_neg (by decide +kernel), if_neg (by decide +kernel)]
  unfold fkAll
  rw [k, List.flatMap_cons, List.flatMap_nil, List.append_nil, w, w2, refV, t, cn, accF, f0, accF, f5, accF, f6, accF]
  all_goals first | rfl | simp
theorem fw_cov : covL [awP, awQ] [0] [lv0 0] = [⟨0, 5⟩, ⟨6, 9⟩] := by decide +kernel
/- how many parts a difference has -/
theorem cut_len {hi : Int} : ∀ (b : List Per) (t : Int), (cut t hi b).length ≤ b.length + 1
  | [], t => by unfold cut; split <;> simp
  | q :: b, t => by
    have h1 := cut_len (hi := hi) b t
    have h2 := cut_len (hi := hi) b q.hi
    unfold cut
    simp only [List.length_cons]
    repeat' split
    all_goals (try simp only [List.length_cons, List.length_append, List.length_nil])
    all_goals omega
theorem cutAll_len (b : List Per) : ∀ a : List Per, (cutAll a b).length ≤ a.length * (b.length + 1)
  | [] => by simp [cutAll]
  | p :: a => by
    have h1 := cutAll_len b a
    have h2 := cut_len (hi := p.hi) b p.lo
    simp only [cutAll, List.flatMap_cons, List.length_append, List.length_cons, Nat.succ_mul] at h1 ⊢
    omega
theorem isect_one_len (p : Per) (ms : List Per) : (isect [p] ms).length ≤ ms.length := by
  have h1 := norm_length ms
  have e : norm [p] = if pOk p then [p] else [] := by
    unfold norm
    simp only [nrmFrom]
    split <;> simp [ins]
  have h2 : ∀ b : List Per, (hits p b).length ≤ b.length := fun b => by
    unfold hits
    rw [List.length_map]
    exact List.length_filter_le _ _
  unfold isect isectGo
  rw [e]
  split
  · rw [List.flatMap_cons, List.flatMap_nil, List.append_nil]
    exact Nat.le_trans (h2 _) h1
  · simp
end Go.Vc
/- Segments: plain law. -/
namespace Go.Vc
open Go
def onT (d : Int) (x : Tup) : Bool := decide (x.p.lo ≤ d) && decide (d < x.p.hi)
def stepAT (f : Int) (act rest : List Tup) : List Tup := act.filter (fun x => !decide (x.p.hi ≤ f)) ++ rest.takeWhile (fun x => decide (x.p.lo = f))
def stepRT (f : Int) (rest : List Tup) : List Tup := rest.dropWhile (fun x => decide (x.p.lo = f))
def ascT (l : List Tup) : Prop := l.Pairwise (fun a b => a.p.lo ≤ b.p.lo)
def lateT (f : Int) (l : List Tup) : List Tup := l.filter (fun x => !decide (x.p.hi ≤ f))
theorem restT_take {f : Int} : ∀ {rest : List Tup}, ascT rest → (∀ x ∈ rest, f ≤ x.p.lo ∧ x.p.lo < x.p.hi) →
    rest.filter (onT f) = rest.takeWhile (fun x => decide (x.p.lo = f)) ∧ (∀ x ∈ stepRT f rest, f < x.p.lo)
  | [], _, _ => ⟨rfl, fun x h => by cases h⟩
  | x :: r, hs, h => by
    obtain ⟨h1, h2⟩ := List.pairwise_cons.1 hs
    obtain ⟨a1, a2⟩ := h x (by simp)
    obtain ⟨i1, i2⟩ := restT_take h2 (fun y hy => h y (by simp [hy]))
    by_cases e : x.p.lo = f
    · have ha : onT f x = true := by simp only [onT, Bool.and_eq_true, decide_eq_true_eq]; omega
      rw [List.filter_cons, if_pos ha, List.takeWhile_cons, if_pos (by simpa using e), i1]
      refine ⟨rfl, ?_⟩
      unfold stepRT
      rw [List.dropWhile_cons, if_pos (by simpa using e)]
      exact i2
    · have ha : ∀ y ∈ x :: r, f < y.p.lo := by
        intro y hy
        rcases List.mem_cons.1 hy with rfl | hy
        · omega
        · have := h1 y hy; omega
      refine ⟨?_, ?_⟩
      · rw [List.takeWhile_cons, if_neg (by simpa using e)]
        refine List.filter_eq_nil_iff.2 fun y hy => ?_
        have := ha y hy
        simp only [onT, Bool.and_eq_true, decide_eq_true_eq]; omega
      · unfold stepRT
        rw [List.dropWhile_cons, if_neg (by simpa using e)]
        exact ha
theorem stepT_at {f : Int} {pre act rest : List Tup} (hp : ∀ x ∈ pre, x.p.lo < f) (ha : lateT f act = lateT f pre) (hs : ascT rest) (hr : ∀ x ∈ rest, f ≤ x.p.lo ∧ x.p.lo < x.p.hi) :
    stepAT f act rest = (pre ++ rest).filter (onT f) ∧ lateT f (stepAT f act rest) = lateT f (pre ++ rest.takeWhile (fun x => decide (x.p.lo = f))) := by
  obtain ⟨h1, h2⟩ := restT_take hs hr
  have e0 : lateT f pre = pre.filter (onT f) := by
    refine List.filter_congr fun x hx => ?_
    have := hp x hx
    rw [Bool.eq_iff_iff]
    simp only [onT, Bool.and_eq_true, decide_eq_true_eq, Bool.not_eq_true', decide_eq_false_iff_not]; omega
  have e1 : stepAT f act rest = (pre ++ rest).filter (onT f) := by
    rw [List.filter_append, h1, ← e0, ← ha]; rfl
  refine ⟨e1, ?_⟩
  have : stepAT f act rest = lateT f act ++ rest.takeWhile (fun x => decide (x.p.lo = f)) := rfl
  rw [this, ha]
  simp only [lateT, List.filter_append, List.filter_filter, Bool.and_self]
theorem lateT_late {f t : Int} (h : f < t) (l : List Tup) : lateT t (lateT f l) = lateT t l := by
  simp only [lateT, List.filter_filter]
  refine List.filter_congr fun x _ => ?_
  rw [Bool.eq_iff_iff]
  simp only [Bool.and_eq_true, Bool.not_eq_true', decide_eq_false_iff_not]; omega
def sgOf (f t : Int) (a : List Tup) : List Vio := if 0 < a.length then [⟨⟨f, t⟩, canon (tlins a)⟩] else []
def segGo : List Int → List Tup → List Tup → List Vio
  | f :: t :: ps, act, rest => sgOf f t (stepAT f act rest) ++ segGo (t :: ps) (stepAT f act rest) (stepRT f rest)
  | _, _, _ => []
def atF (g : List Tup) (f : Int) : Option (List Int) := if (g.filter (onT f)).length = 0 then none else some (canon (tlins (g.filter (onT f))))
theorem sgOf_at (g : List Tup) (f t : Int) : sgOf f t (g.filter (onT f)) = (match atF g f with | some x => [⟨⟨f, t⟩, x⟩] | none => []) := by
  unfold sgOf atF
  by_cases h : (g.filter (onT f)).length = 0
  · rw [if_neg (by omega), if_pos h]
  · rw [if_pos (by omega), if_neg h]
theorem segGo_eq : ∀ (ps : List Int) (f : Int) (pre act rest : List Tup), (f :: ps).Pairwise (fun a b => a < b) → (∀ x ∈ pre, x.p.lo < f) → lateT f act = lateT f pre → ascT rest →
    (∀ x ∈ rest, x.p.lo ∈ f :: ps ∧ x.p.lo < x.p.hi) → segGo (f :: ps) act rest = segF (atF (pre ++ rest)) (f :: ps)
  | [], f, pre, act, rest, _, _, _, _, _ => rfl
  | t :: ps, f, pre, act, rest, hp, h1, h2, h3, h4 => by
    obtain ⟨p1, p2⟩ := List.pairwise_cons.1 hp
    have hft : f < t := p1 t (by simp)
    have hge : ∀ x ∈ rest, f ≤ x.p.lo ∧ x.p.lo < x.p.hi := by
      intro x hx
      obtain ⟨a, b⟩ := h4 x hx
      rcases List.mem_cons.1 a with a | a
      · omega
      · have := p1 _ a; omega
    obtain ⟨s1, s2⟩ := stepT_at h1 h2 h3 hge
    obtain ⟨-, r2⟩ := restT_take h3 hge
    have hsub : (stepRT f rest).Sublist rest := List.dropWhile_sublist _
    have hsplit : rest.takeWhile (fun x => decide (x.p.lo = f)) ++ stepRT f rest = rest := List.takeWhile_append_dropWhile
    have a1 : ∀ x ∈ pre ++ rest.takeWhile (fun x => decide (x.p.lo = f)), x.p.lo < t := by
      intro x hx
      rcases List.mem_append.1 hx with hx | hx
      · have := h1 x hx; omega
      · have := tw_mem hx
        have := of_decide_eq_true this
        omega
    have a2 : lateT t (stepAT f act rest) = lateT t (pre ++ rest.takeWhile (fun x => decide (x.p.lo = f))) := by
      rw [← lateT_late hft (stepAT f act rest), s2, lateT_late hft]
    have a4 : ∀ x ∈ stepRT f rest, x.p.lo ∈ t :: ps ∧ x.p.lo < x.p.hi := by
      intro x hx
      have a := h4 x (hsub.subset hx)
      have b := r2 x hx
      refine ⟨?_, a.2⟩
      rcases List.mem_cons.1 a.1 with e | e
      · omega
      · exact e
    have ih := segGo_eq ps t (pre ++ rest.takeWhile (fun x => decide (x.p.lo = f))) _ _ p2 a1 a2 (List.Pairwise.sublist hsub h3) a4
    rw [List.append_assoc, hsplit] at ih
    have e1 : segGo (f :: t :: ps) act rest = sgOf f t (stepAT f act rest) ++ segGo (t :: ps) (stepAT f act rest) (stepRT f rest) := by rw [segGo]
    have e2 : segF (atF (pre ++ rest)) (f :: t :: ps) = sgOf f t ((pre ++ rest).filter (onT f)) ++ segF (atF (pre ++ rest)) (t :: ps) := by
      rw [sgOf_at]
      exact segF.eq_1 _ _ _ _
    exact e1.trans (by rw [ih, s1]; exact e2.symm)
def ptsT (l : List Tup) : List Int := l.flatMap fun t => [t.p.lo, t.p.hi]
theorem ptsT_succ {l : List Tup} {i : Nat} (hi : i < l.length) : ptsT (l.take (i + 1)) = ptsT (l.take i) ++ [l[i].p.lo, l[i].p.hi] := by
  rw [List.take_succ_eq_append_getElem hi, ptsT, List.flatMap_append]; simp [ptsT]
theorem ptsT_len : ∀ l : List Tup, (ptsT l).length = 2 * l.length
  | [] => rfl
  | k :: l => by
    have := ptsT_len l
    simp only [ptsT, List.flatMap_cons, List.length_append, List.length_cons, List.length_nil] at *
    omega
theorem atF_fk {g S : List Tup} (hp : g.Perm S) (hS : ∀ x ∈ S, pOk x.p = true) : atF g = fkF S [] := by
  funext f
  have e : g.filter (onT f) = g.filter (inT f) := List.filter_congr fun x hx => by
    have := pOk_iff.1 (hS x (hp.mem_iff.1 hx))
    rw [Bool.eq_iff_iff, inT, pIn_iff]
    simp only [onT, Bool.and_eq_true, decide_eq_true_eq]; omega
  have hq : (g.filter (inT f)).Perm (S.filter (inT f)) := hp.filter _
  have ec : canon (tlins (g.filter (inT f))) = canon (tlins (S.filter (inT f))) := canon_eq fun y => (hq.flatMap_right _).mem_iff
  unfold atF fkF
  rw [e, hq.length_eq, ec]
  by_cases h : (S.filter (inT f)).length = 0
  · rw [if_pos h, if_pos h]
  · rw [if_neg h, if_neg h, if_pos (by simp)]
theorem ptsT_tends {g S : List Tup} (hp : g.Perm S) (hS : ∀ x ∈ S, pOk x.p = true) : canon (ptsT g) = canon (tends S) := by
  refine canon_eq fun y => ?_
  rw [ptsT, tends, List.mem_flatMap, List.mem_flatMap]
  constructor
  · rintro ⟨x, hx, hy⟩
    exact ⟨x, List.mem_filter.2 ⟨hp.mem_iff.1 hx, hS x (hp.mem_iff.1 hx)⟩, hy⟩
  · rintro ⟨t, ht, hy⟩
    exact ⟨t, hp.mem_iff.2 (List.mem_filter.1 ht).1, hy⟩
theorem segs_ref {g S : List Tup} (hp : g.Perm S) (hS : ∀ x ∈ S, pOk x.p = true) (hs : ascT g) : segGo (canon (ptsT g)) [] g = segF (fkF S []) (canon (tends S)) := by
  rw [← atF_fk hp hS, ← ptsT_tends hp hS]
  have ha := canon_asc (ptsT g)
  have hm : ∀ x ∈ g, x.p.lo ∈ canon (ptsT g) := fun x hx => by
    rw [canon_mem]; exact List.mem_flatMap.2 ⟨x, hx, by simp⟩
  have hv : ∀ x ∈ g, x.p.lo < x.p.hi := fun x hx => (pOk_iff.1 (hS x (hp.mem_iff.1 hx))).2.1
  revert ha hm
  generalize canon (ptsT g) = ps
  intro ha hm
  cases ps with
  | nil => rfl
  | cons f ps => exact segGo_eq ps f [] [] g ha (fun x h => by cases h) rfl hs fun x hx => ⟨hm x hx, hv x hx⟩
end Go.Vc
/- A group's days, its segments. -/
namespace Go.Vc
open Go Go.Proofs Go.Shelf
theorem tlins_succ {l : List Tup} {i : Nat} (hi : i < l.length) : tlins (l.take (i + 1)) = tlins (l.take i) ++ l[i].lin := by
  rw [List.take_succ_eq_append_getElem hi, tlins, List.flatMap_append]; simp [tlins]
def an101 : Ann where
  res := fun | 18 => some ⟨false, [(false, [.row 19 3])]⟩ | _ => none
  lend := fun _ => false
  sch := fun _ => .done
  lt := fun | 3 => [.slot 3 false [.row 20 3], .slot 8 false [.int .i64]] | _ => []
  tup := tups

theorem vc101 (P : Program) (H : Heap) (lA : Option Addr) (lN lC : Nat) (ri0 : Nat) (post : Nat → List Value → Heap → Prop) :
  vcFn P tab an101 Tryz.f101 [.slice lA lN lC] 2 H ⟨false, [(false, [.row ri0 3])]⟩ post =
  (  ∃ (inv0 : Nat → List Value → Int → Heap → Prop), ∃ (m1 : Nat → List Value → Int → Nat), inv0 0 [] (0 : Int) H ∧ ∀ (H2 : Heap), Heap.le H H2 → ∀ (n4 : Nat) (xs5 : List Value) (n6 : Int),
  inv0 n4 xs5 n6 H2 → (decide (n6 < (↑lN : Int)) = true → someA lA ∧ (0 : Int) ≤ n6 ∧ n6 < (↑lN : Int) ∧ ∃ (A9 : Option Addr), ∃ (n10 : Nat), ∃ (c11 : Nat), ∃ (n12 : Int), ∃ (n13 : Int), ∃
  (A14 : Option Addr), ∃ (n15 : Nat), ∃ (c16 : Nat), Cells H2 lA (Int.toNat n6 * 4) [.slice A9 n10 c11, .int .i64 n12, .int .i64 n13, .slice A14 n15 c16] ∧ ∃ (ys17 : List Value), Cells H2 A14
  0 ys17 ∧ List.length ys17 = n15 * 1 ∧ (n4 + n15) * 8 ≤ 140737488355328 ∧ rng .i64 (n6 + (1 : Int)) ∧ inv0 (n4 + n15) (xs5 ++ ys17) (n6 + (1 : Int)) H2 ∧ m1 (n4 + n15) (xs5 ++ ys17) (n6 + (1
  : Int)) < m1 n4 xs5 n6) ∧ (decide (n6 < (↑lN : Int)) = false → ∀ (A19 : Option Addr) (c20 : Nat) (H21 : Heap), Heap.le H2 H21 → Cells H21 A19 0 xs5 → n4 ≤ c20 → ∃ (post25 : Nat → List Value
  → Heap → Prop), ConT P 136 [.slice A19 n4 c20, .slice none 0 0] H21 ⟨false, [(false, [.row 19 3])]⟩ post25 ∧ ∀ (H26 : Heap), Heap.le H21 H26 → ∀ (n28 : Nat) (xs29 : List Value), post25 n28
  xs29 H26 → post n28 xs29 H26)) := by kernel_rfl
theorem fk_lineages {H : Heap} {A : Option Addr} {n c r : Nat} {l : List Tup} (hs : Sl H A n c l) (hb : (tlins l).length * 8 ≤ 140737488355328) :
    ConT Tryz.prog 101 [.slice A n c] H ⟨false, [(false, [.row r 3])]⟩ (fun k xs H' => k = (canon (tlins l)).length ∧ Row H' xs (canon (tlins l))) := by
  refine con_of_vc (an := an101) (fn := Tryz.f101) mix tabOK Tryz.func101 (by kernel_rfl) (extra := 2) ?_
  rw [vc101]
  have hl := hs.len; have hbn := hs.bn
  refine ⟨fun k xs i H' => 0 ≤ i ∧ i ≤ n ∧ k = (tlins (l.take i.toNat)).length ∧ Row H' xs (tlins (l.take i.toNat)), fun _ _ i => n - i.toNat, ⟨by omega, by omega, rfl, rfl⟩, ?_⟩
  rintro H2 hle k xs i ⟨h0, h1, hk, hr⟩
  have e1 : (i + 1).toNat = i.toNat + 1 := by omega
  refine ⟨fun hlt => ?_, fun hge => ?_⟩
  · have hlt := of_decide_eq_true hlt
    obtain ⟨hi, hA, _, hc, ⟨A9, n9, c9, A14, n15, c16, rfl, q1, q2, q3, q4⟩⟩ := hs.at hle h0 hlt
    have hsu := tlins_succ hi
    have hlen := congrArg List.length hsu
    rw [List.length_append, q4.len] at hlen
    have ht := tlins_sub (List.take_sublist (i.toNat + 1) l)
    obtain ⟨ys, y1, y2⟩ := q4.row
    refine ⟨hA, h0, hlt, _, _, _, _, _, _, _, _, hc, ys, y1, by rw [y2.length, q4.len]; rfl, by omega, by simp only [rng]; omega, ⟨by omega, by omega, by rw [e1, hlen, hk], ?_⟩, by dsimp only; omega⟩
    rw [e1, hsu]
    exact hr.append y2
  · have hge := of_decide_eq_false hge
    rw [List.take_of_length_le (by omega)] at hk hr
    intro A4 c4 H4 l4 hc4 hn4
    refine ⟨_, bag_MergeLineage (hr.sl l4 hc4 hk.symm hn4 (by show k * 8 ≤ _; omega) (by omega)) (Sl.nil (T := Int)) (by omega), ?_⟩
    rintro H5 l5 k5 xs5 h5
    have e : mergeLin (tlins l) [] = canon (tlins l) := by unfold mergeLin canon; rw [List.append_nil]
    rw [e] at h5
    exact h5
def an37 : Ann where
  res := fun _ => none
  lend := fun _ => false
  sch := fun _ => .done
  lt := fun | 3 => [.slot 3 false [.row 21 51], .slot 9 false [.int .i64]] | _ => []
  tup := tups

theorem vc37 (P : Program) (H : Heap) (gkeyA : Option Addr) (gkeyN gkeyC : Nat) (gtuplesA : Option Addr) (gtuplesN gtuplesC : Nat) (post : Option Addr → Nat → Nat → Heap → Prop) :
  vcFn P tab an37 Tryz.f37 [.agg #[.slice gkeyA gkeyN gkeyC, .slice gtuplesA gtuplesN gtuplesC]] 1 H ⟨false, [(false, [.sl])]⟩ post =
  (  ∃ (inv0 : Nat → List Value → Int → Heap → Prop), ∃ (m1 : Nat → List Value → Int → Nat), inv0 0 [] (0 : Int) H ∧ ∀ (H2 : Heap), Heap.le H H2 → ∀ (n4 : Nat) (xs5 : List Value) (n6 : Int),
  inv0 n4 xs5 n6 H2 → (decide (n6 < (↑gtuplesN : Int)) = true → someA gtuplesA ∧ (0 : Int) ≤ n6 ∧ n6 < (↑gtuplesN : Int) ∧ ∃ (A9 : Option Addr), ∃ (n10 : Nat), ∃ (c11 : Nat), ∃ (n12 : Int), ∃
  (n13 : Int), ∃ (A14 : Option Addr), ∃ (n15 : Nat), ∃ (c16 : Nat), Cells H2 gtuplesA (Int.toNat n6 * 4) [.slice A9 n10 c11, .int .i64 n12, .int .i64 n13, .slice A14 n15 c16] ∧ (n4 + 1) * 16
  ≤ 140737488355328 ∧ rng .i64 (n6 + (1 : Int)) ∧ inv0 (n4 + 1) (xs5 ++ [.int .i64 n12, .int .i64 n13]) (n6 + (1 : Int)) H2 ∧ m1 (n4 + 1) (xs5 ++ [.int .i64 n12, .int .i64 n13]) (n6 + (1 :
  Int)) < m1 n4 xs5 n6) ∧ (decide (n6 < (↑gtuplesN : Int)) = false → ∀ (A18 : Option Addr) (c19 : Nat) (H20 : Heap), Heap.le H2 H20 → Cells H20 A18 0 xs5 → n4 ≤ c19 → ∃ (post24 : Option Addr
  → Nat → Nat → Heap → Prop), ConT P 33 [.slice A18 n4 c19] H20 ⟨false, [(false, [.sl])]⟩ post24 ∧ ∀ (H25 : Heap), Heap.le H20 H25 → ∀ (A27 : Option Addr) (n28 c29 : Nat), post24 A27 n28 c29
  H25 → post A27 n28 c29 H25)) := by kernel_rfl
theorem fk_days {H : Heap} {A B : Option Addr} {n c m d : Nat} {l : List Tup} (ht : Sl H B m d l) :
    ConT Tryz.prog 37 [.agg ⟨[.slice A n c, .slice B m d]⟩] H shS (fun A' n' c' H' => Sl H' A' n' c' (norm (l.map (·.p)))) := by
  refine con_of_vc (an := an37) (fn := Tryz.f37) mix tabOK Tryz.func37 (by kernel_rfl) (extra := 1) ?_
  rw [vc37]
  have hl := ht.len
  have hbd : m * 64 ≤ 140737488355328 := ht.bnd
  refine ⟨fun k xs i H' => 0 ≤ i ∧ i ≤ m ∧ k = i.toNat ∧ Row H' xs ((l.take i.toNat).map (·.p)), fun _ _ i => m - i.toNat, ⟨by omega, by omega, rfl, rfl⟩, ?_⟩
  rintro H2 hle k xs i ⟨h0, h1, rfl, hr⟩
  have e1 : (i + 1).toNat = i.toNat + 1 := by omega
  refine ⟨fun hlt => ?_, fun hge => ?_⟩
  · have hlt := of_decide_eq_true hlt
    obtain ⟨hi, hA, _, hc, ⟨A9, n9, c9, A14, n15, c16, rfl, q1, q2, q3, q4⟩⟩ := ht.at hle h0 hlt
    refine ⟨hA, h0, hlt, _, _, _, _, _, _, _, _, hc, by omega, by simp only [rng]; omega, ⟨by omega, by omega, e1.symm, ?_⟩, by dsimp only; omega⟩
    rw [e1, List.take_succ_eq_append_getElem hi, List.map_append]
    exact hr.append (Row.one ⟨rfl, q2, q3⟩)
  · have hge := of_decide_eq_false hge
    rw [List.take_of_length_le (by omega)] at hr
    intro A4 c4 H4 l4 hc4 hn4
    refine ⟨_, periodset_Normalize (hr.sl l4 hc4 (by rw [List.length_map]; omega) hn4 (by show i.toNat * 16 ≤ _; omega) (by omega)), ?_⟩
    rintro H5 l5 A5 n5 c5 h5
    exact h5
def an95_row : Ann where
  res := fun _ => none
  lend := fun _ => false
  sch := fun _ => .done
  lt := fun _ => []
  tup := tups

theorem vc95_row (P : Program) (H : Heap) (sA : Option Addr) (sN sC : Nat) (ri0 : Nat) (post : Nat → List Value → Heap → Prop) :
  vcFn P tab an95_row Tryz.f95 [.slice sA sN sC] 0 H ⟨false, [(false, [.row ri0 57])]⟩ post =
  (  (Option.isNone sA = true → post 0 [] H) ∧ (Option.isNone sA = false → ∃ (ys2 : List Value), Cells H sA 0 ys2 ∧ List.length ys2 = sN * 4 ∧ (0 + sN) * 64 ≤ 140737488355328 ∧ post (0 + sN) ([]
  ++ ys2) H)) := by kernel_rfl
theorem Clone_TupRow {H : Heap} {A : Option Addr} {n c r : Nat} {l : List Tup} (hs : Sl H A n c l) :
    ConT Tryz.prog 95 [.slice A n c] H ⟨false, [(false, [.row r 57])]⟩ (fun k xs H' => k = l.length ∧ Row H' xs l) := by
  refine con_of_vc (an := an95_row) (fn := Tryz.f95) mix tabOK Tryz.func95 (by kernel_rfl) (extra := 0) ?_
  rw [vc95_row]
  have hl := hs.len
  refine ⟨fun hA => ?_, fun hA => ?_⟩
  · have : n = 0 := by
      rcases Nat.eq_zero_or_pos n with h | h
      · exact h
      · obtain ⟨b, o, e⟩ := hs.someA h; simp [e] at hA
    have : l = [] := List.eq_nil_of_length_eq_zero (by omega)
    subst this
    exact ⟨rfl, rfl⟩
  · obtain ⟨ys, h1, h2⟩ := hs.row
    exact ⟨ys, h1, by rw [h2.length, hs.len]; rfl, by have := hs.bnd; rw [Nat.zero_add]; exact this, by omega, by simpa using h2⟩
def an97 : Ann where
  res := fun _ => none
  lend := fun | 11 => true | _ => false
  sch := fun _ => .done
  lt := fun _ => []
  tup := tups

theorem vc97 (P : Program) (H : Heap) (aValsA : Option Addr) (aValsN aValsC : Nat) (aValidFrom : Int) (aValidTo : Int) (aLineageA : Option Addr) (aLineageN aLineageC : Nat) (bValsA : Option Addr) (bValsN bValsC : Nat) (bValidFrom : Int) (bValidTo : Int) (bLineageA : Option Addr) (bLineageN bLineageC : Nat) (post : Int → Heap → Prop) :
  vcFn P tab an97 Tryz.f97 [.agg #[.slice aValsA aValsN aValsC, .int .i64 aValidFrom, .int .i64 aValidTo, .slice aLineageA aLineageN aLineageC], .agg #[.slice bValsA bValsN bValsC, .int .i64 bValidFrom, .int .i64 bValidTo, .slice bLineageA bLineageN bLineageC]] 0 H ⟨false, [(false, [.int .i64])]⟩ post =
  (  ∃ (post0 : Int → Heap → Prop), ConT P 60 [.int .i64 aValidFrom, .int .i64 bValidFrom] H ⟨false, [(false, [.int .i64])]⟩ post0 ∧ ∀ (H1 : Heap), Heap.le H H1 → ∀ (n3 : Int), post0 n3 H1 →
  post n3 H1) := by kernel_rfl
theorem fk_segments1 {H : Heap} : CmpT Tryz.prog Tup H 97 cmpLo := by
  rintro H' vs us s t _ ⟨A, n, c, B, m, d, rfl, -⟩ ⟨A', n', c', B', m', d', rfl, -⟩
  refine con_of_vc (an := an97) (fn := Tryz.f97) mix tabOK Tryz.func97 (by kernel_rfl) (extra := 0) ?_
  rw [vc97]
  refine ⟨_, cmp_Compare, ?_⟩
  rintro H1 l1 _ rfl
  rfl
def an100 : Ann where
  res := fun _ => none
  lend := fun _ => false
  sch := fun _ => .done
  lt := fun _ => []
  tup := tups

theorem vc100 (P : Program) (H : Heap) (tValsA : Option Addr) (tValsN tValsC : Nat) (tValidFrom : Int) (tValidTo : Int) (tLineageA : Option Addr) (tLineageN tLineageC : Nat) (free0B : Nat) (post : Bool → Heap → Prop) :
  vcFn P tab an100 Tryz.f100 [.agg #[.slice tValsA tValsN tValsC, .int .i64 tValidFrom, .int .i64 tValidTo, .slice tLineageA tLineageN tLineageC], .pointer (some ⟨free0B, 0, none⟩)] 0 H ⟨false, [(false, [.bool])]⟩ post =
  (  ∃ (n0 : Int), Cells H (some ⟨free0B, 0, none⟩) 0 [.int .i64 n0] ∧ post (decide (tValidTo ≤ n0)) H) := by kernel_rfl
theorem fk_segments2 {H : Heap} {g : Nat} {f : Int} (hc : Cells H (some ⟨g, 0, none⟩) 0 [.int .i64 f]) :
    PredFn Tryz.prog Tup H 100 (.pointer (some ⟨g, 0, none⟩)) (fun x => decide (x.p.hi ≤ f)) := by
  rintro H' vs t hle ⟨A, n, c, B, m, d, rfl, -⟩
  refine con_of_vc (an := an100) (fn := Tryz.f100) mix tabOK Tryz.func100 (by kernel_rfl) (extra := 0) ?_
  rw [vc100]
  exact ⟨f, hc.mono hle, rfl⟩
abbrev SegInv (g : List Tup) (P : List Int) (R : List Vio) (n k1 : Nat) (xs1 : List Value) (k2 : Nat) (xs2 : List Value) (nx i : Int) (H' : Heap) : Prop :=
  0 ≤ i ∧ 0 ≤ nx ∧ nx ≤ n ∧ ∃ (out : List Vio) (act : List Tup), Row H' xs1 out ∧ out.length = k1 ∧ Row H' xs2 act ∧ act.length = k2 ∧ out.length ≤ i.toNat ∧ i ≤ P.length ∧ act.Sublist (g.take nx.toNat) ∧
    R = out ++ segGo (P.drop i.toNat) act (g.drop nx.toNat)
def an69 : Ann where
  res := fun | 14 => some ⟨false, [(false, [.row 91 57])]⟩ | 36 => some ⟨false, [(false, [.row 92 3])]⟩ | 50 => some ⟨false, [(false, [.row 93 57])]⟩ | 86 => some ⟨false, [(false, [.row 94 3])]⟩ | _ => none
  lend := fun | 50 => true | 86 => true | _ => false
  mt := fun | 79 => some true | 96 => some true | 98 => some false | 99 => some false | _ => none
  sch := fun | 19 => (tk [0, 1] (.alt 2 (tk [3, 4, 5, 6, 11] (.alt 7 (tk [8, 9] (.alt 10 (tk [12, 13] .done) .fin)) .fin)) .fin)) | 23 => (tk [0, 1, 2, 3, 4, 8] (.alt 5 (.alt 6 (tk [7] (.alt 9 (tk [10] (.alt 11 (.alt 12 (tk [13] .done) .fin) .fin)) .fin)) (.alt 9 (.alt 6 (tk [7, 10] (.alt 11 (.alt 12 (tk [13] .done) .fin) .fin)) .fin) .fin)) (.alt 9 (.alt 5 (.alt 6 (tk [7, 10] (.alt 11 (.alt 12 (tk [13] .done) .fin) .fin)) .fin) .fin) .fin))) | _ => .done
  lt := fun | 5 => [.slot 4 false [.row 95 3], .slot 19 false [.int .i64]] | 15 => [.slot 7 false [.row 96 53], .slot 8 false [.row 97 57], .slot 9 false [.int .i64], .slot 10 false [.int .i64]] | 19 => [.slot 8 false [.row 98 57], .slot 9 false [.int .i64]] | _ => []
  tup := tups

theorem vc69 (P : Program) (H : Heap) (gkeyA : Option Addr) (gkeyN gkeyC : Nat) (gtuplesA : Option Addr) (gtuplesN gtuplesC : Nat) (post : Option Addr → Nat → Nat → Heap → Prop) :
  vcFn P tab an69 Tryz.f69 [.agg #[.slice gkeyA gkeyN gkeyC, .slice gtuplesA gtuplesN gtuplesC]] 8 H ⟨false, [(false, [.sl])]⟩ post =
  (  ∃ (post0 : Nat → List Value → Heap → Prop), ConT P 95 [.slice gtuplesA gtuplesN gtuplesC] H ⟨false, [(false, [.row 91 57])]⟩ post0 ∧ ∀ (H1 : Heap), Heap.le H H1 → ∀ (n3 : Nat) (xs4 : List
  Value), post0 n3 xs4 H1 → ∃ (post6 : List Value → Heap → Prop), ConM P 96 [.slice none 0 0, .func (.func 97) ⟨[]⟩ ⟨[]⟩] 0 57 n3 xs4 true H1 ⟨true, []⟩ post6 ∧ ∀ (H7 : Heap), Heap.le H1 H7 →
  ∀ (ys9 : List Value), post6 ys9 H7 → ∃ (inv11 : Nat → List Value → Int → Heap → Prop), ∃ (m12 : Nat → List Value → Int → Nat), inv11 0 [] (0 : Int) H7 ∧ ∀ (H13 : Heap), Heap.le H7 H13 → ∀
  (n15 : Nat) (xs16 : List Value) (n17 : Int), inv11 n15 xs16 n17 H13 → (decide (n17 < (↑n3 : Int)) = true → (0 : Int) ≤ n17 ∧ n17 < (↑n3 : Int) ∧ ∃ (A20 : Option Addr), ∃ (n21 : Nat), ∃ (c22
  : Nat), ∃ (n23 : Int), ∃ (n24 : Int), ∃ (A25 : Option Addr), ∃ (n26 : Nat), ∃ (c27 : Nat), win ys9 (Int.toNat n17 * 4) 4 = [.slice A20 n21 c22, .int .i64 n23, .int .i64 n24, .slice A25 n26
  c27] ∧ (n15 + 2) * 8 ≤ 140737488355328 ∧ rng .i64 (n17 + (1 : Int)) ∧ inv11 (n15 + 2) (xs16 ++ [.int .i64 n23, .int .i64 n24]) (n17 + (1 : Int)) H13 ∧ m12 (n15 + 2) (xs16 ++ [.int .i64 n23,
  .int .i64 n24]) (n17 + (1 : Int)) < m12 n15 xs16 n17) ∧ (decide (n17 < (↑n3 : Int)) = false → ∃ (post29 : List Value → Heap → Prop), ConM P 79 [.slice none 0 0] 0 3 n15 xs16 true H13 ⟨true,
  []⟩ post29 ∧ ∀ (H30 : Heap), Heap.le H13 H30 → ∀ (ys32 : List Value), post29 ys32 H30 → ∃ (post34 : List Value → Nat → List Value → Heap → Prop), ConM P 98 [.slice none 0 0] 0 3 n15 ys32
  false H30 ⟨false, [(false, [.row 92 3])]⟩ post34 ∧ ∀ (H35 : Heap), Heap.le H30 H35 → ∀ (ys37 : List Value) (n38 : Nat) (xs39 : List Value), post34 ys37 n38 xs39 H35 → ∃ (inv41 : Nat → List
  Value → Nat → List Value → Int → Int → Heap → Prop), ∃ (m42 : Nat → List Value → Nat → List Value → Int → Int → Nat), inv41 0 [] 0 [] (0 : Int) (0 : Int) H35 ∧ ∀ (H43 : Heap), Heap.le H35
  H43 → ∀ (n45 : Nat) (xs46 : List Value) (n47 : Nat) (xs48 : List Value) (n49 n50 : Int), inv41 n45 xs46 n47 xs48 n49 n50 H43 → rng .i64 (n50 + (1 : Int)) ∧ (decide (n50 + (1 : Int) < (↑n38
  : Int)) = true → (0 : Int) ≤ n50 ∧ n50 < (↑n38 : Int) ∧ ∃ (n53 : Int), win xs39 (Int.toNat n50 * 1) 1 = [.int .i64 n53] ∧ ∃ (post54 : List Value → Nat → List Value → Heap → Prop), (∀ (g55 :
  Nat) (H56 : Heap), Heap.le H43 H56 → Cells H56 (some ⟨g55, 0, none⟩) 0 [.int .i64 n53] → ConM P 99 [.slice none 0 0, .func (.func 100) ⟨[]⟩ ⟨[.pointer (some ⟨g55, 0, none⟩)]⟩] 0 57 n47 xs48
  false H56 ⟨false, [(false, [.row 93 57])]⟩ post54) ∧ ∀ (H59 : Heap) (ys60 : List Value) (n61 : Nat) (xs62 : List Value), post54 ys60 n61 xs62 H59 → ∃ (inv64 : Nat → List Value → Int → Heap
  → Prop), ∃ (m65 : Nat → List Value → Int → Nat), inv64 n61 xs62 n49 H43 ∧ ∀ (H66 : Heap), Heap.le H43 H66 → ∀ (n68 : Nat) (xs69 : List Value) (n70 : Int), inv64 n68 xs69 n70 H66 → (decide
  (n70 < (↑n3 : Int)) = true → (0 : Int) ≤ n70 ∧ n70 < (↑n3 : Int) ∧ ∃ (n73 : Int), win ys9 (Int.toNat n70 * 4 + 1 + 0) 1 = [.int .i64 n73] ∧ (decide (n73 = n53) = true → (0 : Int) ≤ n70 ∧
  n70 < (↑n3 : Int) ∧ ∃ (A75 : Option Addr), ∃ (n76 : Nat), ∃ (c77 : Nat), ∃ (n78 : Int), ∃ (n79 : Int), ∃ (A80 : Option Addr), ∃ (n81 : Nat), ∃ (c82 : Nat), win ys9 (Int.toNat n70 * 4) 4 =
  [.slice A75 n76 c77, .int .i64 n78, .int .i64 n79, .slice A80 n81 c82] ∧ (n68 + 1) * 64 ≤ 140737488355328 ∧ rng .i64 (n70 + (1 : Int)) ∧ inv64 (n68 + 1) (xs69 ++ [.slice A75 n76 c77, .int
  .i64 n78, .int .i64 n79, .slice A80 n81 c82]) (n70 + (1 : Int)) H66 ∧ m65 (n68 + 1) (xs69 ++ [.slice A75 n76 c77, .int .i64 n78, .int .i64 n79, .slice A80 n81 c82]) (n70 + (1 : Int)) < m65
  n68 xs69 n70) ∧ (decide (n73 = n53) = false → (decide ((0 : Int) < (↑n68 : Int)) = true → rng .i64 (n50 + (1 : Int)) ∧ ((0 : Int) ≤ n50 + (1 : Int) ∧ n50 + (1 : Int) < (↑n38 : Int) ∧ (∃
  (n85 : Int), win xs39 (Int.toNat (n50 + (1 : Int)) * 1) 1 = [.int .i64 n85] ∧ ∃ (post86 : Nat → List Value → Heap → Prop), (∀ (A87 : Option Addr) (c88 : Nat) (H89 : Heap), Heap.le H66 H89 →
  Cells H89 A87 0 xs69 → n68 ≤ c88 → ConT P 101 [.slice A87 n68 c88] H89 ⟨false, [(false, [.row 94 3])]⟩ post86) ∧ ∀ (H93 : Heap) (n94 : Nat) (xs95 : List Value), post86 n94 xs95 H93 → ∀ (A97
  : Option Addr) (c98 : Nat) (H99 : Heap), Heap.le H66 H99 → Cells H99 A97 0 xs95 → n94 ≤ c98 → (n45 + 1) * 40 ≤ 140737488355328 ∧ rng .i64 (n50 + (1 : Int)) ∧ inv41 (n45 + 1) (xs46 ++ [.int
  .i64 n53, .int .i64 n85, .slice A97 n94 c98]) n68 xs69 n70 (n50 + (1 : Int)) H99 ∧ m42 (n45 + 1) (xs46 ++ [.int .i64 n53, .int .i64 n85, .slice A97 n94 c98]) n68 xs69 n70 (n50 + (1 : Int))
  < m42 n45 xs46 n47 xs48 n49 n50) ∧ ∃ (post103 : Nat → List Value → Heap → Prop), (∀ (A104 : Option Addr) (c105 : Nat) (H106 : Heap), Heap.le H66 H106 → Cells H106 A104 0 xs69 → n68 ≤ c105 →
  ConT P 101 [.slice A104 n68 c105] H106 ⟨false, [(false, [.row 94 3])]⟩ post103) ∧ ∀ (H110 : Heap) (n111 : Nat) (xs112 : List Value), post103 n111 xs112 H110 → ∃ (n114 : Int), win xs39
  (Int.toNat (n50 + (1 : Int)) * 1) 1 = [.int .i64 n114] ∧ ∀ (A115 : Option Addr) (c116 : Nat) (H117 : Heap), Heap.le H66 H117 → Cells H117 A115 0 xs112 → n111 ≤ c116 → (n45 + 1) * 40 ≤
  140737488355328 ∧ rng .i64 (n50 + (1 : Int)) ∧ inv41 (n45 + 1) (xs46 ++ [.int .i64 n53, .int .i64 n114, .slice A115 n111 c116]) n68 xs69 n70 (n50 + (1 : Int)) H117 ∧ m42 (n45 + 1) (xs46 ++
  [.int .i64 n53, .int .i64 n114, .slice A115 n111 c116]) n68 xs69 n70 (n50 + (1 : Int)) < m42 n45 xs46 n47 xs48 n49 n50) ∧ ∃ (post121 : Nat → List Value → Heap → Prop), (∀ (A122 : Option
  Addr) (c123 : Nat) (H124 : Heap), Heap.le H66 H124 → Cells H124 A122 0 xs69 → n68 ≤ c123 → ConT P 101 [.slice A122 n68 c123] H124 ⟨false, [(false, [.row 94 3])]⟩ post121) ∧ ∀ (H128 : Heap)
  (n129 : Nat) (xs130 : List Value), post121 n129 xs130 H128 → (0 : Int) ≤ n50 + (1 : Int) ∧ n50 + (1 : Int) < (↑n38 : Int) ∧ ∃ (n132 : Int), win xs39 (Int.toNat (n50 + (1 : Int)) * 1) 1 =
  [.int .i64 n132] ∧ ∀ (A133 : Option Addr) (c134 : Nat) (H135 : Heap), Heap.le H66 H135 → Cells H135 A133 0 xs130 → n129 ≤ c134 → (n45 + 1) * 40 ≤ 140737488355328 ∧ rng .i64 (n50 + (1 :
  Int)) ∧ inv41 (n45 + 1) (xs46 ++ [.int .i64 n53, .int .i64 n132, .slice A133 n129 c134]) n68 xs69 n70 (n50 + (1 : Int)) H135 ∧ m42 (n45 + 1) (xs46 ++ [.int .i64 n53, .int .i64 n132, .slice
  A133 n129 c134]) n68 xs69 n70 (n50 + (1 : Int)) < m42 n45 xs46 n47 xs48 n49 n50) ∧ (decide ((0 : Int) < (↑n68 : Int)) = false → rng .i64 (n50 + (1 : Int)) ∧ inv41 n45 xs46 n68 xs69 n70 (n50
  + (1 : Int)) H66 ∧ m42 n45 xs46 n68 xs69 n70 (n50 + (1 : Int)) < m42 n45 xs46 n47 xs48 n49 n50))) ∧ (decide (n70 < (↑n3 : Int)) = false → (decide ((0 : Int) < (↑n68 : Int)) = true → rng
  .i64 (n50 + (1 : Int)) ∧ ((0 : Int) ≤ n50 + (1 : Int) ∧ n50 + (1 : Int) < (↑n38 : Int) ∧ (∃ (n142 : Int), win xs39 (Int.toNat (n50 + (1 : Int)) * 1) 1 = [.int .i64 n142] ∧ ∃ (post143 : Nat
  → List Value → Heap → Prop), (∀ (A144 : Option Addr) (c145 : Nat) (H146 : Heap), Heap.le H66 H146 → Cells H146 A144 0 xs69 → n68 ≤ c145 → ConT P 101 [.slice A144 n68 c145] H146 ⟨false,
  [(false, [.row 94 3])]⟩ post143) ∧ ∀ (H150 : Heap) (n151 : Nat) (xs152 : List Value), post143 n151 xs152 H150 → ∀ (A154 : Option Addr) (c155 : Nat) (H156 : Heap), Heap.le H66 H156 → Cells
  H156 A154 0 xs152 → n151 ≤ c155 → (n45 + 1) * 40 ≤ 140737488355328 ∧ rng .i64 (n50 + (1 : Int)) ∧ inv41 (n45 + 1) (xs46 ++ [.int .i64 n53, .int .i64 n142, .slice A154 n151 c155]) n68 xs69
  n70 (n50 + (1 : Int)) H156 ∧ m42 (n45 + 1) (xs46 ++ [.int .i64 n53, .int .i64 n142, .slice A154 n151 c155]) n68 xs69 n70 (n50 + (1 : Int)) < m42 n45 xs46 n47 xs48 n49 n50) ∧ ∃ (post160 :
  Nat → List Value → Heap → Prop), (∀ (A161 : Option Addr) (c162 : Nat) (H163 : Heap), Heap.le H66 H163 → Cells H163 A161 0 xs69 → n68 ≤ c162 → ConT P 101 [.slice A161 n68 c162] H163 ⟨false,
  [(false, [.row 94 3])]⟩ post160) ∧ ∀ (H167 : Heap) (n168 : Nat) (xs169 : List Value), post160 n168 xs169 H167 → ∃ (n171 : Int), win xs39 (Int.toNat (n50 + (1 : Int)) * 1) 1 = [.int .i64
  n171] ∧ ∀ (A172 : Option Addr) (c173 : Nat) (H174 : Heap), Heap.le H66 H174 → Cells H174 A172 0 xs169 → n168 ≤ c173 → (n45 + 1) * 40 ≤ 140737488355328 ∧ rng .i64 (n50 + (1 : Int)) ∧ inv41
  (n45 + 1) (xs46 ++ [.int .i64 n53, .int .i64 n171, .slice A172 n168 c173]) n68 xs69 n70 (n50 + (1 : Int)) H174 ∧ m42 (n45 + 1) (xs46 ++ [.int .i64 n53, .int .i64 n171, .slice A172 n168
  c173]) n68 xs69 n70 (n50 + (1 : Int)) < m42 n45 xs46 n47 xs48 n49 n50) ∧ ∃ (post178 : Nat → List Value → Heap → Prop), (∀ (A179 : Option Addr) (c180 : Nat) (H181 : Heap), Heap.le H66 H181 →
  Cells H181 A179 0 xs69 → n68 ≤ c180 → ConT P 101 [.slice A179 n68 c180] H181 ⟨false, [(false, [.row 94 3])]⟩ post178) ∧ ∀ (H185 : Heap) (n186 : Nat) (xs187 : List Value), post178 n186 xs187
  H185 → (0 : Int) ≤ n50 + (1 : Int) ∧ n50 + (1 : Int) < (↑n38 : Int) ∧ ∃ (n189 : Int), win xs39 (Int.toNat (n50 + (1 : Int)) * 1) 1 = [.int .i64 n189] ∧ ∀ (A190 : Option Addr) (c191 : Nat)
  (H192 : Heap), Heap.le H66 H192 → Cells H192 A190 0 xs187 → n186 ≤ c191 → (n45 + 1) * 40 ≤ 140737488355328 ∧ rng .i64 (n50 + (1 : Int)) ∧ inv41 (n45 + 1) (xs46 ++ [.int .i64 n53, .int .i64
  n189, .slice A190 n186 c191]) n68 xs69 n70 (n50 + (1 : Int)) H192 ∧ m42 (n45 + 1) (xs46 ++ [.int .i64 n53, .int .i64 n189, .slice A190 n186 c191]) n68 xs69 n70 (n50 + (1 : Int)) < m42 n45
  xs46 n47 xs48 n49 n50) ∧ (decide ((0 : Int) < (↑n68 : Int)) = false → rng .i64 (n50 + (1 : Int)) ∧ inv41 n45 xs46 n68 xs69 n70 (n50 + (1 : Int)) H66 ∧ m42 n45 xs46 n68 xs69 n70 (n50 + (1 :
  Int)) < m42 n45 xs46 n47 xs48 n49 n50))) ∧ (decide (n50 + (1 : Int) < (↑n38 : Int)) = false → ∀ (A198 : Option Addr) (c199 : Nat) (H200 : Heap), Heap.le H43 H200 → Cells H200 A198 0 xs46 →
  n45 ≤ c199 → post A198 n45 c199 H200))) := by kernel_rfl
set_option maxHeartbeats 2000000 in
theorem fk_segments {H : Heap} {A B : Option Addr} {n c m d : Nat} {l : List Tup} (ht : Sl H B m d l) (hm : m < 20) (hv : ∀ x ∈ l, pOk x.p = true) (hb : (tlins l).length * 8 ≤ 140737488355328) :
    ConT Tryz.prog 69 [.agg ⟨[.slice A n c, .slice B m d]⟩] H shS (fun A' n' c' H' => Sl H' A' n' c' (segF (fkF l []) (canon (tends l)))) := by
  refine con_of_vc (an := an69) (fn := Tryz.f69) mix tabOK Tryz.func69 (by kernel_rfl) (extra := 8) ?_
  rw [vc69]
  have hl := ht.len
  refine ⟨_, Clone_TupRow ht, ?_⟩
  rintro H1 l1 _ xs4 ⟨rfl, hr4⟩
  refine ⟨_, SortStable_Tup hr4 rfl (by omega) ⟨_, Tryz.func97, rfl, by kernel_rfl⟩ cmpLo_swo fk_segments1, ?_⟩
  rintro H7 l7 ys9 ⟨g, hg, hgp, hgs⟩
  have hgl := hgp.length_eq
  have hasc : ascT g := hgs.imp fun {a b} h => by
    unfold cmpLo at h
    rw [cmpI_lt] at h; omega
  have hlg : (tlins g).length * 8 ≤ 140737488355328 := by
    have := (hgp.flatMap_right fun t : Tup => t.lin).length_eq
    have e : (tlins g).length = (tlins l).length := this
    rw [e]; exact hb
  rw [← segs_ref hgp hv hasc]
  generalize hR : segGo (canon (ptsT g)) [] g = R
  refine ⟨fun k xs i H' => 0 ≤ i ∧ i ≤ l.length ∧ k = (ptsT (g.take i.toNat)).length ∧ Row H' xs (ptsT (g.take i.toNat)), fun _ _ i => l.length - i.toNat, ⟨by omega, by omega, rfl, rfl⟩, ?_⟩
  rintro H13 l13 k xs i ⟨h0, h1, hk, hr⟩
  have hlen := ptsT_len (g.take i.toNat)
  rw [List.length_take] at hlen
  have e1 : (i + 1).toNat = i.toNat + 1 := by omega
  refine ⟨fun hlt => ?_, fun hge => ?_⟩
  · have hlt := of_decide_eq_true hlt
    have hi : i.toNat < g.length := by omega
    obtain ⟨A9, n9, c9, A14, n15, c16, e, q1, q2, q3, q4⟩ := (hg.mono l13).getw hi
    have hsu := ptsT_succ hi
    refine ⟨h0, hlt, _, _, _, _, _, _, _, _, e, by omega, by simp only [rng]; omega, ⟨by omega, by omega, by rw [e1, hsu, List.length_append, ← hk]; rfl, ?_⟩, by dsimp only; omega⟩
    rw [e1, hsu]
    exact hr.append ⟨[_], [_], rfl, ⟨rfl, q2⟩, [_], [], rfl, ⟨rfl, q3⟩, rfl⟩
  have hge := of_decide_eq_false hge
  rw [List.take_of_length_le (by omega)] at hk hr
  have hpl := ptsT_len g
  refine ⟨_, Sort_Int hr hk.symm (by omega), ?_⟩
  intro H30 l30 ys32 h30
  have h30 : Row H30 ys32 (sortI (ptsT g)) := h30
  refine ⟨_, Compact_Int h30 (by rw [sortI_len, hk]) (by omega), ?_⟩
  rintro H35 l35 ys37 _ xs39 ⟨rfl, hP⟩
  have hP : Row H35 xs39 (canon (ptsT g)) := hP
  have hK : (Lib.compact (sortI (ptsT g))).length = (canon (ptsT g)).length := rfl
  have hcl := canon_len (ptsT g)
  rw [hK]
  generalize hPe : canon (ptsT g) = P at hP hcl hR
  have hg35 : Row H35 ys9 g := hg.mono (hle_trans l13 (hle_trans l30 l35))
  refine ⟨fun k1 xs1 k2 xs2 nx i H' => SegInv g P R l.length k1 xs1 k2 xs2 nx i H', fun _ _ _ _ _ i => P.length - i.toNat, ⟨by omega, by omega, by omega, [], [], rfl, rfl, rfl, rfl, by simp, by omega, by simp, by simpa using hR.symm⟩, ?_⟩
  rintro H43 l43 k1 xs1 k2 xs2 nx i ⟨i0, nx0, nx1, out, act, ho, hol, ha, hal, hoi, hin, hsub, he⟩
  have hP43 := hP.mono l43
  have hg43 := hg35.mono l43
  refine ⟨by simp only [rng]; omega, fun hlt => ?_, fun hge => ?_⟩
  · have hlt := of_decide_eq_true hlt
    have hi : i.toNat < P.length := by omega
    have hi1 : (i + 1).toNat < P.length := by omega
    have e1 : (i + 1).toNat = i.toNat + 1 := by omega
    have hi1' : i.toNat + 1 < P.length := by omega
    obtain ⟨w1, hrf⟩ := hP43.getw hi
    obtain ⟨w2, hrt⟩ := hP43.getw hi1
    have hpts : P.drop i.toNat = P[i.toNat] :: P[i.toNat + 1] :: P.drop (i.toNat + 1 + 1) := by
      rw [List.drop_eq_getElem_cons hi, List.drop_eq_getElem_cons hi1']
    have hpts1 : P.drop (i + 1).toNat = P[i.toNat + 1] :: P.drop (i.toNat + 1 + 1) := by rw [e1]; exact List.drop_eq_getElem_cons hi1'
    have hte : P[(i + 1).toNat] = P[i.toNat + 1] := by congr 1
    rw [hte] at w2 hrt
    generalize hf : P[i.toNat] = f at *
    generalize ht : P[i.toNat + 1] = t at *
    rw [hpts, segGo] at he
    refine ⟨i0, by omega, f, w1, _, fun g55 H56 l56 hc56 => DeleteFunc_Tup (H0 := H43) l56 ha hal (by have := hsub.length_le; rw [List.length_take] at this; omega) (fk_segments2 hc56), ?_⟩
    rintro H59 ys60 _ xs62 ⟨rfl, hd⟩
    refine ⟨fun k xs nx' H' => 0 ≤ nx' ∧ nx' ≤ l.length ∧ ∃ cur : List Tup, Row H' xs cur ∧ cur.length = k ∧ cur.Sublist (g.take nx'.toNat) ∧ stepAT f act (g.drop nx.toNat) = cur ++ (g.drop nx'.toNat).takeWhile (fun x => decide (x.p.lo = f)) ∧
        stepRT f (g.drop nx.toNat) = (g.drop nx'.toNat).dropWhile (fun x => decide (x.p.lo = f)),
      fun _ _ nx' => l.length - nx'.toNat, ⟨nx0, nx1, _, hd, rfl, List.filter_sublist.trans hsub, rfl, rfl⟩, ?_⟩
    rintro H66 l66 k68 xs69 nx' ⟨m0, m1, cur, hcu, hcl', hcs, hA', hR'⟩
    have hcb := hcs.length_le
    rw [List.length_take] at hcb
    have hlb : (tlins cur).length ≤ (tlins g).length := tlins_sub (hcs.trans (List.take_sublist _ _))
    have hcc := canon_len (tlins cur)
    -- one segment more
    have fin : R = out ++ (sgOf f t cur ++ segGo (t :: P.drop (i.toNat + 1 + 1)) cur (g.drop nx'.toNat)) → 0 < k68 → ∀ {Hx : Heap} {zs : List Value}, Row Hx zs (canon (tlins cur)) →
        ∀ (A97 : Option Addr) (c98 : Nat) (H99 : Heap), Heap.le H66 H99 → Cells H99 A97 0 zs → (canon (tlins cur)).length ≤ c98 →
          (k1 + 1) * 40 ≤ 140737488355328 ∧ rng .i64 (i + 1) ∧ SegInv g P R l.length (k1 + 1) (xs1 ++ [.int .i64 f, .int .i64 t, .slice A97 (canon (tlins cur)).length c98]) k68 xs69 nx' (i + 1) H99 ∧ P.length - (i + 1).toNat < P.length - i.toNat := by
      intro hee hk0 Hx zs hm A97 c98 H99 l99 hc99 hn99
      obtain ⟨m1', m2'⟩ := row_int hm
      have hmS : Sl H99 A97 (canon (tlins cur)).length c98 (canon (tlins cur)) := Row.sl (H := H99) (m1' ▸ int_row m2') (hle_refl H99) hc99 rfl hn99 (by show _ * 8 ≤ _; omega) (by omega)
      refine ⟨by omega, by simp only [rng]; omega, ⟨by omega, m0, m1, out ++ [⟨⟨f, t⟩, canon (tlins cur)⟩], cur, ((ho.mono l66).mono l99).append (Row.one ⟨_, _, _, rfl, hrf, hrt, hmS⟩), by simp [hol], hcu.mono l99, hcl', by simp; omega, by omega, hcs, ?_⟩, by omega⟩
      rw [hee, hpts1, sgOf, if_pos (by omega)]
      simp
    have noseg : R = out ++ (sgOf f t cur ++ segGo (t :: P.drop (i.toNat + 1 + 1)) cur (g.drop nx'.toNat)) → ¬ 0 < k68 → rng .i64 (i + 1) ∧ SegInv g P R l.length k1 xs1 k68 xs69 nx' (i + 1) H66 ∧ P.length - (i + 1).toNat < P.length - i.toNat := by
      intro hee hk0
      refine ⟨by simp only [rng]; omega, ⟨by omega, m0, m1, out, cur, ho.mono l66, hol, hcu, hcl', by omega, by omega, hcs, ?_⟩, by omega⟩
      rw [hee, hpts1, sgOf, if_neg (by omega), List.nil_append]
    have call : ∀ (A87 : Option Addr) (c88 : Nat) (H89 : Heap), Heap.le H66 H89 → Cells H89 A87 0 xs69 → k68 ≤ c88 → ConT Tryz.prog 101 [.slice A87 k68 c88] H89 ⟨false, [(false, [.row 94 3])]⟩ (fun k xs H' => k = (canon (tlins cur)).length ∧ Row H' xs (canon (tlins cur))) :=
      fun A87 c88 H89 l89 hc89 hn89 => fk_lineages (hcu.sl l89 hc89 hcl' hn89 (by show k68 * 64 ≤ _; omega) (by omega)) (by omega)
    refine ⟨fun hnl => ?_, fun hnl => ?_⟩
    · have hnl := of_decide_eq_true hnl
      have hj : nx'.toNat < g.length := by omega
      obtain ⟨vs, hrel, hwg, -⟩ := (hg43.mono l66).getf hj
      have hgw := (hg43.mono l66).getw hj
      obtain ⟨A9, n9, c9, A14, n15, c16, rfl, q⟩ := id hrel
      have hdr : g.drop nx'.toNat = g[nx'.toNat] :: g.drop (nx'.toNat + 1) := List.drop_eq_getElem_cons hj
      rw [hdr] at hA' hR'
      have e2 : (nx' + 1).toNat = nx'.toNat + 1 := by omega
      refine ⟨m0, hnl, g[nx'.toNat].p.lo, hwg 1 1 (by decide), fun heq => ?_, fun hne => ?_⟩
      · have heq := of_decide_eq_true heq
        rw [List.takeWhile_cons, if_pos (by simpa using heq)] at hA'
        rw [List.dropWhile_cons, if_pos (by simpa using heq)] at hR'
        refine ⟨m0, hnl, _, _, _, _, _, _, _, _, hwg 0 4 (by decide), by omega, by simp only [rng]; omega, ⟨by omega, by omega, cur ++ [g[nx'.toNat]], hcu.append ⟨_, [], by simp, hrel, rfl⟩, by simp [hcl'], ?_, ?_, ?_⟩, by dsimp only; omega⟩
        · rw [e2, List.take_succ_eq_append_getElem hj]; exact hcs.append (List.Sublist.refl _)
        · rw [e2, hA']; simp
        · rw [e2, hR']
      · have hne := of_decide_eq_false hne
        rw [List.takeWhile_cons, if_neg (by simpa using hne), List.append_nil] at hA'
        rw [List.dropWhile_cons, if_neg (by simpa using hne), ← hdr] at hR'
        rw [hA', hR'] at he
        refine ⟨fun h2 => ?_, fun h2 => noseg he (by have := of_decide_eq_false h2; omega)⟩
        have h2 := of_decide_eq_true h2
        refine ⟨by simp only [rng]; omega, ⟨by omega, hlt, ⟨t, w2, _, call, ?_⟩, _, call, ?_⟩, _, call, ?_⟩
        · rintro Hx _ zs ⟨rfl, hz⟩
          exact fin he (by omega) hz
        · rintro Hx _ zs ⟨rfl, hz⟩
          exact ⟨t, w2, fin he (by omega) hz⟩
        · rintro Hx _ zs ⟨rfl, hz⟩
          exact ⟨by omega, hlt, t, w2, fin he (by omega) hz⟩
    · have hnl := of_decide_eq_false hnl
      have hdr : g.drop nx'.toNat = [] := List.drop_eq_nil_of_le (by omega)
      rw [hdr] at hA' hR'
      simp only [List.takeWhile_nil, List.append_nil, List.dropWhile_nil] at hA' hR'
      rw [← hdr] at hR'
      rw [hA', hR'] at he
      refine ⟨fun h2 => ?_, fun h2 => noseg he (by have := of_decide_eq_false h2; omega)⟩
      have h2 := of_decide_eq_true h2
      refine ⟨by simp only [rng]; omega, ⟨by omega, hlt, ⟨t, w2, _, call, ?_⟩, _, call, ?_⟩, _, call, ?_⟩
      · rintro Hx _ zs ⟨rfl, hz⟩
        exact fin he (by omega) hz
      · rintro Hx _ zs ⟨rfl, hz⟩
        exact ⟨t, w2, fin he (by omega) hz⟩
      · rintro Hx _ zs ⟨rfl, hz⟩
        exact ⟨by omega, hlt, t, w2, fin he (by omega) hz⟩
  · have hge := of_decide_eq_false hge
    intro A9 c9 H11 l11 hc11 hn11
    have hend : R = out := by
      rw [he]
      have : (P.drop i.toNat).length ≤ 1 := by rw [List.length_drop]; omega
      match P.drop i.toNat, this with
      | [], _ => simp [segGo]
      | [x], _ => simp [segGo]
    rw [hend]
    exact ho.sl l11 hc11 hol hn11 (by show k1 * 40 ≤ _; omega) (by omega)
end Go.Vc
/- The groups. -/
namespace Go.Vc
open Go Go.Proofs Go.Shelf
def GrpX (H : Heap) (O : OMap) (N : Nat) (ZS : List Value) (e : Int) (us : List Value) (R : List Value → Heap → OMap → Prop) : Prop :=
  ∃ (A46 : Option Addr), ∃ (n47 : Nat), ∃ (c48 : Nat), win ZS (Int.toNat e * 2 + 1) 1 = [.slice A46 n47 c48] ∧ ∃ (xs49 : List Value), isOpen O A46 57 n47 c48 ∧ Cells H A46 0 xs49 ∧ List.length xs49 = n47 * 4 ∧ (n47 + 1) * 64 ≤ 140737488355328 ∧
    ∀ (A50 : Option Addr) (c51 : Nat) (H52 : Heap) (O53 : OMap), Heap.le H H52 → Cells H52 A50 0 (xs49 ++ us) → n47 + 1 ≤ c51 → isOpen O53 A50 57 (n47 + 1) c51 → keepO O O53 A46 A50 →
      (0 : Int) ≤ e ∧ e < (↑N : Int) ∧ Int.toNat e * 2 + 1 + 1 ≤ List.length ZS ∧ R (splice ZS (Int.toNat e * 2 + 1) [.slice A50 (n47 + 1) c51]) H52 O53
def GrpF (H : Heap) (O : OMap) (N : Nat) (ZS : List Value) (e : Int) (us : List Value) (R : List Value → Heap → OMap → Prop) : Prop :=
  ((0 : Int) ≤ e ∧ e < (↑N : Int) ∧ GrpX H O N ZS e us R ∧ GrpX H O N ZS e us R) ∧ (0 : Int) ≤ e ∧ e < (↑N : Int) ∧ GrpX H O N ZS e us R
theorem grpF_ok {H : Heap} {O : OMap} {N : Nat} {ZS : List Value} {e : Int} {us : List Value} {R : List Value → Heap → OMap → Prop} {rs : List GrpR} {x : Tup}
    (h : GrpsOK O H ZS rs) (hN : rs.length = N) (h0 : 0 ≤ e) (he : e < N) (hi : e.toNat < rs.length) (hx : Rep.rel H us x) (hm : (rs[e.toNat].m + 1) * 64 ≤ 140737488355328)
    (hR : ∀ xs' H' O' A c, Heap.le H H' → GrpsOK O' H' xs' (rs.set e.toNat ⟨rs[e.toNat].key, A, rs[e.toNat].m + 1, c, rs[e.toNat].rows ++ [x]⟩) → (∀ b0 t es, O b0 = some (.mp t es) → O' b0 = O b0) → R xs' H' O') : GrpF H O N ZS e us R := by
  have key : GrpX H O N ZS e us R := by
    obtain ⟨vs, ⟨A1, n1, c1, rfl, q1⟩, hg, -⟩ := h.row.getf hi
    obtain ⟨a1, ⟨ys, a2, a3⟩, a4, a5⟩ := h.opn _ hi
    refine ⟨_, _, _, hg 1 1 (by decide), ys, a1, a2, by rw [a3.length, a4]; rfl, hm, ?_⟩
    intro A50 c51 H52 O53 hle hc hcap hop hkeep
    refine ⟨h0, he, ?_, hR _ H52 O53 A50 c51 hle (h.push hi a3 hle hc (Rep.mono hle hx) hop hkeep hcap) ?_⟩
    · rw [h.row.length]
      show _ ≤ rs.length * 2
      omega
    · intro b0 t es hb
      refine (hkeep b0 (by rw [hb]; simp) ?_).2
      rcases a1 with ⟨h1, -⟩ | ⟨b, hb1, hb2⟩
      · rw [h1]; simp
      · rw [hb1]
        intro e'
        have : b = b0 := by simpa using e'
        subst this
        rw [hb] at hb2; cases hb2
  exact ⟨⟨h0, he, key, key⟩, h0, he, key⟩
def an63 : Ann where
  res := fun _ => none
  lend := fun | 9 => true | _ => false
  sch := fun _ => .done
  lt := fun _ => []
  tup := tups

theorem vc63 (P : Program) (H : Heap) (akeyA : Option Addr) (akeyN akeyC : Nat) (atuplesA : Option Addr) (atuplesN atuplesC : Nat) (bkeyA : Option Addr) (bkeyN bkeyC : Nat) (btuplesA : Option Addr) (btuplesN btuplesC : Nat) (post : Int → Heap → Prop) :
  vcFn P tab an63 Tryz.f63 [.agg #[.slice akeyA akeyN akeyC, .slice atuplesA atuplesN atuplesC], .agg #[.slice bkeyA bkeyN bkeyC, .slice btuplesA btuplesN btuplesC]] 0 H ⟨false, [(false, [.int .i64])]⟩ post =
  (  ∃ (post0 : Int → Heap → Prop), ConT P 32 [.slice akeyA akeyN akeyC, .slice bkeyA bkeyN bkeyC] H ⟨false, [(false, [.int .i64])]⟩ post0 ∧ ∀ (H1 : Heap), Heap.le H H1 → ∀ (n3 : Int), post0 n3
  H1 → post n3 H1) := by kernel_rfl
theorem fk_groups1 {H : Heap} {vs us : List Value} {s t : GrpR} (h1 : Rep.rel H vs s) (h2 : Rep.rel H us t) : ConT Tryz.prog 63 [.agg ⟨vs⟩, .agg ⟨us⟩] H shI (fun r _ => r = cmpVs s.key t.key) := by
  obtain ⟨A, n, c, rfl, q1⟩ := h1
  obtain ⟨A', n', c', rfl, q2⟩ := h2
  refine con_of_vc (an := an63) (fn := Tryz.f63) mix tabOK Tryz.func63 (by kernel_rfl) (extra := 0) ?_
  rw [vc63]
  exact ⟨_, value_CompareRows q1 q2, fun _ _ _ h => h⟩
def sortLay_Grp_ren : Go.Shelf.Ren := ⟨fun | 6 => 62 | 15 => 88 | 14 => 91 | 28 => 119 | 29 => 120 | 20 => 121 | 21 => 122 | 22 => 123 | 23 => 124 | 24 => 125 | 25 => 126 | 26 => 127 | 27 => 128 | 46 => 160 | 47 => 156 | 48 => 157 | 49 => 161 | 50 => 162 | 57 => 178 | n => n, fun | 22 => 69 | 24 => 72 | 25 => 101 | 3 => 3 | 39 => 124 | 0 => 0 | 53 => 160 | 55 => 162 | 4 => 4 | 46 => 154 | 45 => 153 | 50 => 91 | 5 => 5 | 9 => 9 | 66 => 187 | 70 => 191 | 76 => 206 | 77 => 207 | n => n, fun n => n⟩
theorem sortLay_Grp : SlLaysF0.n6 Tryz.prog sortLay_Grp_ren where
  mixed := by kernel_rfl
  f6 := ⟨Tryz.f62.name, by kernel_rfl, Tryz.func62.trans (congrArg some (by kernel_rfl))⟩
  f14 := ⟨Tryz.f91.name, by kernel_rfl, Tryz.func91.trans (congrArg some (by kernel_rfl))⟩
  f15 := Tryz.func88.trans (congrArg some (by kernel_rfl))
  f20 := ⟨Tryz.f121.name, by kernel_rfl, Tryz.func121.trans (congrArg some (by kernel_rfl))⟩
  f21 := ⟨Tryz.f122.name, by kernel_rfl, Tryz.func122.trans (congrArg some (by kernel_rfl))⟩
  f22 := ⟨Tryz.f123.name, by kernel_rfl, Tryz.func123.trans (congrArg some (by kernel_rfl))⟩
  f23 := ⟨Tryz.f124.name, by kernel_rfl, Tryz.func124.trans (congrArg some (by kernel_rfl))⟩
  f24 := ⟨Tryz.f125.name, by kernel_rfl, Tryz.func125.trans (congrArg some (by kernel_rfl))⟩
  f25 := ⟨Tryz.f126.name, by kernel_rfl, Tryz.func126.trans (congrArg some (by kernel_rfl))⟩
  f26 := ⟨Tryz.f127.name, by kernel_rfl, Tryz.func127.trans (congrArg some (by kernel_rfl))⟩
  f27 := ⟨Tryz.f128.name, by kernel_rfl, Tryz.func128.trans (congrArg some (by kernel_rfl))⟩
  f28 := Tryz.func119.trans (congrArg some (by kernel_rfl))
  f29 := Tryz.func120.trans (congrArg some (by kernel_rfl))
  f46 := ⟨Tryz.f160.name, by kernel_rfl, Tryz.func160.trans (congrArg some (by kernel_rfl))⟩
  f47 := Tryz.func156.trans (congrArg some (by kernel_rfl))
  f48 := Tryz.func157.trans (congrArg some (by kernel_rfl))
  f49 := ⟨Tryz.f161.name, by kernel_rfl, Tryz.func161.trans (congrArg some (by kernel_rfl))⟩
  f50 := ⟨Tryz.f162.name, by kernel_rfl, Tryz.func162.trans (congrArg some (by kernel_rfl))⟩
  f57 := ⟨Tryz.f178.name, by kernel_rfl, Tryz.func178.trans (congrArg some (by kernel_rfl))⟩
  t0 := Tryz.underlying0
  a0 := Tryz.isAgg0
  z0 := Tryz.sizeOf0
  v0 := Tryz.zeroValue0
  t3 := Tryz.underlying3
  a3 := Tryz.isAgg3
  z3 := Tryz.sizeOf3
  v3 := Tryz.zeroValue3
  t4 := Tryz.underlying4
  a4 := Tryz.isAgg4
  z4 := Tryz.sizeOf4
  v4 := Tryz.zeroValue4
  t5 := Tryz.underlying5
  a5 := Tryz.isAgg5
  z5 := Tryz.sizeOf5
  v5 := Tryz.zeroValue5
  t9 := Tryz.underlying9
  a9 := Tryz.isAgg9
  z9 := Tryz.sizeOf9
  v9 := Tryz.zeroValue9
  t22 := Tryz.underlying69
  a22 := Tryz.isAgg69
  z22 := Tryz.sizeOf69
  v22 := Tryz.zeroValue69
  t25 := Tryz.underlying101
  a25 := Tryz.isAgg101
  z25 := Tryz.sizeOf101
  v25 := Tryz.zeroValue101
  t39 := Tryz.underlying124
  a39 := Tryz.isAgg124
  z39 := Tryz.sizeOf124
  v39 := Tryz.zeroValue124
  t45 := Tryz.underlying153
  a45 := Tryz.isAgg153
  z45 := Tryz.sizeOf153
  v45 := Tryz.zeroValue153
  t46 := Tryz.underlying154
  a46 := Tryz.isAgg154
  z46 := Tryz.sizeOf154
  v46 := Tryz.zeroValue154
  t50 := Tryz.underlying91
  a50 := Tryz.isAgg91
  z50 := Tryz.sizeOf91
  v50 := Tryz.zeroValue91
  t53 := Tryz.underlying160
  a53 := Tryz.isAgg160
  z53 := Tryz.sizeOf160
  v53 := Tryz.zeroValue160
  t55 := Tryz.underlying162
  a55 := Tryz.isAgg162
  z55 := Tryz.sizeOf162
  v55 := Tryz.zeroValue162
  t66 := Tryz.underlying187
  a66 := Tryz.isAgg187
  z66 := Tryz.sizeOf187
  v66 := Tryz.zeroValue187
  t70 := Tryz.underlying191
  a70 := Tryz.isAgg191
  z70 := Tryz.sizeOf191
  v70 := Tryz.zeroValue191
  t76 := Tryz.underlying206
  a76 := Tryz.isAgg206
  z76 := Tryz.sizeOf206
  v76 := Tryz.zeroValue206
  t77 := Tryz.underlying207
  a77 := Tryz.isAgg207
  z77 := Tryz.sizeOf207
  v77 := Tryz.zeroValue207
theorem sortL_Grp : SrtL Tryz.prog sortLay_Grp_ren 2 := ⟨sortLay_Grp, Tryz.isAgg72, Tryz.sizeOf72, by kernel_rfl⟩
set_option maxRecDepth 100000 in
theorem SortFunc_Grp {H : Heap} {n : Nat} {xs : List Value} {l : List GrpR} (hr : Row H xs l) (hl : l.length = n) (hn : n ≤ 140737488355328) :
    ConM Tryz.prog 62 [.slice none 0 0, .func (.func 63) #[] #[]] 0 72 n xs true H ⟨true, []⟩ (fun ys (H' : Heap) => ∃ m : List GrpR, Row H' ys m ∧ m.Perm l ∧ m.Pairwise (fun a b => ¬ cmpVs b.key a.key < 0)) := by
  have h := sort_con sortL_Grp hr hl hn (f := 63) (cap := []) (cf := fun x y : GrpR => cmpVs x.key y.key) ⟨_, Tryz.func63, rfl, by kernel_rfl⟩ (swo_of cmpVs_ord fun r : GrpR => r.key)
    (fun H' vs us s t _ h1 h2 => fk_groups1 h1 h2)
  exact h
theorem withK_take_len {l : List Tup} {cols : List Int} {v : List Val} {i : Nat} : (withK (l.take i) cols v).length ≤ i :=
  Nat.le_trans (List.length_filter_le _ _) (by rw [List.length_take]; omega)
def an36 : Ann where
  res := fun _ => none
  lend := fun | 22 => true | 29 => true | _ => false
  mt := fun | 62 => some true | _ => none
  sch := fun | 14 => (tk [0, 1, 2, 3, 7] (.alt 4 (tk [5] (.alt 6 (.alt 8 (.alt 9 (.alt 10 (tk [11] (.alt 12 .done .fin)) .fin) .fin) .fin) (.alt 8 (.alt 6 (.alt 9 (.alt 10 (tk [11] (.alt 12 .done .fin)) .fin) .fin) .fin) .fin))) (.alt 8 (.alt 4 (tk [5] (.alt 6 (.alt 9 (.alt 10 (tk [11] (.alt 12 .done .fin)) .fin) .fin) .fin)) .fin) .fin))) | _ => .done
  opn := true
  oap := fun | 57 => true | _ => false
  lt := fun | 4 => [.slot 6 false [.row 64 72], .slot 16 false [.int .i64]] | _ => []
  tup := tups

theorem vc36 (P : Program) (H : Heap) (lA : Option Addr) (lN lC : Nat) (colsA : Option Addr) (colsN colsC : Nat) (post : Option Addr → Nat → Nat → Heap → Prop) :
  vcFn P tab an36 Tryz.f36 [.slice lA lN lC, .slice colsA colsN colsC] 1 H ⟨false, [(false, [.sl])]⟩ post =
  (  ∀ (b0 : Nat) (O1 : Nat → Option XO), newM noO O1 b0 99 → ∃ (inv3 : Nat → List Value → Int → Heap → OMap → Prop), ∃ (m4 : Nat → List Value → Int → Nat), inv3 0 [] (0 : Int) H O1 ∧ ∀ (H5 :
  Heap), Heap.le H H5 → ∀ (O7 : Nat → Option XO) (n8 : Nat) (xs9 : List Value) (n10 : Int), inv3 n8 xs9 n10 H5 O7 → (decide (n10 < (↑lN : Int)) = true → someA lA ∧ (0 : Int) ≤ n10 ∧ n10 <
  (↑lN : Int) ∧ ∃ (A13 : Option Addr), ∃ (n14 : Nat), ∃ (c15 : Nat), ∃ (n16 : Int), ∃ (n17 : Int), ∃ (A18 : Option Addr), ∃ (n19 : Nat), ∃ (c20 : Nat), Cells H5 lA (Int.toNat n10 * 4) [.slice
  A13 n14 c15, .int .i64 n16, .int .i64 n17, .slice A18 n19 c20] ∧ ∃ (post21 : Bool → Heap → Prop), ConT P 50 [.agg ⟨[.int .i64 n16, .int .i64 n17]⟩] H5 ⟨false, [(false, [.bool])]⟩ post21 ∧ ∀
  (H22 : Heap), Heap.le H5 H22 → ∀ (b24 : Bool), post21 b24 H22 → ((!b24) = true → rng .i64 (n10 + (1 : Int)) ∧ inv3 n8 xs9 (n10 + (1 : Int)) H22 O7 ∧ m4 n8 xs9 (n10 + (1 : Int)) < m4 n8 xs9
  n10) ∧ ((!b24) = false → ∃ (post28 : Option Addr → Nat → Nat → Heap → Prop), ConT P 19 [.slice A13 n14 c15, .slice colsA colsN colsC] H22 ⟨false, [(false, [.sl])]⟩ post28 ∧ ∀ (H29 : Heap),
  Heap.le H22 H29 → ∀ (A31 : Option Addr) (n32 c33 : Nat), post28 A31 n32 c33 H29 → ∃ (post35 : ByteArray → Heap → Prop), ConT P 38 [.slice A31 n32 c33] H29 ⟨false, [(false, [.str])]⟩ post35
  ∧ ∀ (H36 : Heap), Heap.le H29 H36 → ∀ (s38 : ByteArray), post35 s38 H36 → ∃ (es40 : List (Value × Value)), isMap O7 (some b0) 99 es40 ∧ ∃ (n41 : Int), lkIs es40 (.string s38) false [.int
  .i64 (0 : Int)] [.int .i64 n41] ∧ ((!mhas es40 (.string s38)) = true → ∃ (es43 : List (Value × Value)), hasM O7 (some b0) 99 es43 ∧ ∀ (O44 : Nat → Option XO), putM O7 O44 (some b0) 99 (mput
  es43 (.string s38) (.int .i64 (↑n8 : Int))) → (n8 + 1) * 48 ≤ 140737488355328 ∧ ((0 : Int) ≤ (↑n8 : Int) ∧ (↑n8 : Int) < (↑(n8 + 1) : Int) ∧ (∃ (A46 : Option Addr), ∃ (n47 : Nat), ∃ (c48 :
  Nat), win (xs9 ++ [.slice A31 n32 c33, .slice none 0 0]) (Int.toNat (↑n8 : Int) * 2 + 1) 1 = [.slice A46 n47 c48] ∧ ∃ (xs49 : List Value), isOpen O44 A46 57 n47 c48 ∧ Cells H36 A46 0 xs49 ∧
  List.length xs49 = n47 * 4 ∧ (n47 + 1) * 64 ≤ 140737488355328 ∧ ∀ (A50 : Option Addr) (c51 : Nat) (H52 : Heap) (O53 : Nat → Option XO), Heap.le H36 H52 → Cells H52 A50 0 (xs49 ++ [.slice
  A13 n14 c15, .int .i64 n16, .int .i64 n17, .slice A18 n19 c20]) → n47 + 1 ≤ c51 → isOpen O53 A50 57 (n47 + 1) c51 → keepO O44 O53 A46 A50 → (0 : Int) ≤ (↑n8 : Int) ∧ (↑n8 : Int) < (↑(n8 +
  1) : Int) ∧ Int.toNat (↑n8 : Int) * 2 + 1 + 1 ≤ List.length (xs9 ++ [.slice A31 n32 c33, .slice none 0 0]) ∧ rng .i64 (n10 + (1 : Int)) ∧ inv3 (n8 + 1) (splice (xs9 ++ [.slice A31 n32 c33,
  .slice none 0 0]) (Int.toNat (↑n8 : Int) * 2 + 1) [.slice A50 (n47 + 1) c51]) (n10 + (1 : Int)) H52 O53 ∧ m4 (n8 + 1) (splice (xs9 ++ [.slice A31 n32 c33, .slice none 0 0]) (Int.toNat (↑n8
  : Int) * 2 + 1) [.slice A50 (n47 + 1) c51]) (n10 + (1 : Int)) < m4 n8 xs9 n10) ∧ ∃ (A59 : Option Addr), ∃ (n60 : Nat), ∃ (c61 : Nat), win (xs9 ++ [.slice A31 n32 c33, .slice none 0 0])
  (Int.toNat (↑n8 : Int) * 2 + 1) 1 = [.slice A59 n60 c61] ∧ ∃ (xs62 : List Value), isOpen O44 A59 57 n60 c61 ∧ Cells H36 A59 0 xs62 ∧ List.length xs62 = n60 * 4 ∧ (n60 + 1) * 64 ≤
  140737488355328 ∧ ∀ (A63 : Option Addr) (c64 : Nat) (H65 : Heap) (O66 : Nat → Option XO), Heap.le H36 H65 → Cells H65 A63 0 (xs62 ++ [.slice A13 n14 c15, .int .i64 n16, .int .i64 n17,
  .slice A18 n19 c20]) → n60 + 1 ≤ c64 → isOpen O66 A63 57 (n60 + 1) c64 → keepO O44 O66 A59 A63 → (0 : Int) ≤ (↑n8 : Int) ∧ (↑n8 : Int) < (↑(n8 + 1) : Int) ∧ Int.toNat (↑n8 : Int) * 2 + 1 +
  1 ≤ List.length (xs9 ++ [.slice A31 n32 c33, .slice none 0 0]) ∧ rng .i64 (n10 + (1 : Int)) ∧ inv3 (n8 + 1) (splice (xs9 ++ [.slice A31 n32 c33, .slice none 0 0]) (Int.toNat (↑n8 : Int) * 2
  + 1) [.slice A63 (n60 + 1) c64]) (n10 + (1 : Int)) H65 O66 ∧ m4 (n8 + 1) (splice (xs9 ++ [.slice A31 n32 c33, .slice none 0 0]) (Int.toNat (↑n8 : Int) * 2 + 1) [.slice A63 (n60 + 1) c64])
  (n10 + (1 : Int)) < m4 n8 xs9 n10) ∧ (0 : Int) ≤ (↑n8 : Int) ∧ (↑n8 : Int) < (↑(n8 + 1) : Int) ∧ ∃ (A72 : Option Addr), ∃ (n73 : Nat), ∃ (c74 : Nat), win (xs9 ++ [.slice A31 n32 c33, .slice
  none 0 0]) (Int.toNat (↑n8 : Int) * 2 + 1) 1 = [.slice A72 n73 c74] ∧ ∃ (xs75 : List Value), isOpen O44 A72 57 n73 c74 ∧ Cells H36 A72 0 xs75 ∧ List.length xs75 = n73 * 4 ∧ (n73 + 1) * 64 ≤
  140737488355328 ∧ ∀ (A76 : Option Addr) (c77 : Nat) (H78 : Heap) (O79 : Nat → Option XO), Heap.le H36 H78 → Cells H78 A76 0 (xs75 ++ [.slice A13 n14 c15, .int .i64 n16, .int .i64 n17,
  .slice A18 n19 c20]) → n73 + 1 ≤ c77 → isOpen O79 A76 57 (n73 + 1) c77 → keepO O44 O79 A72 A76 → (0 : Int) ≤ (↑n8 : Int) ∧ (↑n8 : Int) < (↑(n8 + 1) : Int) ∧ Int.toNat (↑n8 : Int) * 2 + 1 +
  1 ≤ List.length (xs9 ++ [.slice A31 n32 c33, .slice none 0 0]) ∧ rng .i64 (n10 + (1 : Int)) ∧ inv3 (n8 + 1) (splice (xs9 ++ [.slice A31 n32 c33, .slice none 0 0]) (Int.toNat (↑n8 : Int) * 2
  + 1) [.slice A76 (n73 + 1) c77]) (n10 + (1 : Int)) H78 O79 ∧ m4 (n8 + 1) (splice (xs9 ++ [.slice A31 n32 c33, .slice none 0 0]) (Int.toNat (↑n8 : Int) * 2 + 1) [.slice A76 (n73 + 1) c77])
  (n10 + (1 : Int)) < m4 n8 xs9 n10) ∧ ((!mhas es40 (.string s38)) = false → ((0 : Int) ≤ n41 ∧ n41 < (↑n8 : Int) ∧ (∃ (A86 : Option Addr), ∃ (n87 : Nat), ∃ (c88 : Nat), win xs9 (Int.toNat
  n41 * 2 + 1) 1 = [.slice A86 n87 c88] ∧ ∃ (xs89 : List Value), isOpen O7 A86 57 n87 c88 ∧ Cells H36 A86 0 xs89 ∧ List.length xs89 = n87 * 4 ∧ (n87 + 1) * 64 ≤ 140737488355328 ∧ ∀ (A90 :
  Option Addr) (c91 : Nat) (H92 : Heap) (O93 : Nat → Option XO), Heap.le H36 H92 → Cells H92 A90 0 (xs89 ++ [.slice A13 n14 c15, .int .i64 n16, .int .i64 n17, .slice A18 n19 c20]) → n87 + 1 ≤
  c91 → isOpen O93 A90 57 (n87 + 1) c91 → keepO O7 O93 A86 A90 → (0 : Int) ≤ n41 ∧ n41 < (↑n8 : Int) ∧ Int.toNat n41 * 2 + 1 + 1 ≤ List.length xs9 ∧ rng .i64 (n10 + (1 : Int)) ∧ inv3 n8
  (splice xs9 (Int.toNat n41 * 2 + 1) [.slice A90 (n87 + 1) c91]) (n10 + (1 : Int)) H92 O93 ∧ m4 n8 (splice xs9 (Int.toNat n41 * 2 + 1) [.slice A90 (n87 + 1) c91]) (n10 + (1 : Int)) < m4 n8
  xs9 n10) ∧ ∃ (A99 : Option Addr), ∃ (n100 : Nat), ∃ (c101 : Nat), win xs9 (Int.toNat n41 * 2 + 1) 1 = [.slice A99 n100 c101] ∧ ∃ (xs102 : List Value), isOpen O7 A99 57 n100 c101 ∧ Cells H36
  A99 0 xs102 ∧ List.length xs102 = n100 * 4 ∧ (n100 + 1) * 64 ≤ 140737488355328 ∧ ∀ (A103 : Option Addr) (c104 : Nat) (H105 : Heap) (O106 : Nat → Option XO), Heap.le H36 H105 → Cells H105
  A103 0 (xs102 ++ [.slice A13 n14 c15, .int .i64 n16, .int .i64 n17, .slice A18 n19 c20]) → n100 + 1 ≤ c104 → isOpen O106 A103 57 (n100 + 1) c104 → keepO O7 O106 A99 A103 → (0 : Int) ≤ n41 ∧
  n41 < (↑n8 : Int) ∧ Int.toNat n41 * 2 + 1 + 1 ≤ List.length xs9 ∧ rng .i64 (n10 + (1 : Int)) ∧ inv3 n8 (splice xs9 (Int.toNat n41 * 2 + 1) [.slice A103 (n100 + 1) c104]) (n10 + (1 : Int))
  H105 O106 ∧ m4 n8 (splice xs9 (Int.toNat n41 * 2 + 1) [.slice A103 (n100 + 1) c104]) (n10 + (1 : Int)) < m4 n8 xs9 n10) ∧ (0 : Int) ≤ n41 ∧ n41 < (↑n8 : Int) ∧ ∃ (A112 : Option Addr), ∃
  (n113 : Nat), ∃ (c114 : Nat), win xs9 (Int.toNat n41 * 2 + 1) 1 = [.slice A112 n113 c114] ∧ ∃ (xs115 : List Value), isOpen O7 A112 57 n113 c114 ∧ Cells H36 A112 0 xs115 ∧ List.length xs115
  = n113 * 4 ∧ (n113 + 1) * 64 ≤ 140737488355328 ∧ ∀ (A116 : Option Addr) (c117 : Nat) (H118 : Heap) (O119 : Nat → Option XO), Heap.le H36 H118 → Cells H118 A116 0 (xs115 ++ [.slice A13 n14
  c15, .int .i64 n16, .int .i64 n17, .slice A18 n19 c20]) → n113 + 1 ≤ c117 → isOpen O119 A116 57 (n113 + 1) c117 → keepO O7 O119 A112 A116 → (0 : Int) ≤ n41 ∧ n41 < (↑n8 : Int) ∧ Int.toNat
  n41 * 2 + 1 + 1 ≤ List.length xs9 ∧ rng .i64 (n10 + (1 : Int)) ∧ inv3 n8 (splice xs9 (Int.toNat n41 * 2 + 1) [.slice A116 (n113 + 1) c117]) (n10 + (1 : Int)) H118 O119 ∧ m4 n8 (splice xs9
  (Int.toNat n41 * 2 + 1) [.slice A116 (n113 + 1) c117]) (n10 + (1 : Int)) < m4 n8 xs9 n10))) ∧ (decide (n10 < (↑lN : Int)) = false → ∃ (post126 : List Value → Heap → Prop), ConM P 62 [.slice
  none 0 0, .func (.func 63) ⟨[]⟩ ⟨[]⟩] 0 72 n8 xs9 true H5 ⟨true, []⟩ post126 ∧ ∀ (H127 : Heap), Heap.le H5 H127 → ∀ (ys129 : List Value), post126 ys129 H127 → ∀ (A131 : Option Addr) (c132 :
  Nat) (H133 : Heap), Heap.le H127 H133 → Cells H133 A131 0 ys129 → n8 ≤ c132 → post A131 n8 c132 H133)) := by kernel_rfl
set_option maxHeartbeats 2000000 in
theorem fk_groups {H : Heap} {A B : Option Addr} {n c m d : Nat} {l : List Tup} {cols : List Int} (hT : TabH H) (hs : Sl H A n c l) (ht : Sl H B m d cols) (hb : m * 32 ≤ 140737488355328) (hf : keyFit l cols) :
    ConT Tryz.prog 36 [.slice A n c, .slice B m d] H shS (fun A' n' c' H' => Sl H' A' n' c' (keyGroups l cols)) := by
  refine con_of_vc (an := an36) (fn := Tryz.f36) mix tabOK Tryz.func36 (by kernel_rfl) (extra := 1) ?_
  rw [vc36]
  have hl := hs.len
  have hbd : n * 64 ≤ 140737488355328 := hs.bnd
  rintro b0 O1 ⟨-, ho1, -⟩
  refine ⟨fun k xs i H' O' => 0 ≤ i ∧ i ≤ n ∧ ∃ rs : List GrpR, rs.length = k ∧ k ≤ i.toNat ∧ GrpsOK O' H' xs rs ∧ GrpsAre rs (l.take i.toNat) cols ∧ O' b0 = some (.mp 99 (idxM 0 (rs.map (·.key)))), fun _ _ i => n - i.toNat,
    ⟨by omega, by omega, [], rfl, by omega, ⟨rfl, fun j h => by simp at h, fun j k h => by simp at h⟩, GrpsAre.nil, ho1⟩, ?_⟩
  rintro H5 hle O7 k xs i ⟨h0, h1, rs, hk, hki, hok, hgr, ho⟩
  have e1 : (i + 1).toNat = i.toNat + 1 := by omega
  refine ⟨fun hlt => ?_, fun hge => ?_⟩
  · have hlt := of_decide_eq_true hlt
    obtain ⟨hi, hA, us, hc, hrel⟩ := hs.at hle h0 hlt
    obtain ⟨A9, n9, c9, A14, n15, c16, rfl, q1, q2, q3, q4⟩ := id hrel
    refine ⟨hA, h0, hlt, _, _, _, _, _, _, _, _, hc, _, period_Valid, ?_⟩
    rintro H3 l3 _ rfl
    refine ⟨fun hp => ?_, fun hp => ?_⟩
    · have hp : pOk l[i.toNat].p = false := by simpa using hp
      exact ⟨by simp only [rng]; omega, ⟨by omega, by omega, rs, hk, by omega, hok.mono l3, by rw [e1]; exact hgr.skip hi hp, ho⟩, by dsimp only; omega⟩
    have hp : pOk l[i.toNat].p = true := by simpa using hp
    refine ⟨_, keys_Values (q1.mono l3) (ht.mono (hle_trans hle l3)) hb, ?_⟩
    intro H4 l4 A4 n4 c4 h4
    have l24 := hle_trans l3 l4
    refine ⟨_, value_Key (hT.mono (hle_trans hle l24)) h4 (hf _ (List.getElem_mem hi)), ?_⟩
    rintro H36 l5 _ rfl
    have l25 := hle_trans l24 l5
    have hrows : ∀ r ∈ rs, r.rows.length ≤ i.toNat := fun r hr => by rw [hgr.rows r hr]; exact withK_take_len
    have hbi : ∀ {q : Nat}, q ≤ i.toNat → (q + 1) * 64 ≤ 140737488355328 := fun h => by
      have : i.toNat + 1 ≤ n := by omega
      omega
    by_cases hv : keyVals l[i.toNat].vals cols ∈ rs.map (·.key)
    · obtain ⟨j, hj, hjv⟩ := List.getElem_of_mem hv
      have hj' : j < rs.length := by simpa using hj
      have hjk : rs[j].key = keyVals l[i.toNat].vals cols := by simpa using hjv
      have hf := idxM_find (o := 0) hgr.nod (by rw [List.getElem?_eq_getElem hj, hjv])
      refine ⟨_, .inr ⟨b0, rfl, ho⟩, ((0 + j : Nat) : Int), by unfold lkIs; rw [hf]; rfl, fun hn => ?_, fun _ => ?_⟩
      · rw [idxM_has, decide_eq_true hv] at hn; cases hn
      have hje : (((0 + j : Nat) : Int)).toNat = j := by omega
      have hjm : rs[(((0 + j : Nat) : Int)).toNat].m = rs[j].m := by congr 2
      refine grpF_ok (R := fun xs' H' O' => rng .i64 (i + 1) ∧ (0 ≤ i + 1 ∧ i + 1 ≤ n ∧ ∃ rs : List GrpR, rs.length = k ∧ k ≤ (i + 1).toNat ∧ GrpsOK O' H' xs' rs ∧ GrpsAre rs (l.take (i + 1).toNat) cols ∧ O' b0 = some (.mp 99 (idxM 0 (rs.map (·.key))))) ∧ n - (i + 1).toNat < n - i.toNat)
        (x := l[i.toNat]) (hok.mono l25) hk (by omega) (by omega) (by omega) (Rep.mono l25 hrel) (by rw [hjm]; exact hbi (by rw [← (hok.opn j hj').len]; exact hrows _ (List.getElem_mem hj'))) ?_
      intro xs' H52 O53 A50 c51 l52 hok' hmap
      refine ⟨by simp only [rng]; omega, ⟨by omega, by omega, _, by simpa using hk, by omega, hok', ?_, ?_⟩, by omega⟩
      · simp only [hje]
        rw [e1]
        exact GrpsAre.put hi hgr.nod (hgr.keys.old hi hv) hgr.rows hj' hp hjk
      · rw [hmap b0 _ _ ho, ho]
        congr 3
        simp only [hje]
        apply List.ext_getElem
        · simp
        · intro q hq1 hq2
          simp only [List.getElem_map, List.getElem_set]
          split
          · rename_i hje; subst hje; rfl
          · rfl
    · refine ⟨_, .inr ⟨b0, rfl, ho⟩, 0, by unfold lkIs; rw [idxM_none hv], fun _ => ?_, fun hn => ?_⟩
      · refine ⟨_, ⟨b0, rfl, ho⟩, ?_⟩
        rintro O44 ⟨b49, e49, h49, hk49⟩
        obtain rfl : b0 = b49 := by simpa using e49
        have hput := idxM_put (o := 0) hv
        rw [List.length_map, hk, Nat.zero_add] at hput
        rw [hput] at h49
        have hok2 := ((hok.mono l25).other ⟨_, _, ho⟩ hk49).new (h4.mono l5)
        have hlast : (rs ++ [(⟨keyVals l[i.toNat].vals cols, none, 0, 0, []⟩ : GrpR)])[(k : Int).toNat]'(by simp; omega) = ⟨keyVals l[i.toNat].vals cols, none, 0, 0, []⟩ := by
          have : (k : Int).toNat = rs.length := by omega
          simp only [this, List.getElem_concat_length]
        refine ⟨by omega, ?_⟩
        refine grpF_ok (R := fun xs' H' O' => rng .i64 (i + 1) ∧ (0 ≤ i + 1 ∧ i + 1 ≤ n ∧ ∃ rs : List GrpR, rs.length = k + 1 ∧ k + 1 ≤ (i + 1).toNat ∧ GrpsOK O' H' xs' rs ∧ GrpsAre rs (l.take (i + 1).toNat) cols ∧ O' b0 = some (.mp 99 (idxM 0 (rs.map (·.key))))) ∧ n - (i + 1).toNat < n - i.toNat)
          (x := l[i.toNat]) hok2 (by simp [hk]) (by omega) (by omega) (by simp; omega) (Rep.mono l25 hrel) (by rw [hlast]; show (0 + 1) * 64 ≤ 140737488355328; decide) ?_
        intro xs' H52 O53 A50 c51 l52 hok' hmap
        have hmk : (rs ++ [(⟨keyVals l[i.toNat].vals cols, none, 0, 0, []⟩ : GrpR)]).map (·.key) = rs.map (·.key) ++ [keyVals l[i.toNat].vals cols] := by simp
        refine ⟨by simp only [rng]; omega, ⟨by omega, by omega, _, by simp [hk], by omega, hok', ?_, ?_⟩, by omega⟩
        · rw [e1]
          refine GrpsAre.put hi ?_ ?_ ?_ (by simp; omega) hp (by rw [hlast])
          · rw [hmk, List.nodup_append]
            exact ⟨hgr.nod, by simp, fun a ha b hb' e => hv (by rw [List.mem_singleton] at hb'; rw [← hb', ← e]; exact ha)⟩
          · rw [hmk]; exact hgr.keys.new hi hp
          · intro r hr
            rcases List.mem_append.1 hr with hr | hr
            · exact hgr.rows r hr
            · rw [List.mem_singleton] at hr; subst hr
              exact (withK_none hgr.keys hv).symm
        · rw [hmap b0 _ _ h49, h49]
          congr 3
          rw [← hmk]
          apply List.ext_getElem
          · simp
          · intro q hq1 hq2
            simp only [List.getElem_map, List.getElem_set]
            split
            · rename_i hje; subst hje; rfl
            · rfl
      · rw [idxM_has, decide_eq_false hv] at hn; cases hn
  · have hge := of_decide_eq_false hge
    rw [List.take_of_length_le (by omega)] at hgr
    refine ⟨_, SortFunc_Grp hok.row hk (by omega), ?_⟩
    rintro H3 l3 ys ⟨rs', hv, hp, ho2⟩ A4 c4 H6 l6 hc6 hn6
    have hge := grps_keys hgr hp ho2
    have l36 := hle_trans l3 l6
    rw [← hge]
    refine (grp_row (hv.mono l6) fun r hr => ?_).sl (hle_refl H6) hc6 (by rw [List.length_map, hp.length_eq, hk]) hn6 (by show k * 48 ≤ _; omega) (by omega)
    obtain ⟨j, hj, rfl⟩ := List.getElem_of_mem (hp.mem_iff.1 hr)
    obtain ⟨a1, ⟨zs, a2, a3⟩, a4, a5⟩ := hok.opn j hj
    have hrl : rs[j].rows.length ≤ n := by
      rw [hgr.rows _ (List.getElem_mem hj), ← hl]; exact List.length_filter_le _ _
    exact a3.sl l36 (a2.mono l36) a4 a5 (by show rs[j].m * 64 ≤ _; omega) (by omega)
end Go.Vc
/- Orphans of one key; Violations, Holds. -/
namespace Go.Vc
open Go Go.Proofs Go.Shelf
theorem orphGo_nil : ∀ (segs : List Vio) (out : List Vio), orphGo segs [] out = out
  | [], _ => rfl
  | s :: r, out => by
    have e : isect [s.p] [] = [] := by
      have h : norm [] = [] := rfl
      have h2 : ∀ a : List Per, isectGo a [] = [] := fun a => by simp [isectGo, hits]
      unfold isect; rw [h, h2]
    rw [orphGo, pieces, e, List.foldl_nil, orphGo_nil r]
theorem extV_app {l : List Vio} {v : Vio} (h : ∀ u, l.getLast? = some u → ¬ (u.p.hi = v.p.lo ∧ u.ids = v.ids)) : extV l v = l ++ [v] := by
  unfold extV
  split
  · rename_i u hu
    rw [if_neg (h u hu)]
  · rfl
theorem fk_one {S A : List Tup} (hS : ∀ x ∈ S, pOk x.p = true) (hA : ∀ x ∈ A, pOk x.p = true) : orphGo (segF (fkF S []) (canon (tends S))) (diff (norm (S.map (·.p))) (norm (A.map (·.p)))) [] = refV S A :=
  orph_ref hS hA fun d => by rw [diff_in, norm_in, norm_in]
def an39 : Ann where
  res := fun _ => none
  lend := fun | 61 => true | _ => false
  sch := fun | 12 => (tk [0, 1, 2, 3, 4, 5, 10, 11] (.alt 6 (tk [7, 8] (.alt 9 (tk [12, 13, 14, 15, 16, 17, 21, 22] (.alt 18 (tk [19] (.alt 20 (.alt 23 (tk [24] .done) .fin) .fin)) .fin)) .fin)) .fin)) | 14 => (tk [0, 1, 2, 3] (.alt 4 (tk [5] (.alt 6 (.alt 7 (tk [8] .done) .fin) .fin)) .fin)) | _ => .done
  lt := fun | 6 => [.slot 6 false [.row 82 53], .slot 22 false [.int .i64]] | 9 => [.slot 6 false [.row 83 53], .slot 32 false [.int .i64]] | _ => []
  tup := tups

theorem vc39 (P : Program) (H : Heap) (gkeyA : Option Addr) (gkeyN gkeyC : Nat) (gtuplesA : Option Addr) (gtuplesN gtuplesC : Nat) (p1A : Option Addr) (p1N p1C : Nat) (post : Option Addr → Nat → Nat → Heap → Prop) :
  vcFn P tab an39 Tryz.f39 [.agg #[.slice gkeyA gkeyN gkeyC, .slice gtuplesA gtuplesN gtuplesC], .slice p1A p1N p1C] 2 H ⟨false, [(false, [.sl])]⟩ post =
  (  ∃ (post0 : Option Addr → Nat → Nat → Heap → Prop), ConT P 37 [.agg ⟨[.slice gkeyA gkeyN gkeyC, .slice gtuplesA gtuplesN gtuplesC]⟩] H ⟨false, [(false, [.sl])]⟩ post0 ∧ ∀ (H1 : Heap),
  Heap.le H H1 → ∀ (A3 : Option Addr) (n4 c5 : Nat), post0 A3 n4 c5 H1 → ∃ (post7 : Option Addr → Nat → Nat → Heap → Prop), ConT P 68 [.slice A3 n4 c5, .slice p1A p1N p1C] H1 ⟨false, [(false,
  [.sl])]⟩ post7 ∧ ∀ (H8 : Heap), Heap.le H1 H8 → ∀ (A10 : Option Addr) (n11 c12 : Nat), post7 A10 n11 c12 H8 → (decide ((↑n11 : Int) = (0 : Int)) = true → post none 0 0 H8) ∧ (decide ((↑n11
  : Int) = (0 : Int)) = false → ∃ (post16 : Option Addr → Nat → Nat → Heap → Prop), ConT P 69 [.agg ⟨[.slice gkeyA gkeyN gkeyC, .slice gtuplesA gtuplesN gtuplesC]⟩] H8 ⟨false, [(false,
  [.sl])]⟩ post16 ∧ ∀ (H17 : Heap), Heap.le H8 H17 → ∀ (A19 : Option Addr) (n20 c21 : Nat), post16 A19 n20 c21 H17 → ∃ (inv23 : Nat → List Value → Int → Heap → Prop), ∃ (m24 : Nat → List
  Value → Int → Nat), inv23 0 [] (0 : Int) H17 ∧ ∀ (H25 : Heap), Heap.le H17 H25 → ∀ (n27 : Nat) (xs28 : List Value) (n29 : Int), inv23 n27 xs28 n29 H25 → (decide (n29 < (↑n20 : Int)) = true
  → someA A19 ∧ (0 : Int) ≤ n29 ∧ n29 < (↑n20 : Int) ∧ ∃ (n32 : Int), ∃ (n33 : Int), ∃ (A34 : Option Addr), ∃ (n35 : Nat), ∃ (c36 : Nat), Cells H25 A19 (Int.toNat n29 * 3) [.int .i64 n32,
  .int .i64 n33, .slice A34 n35 c36] ∧ ∀ (A37 : Option Addr) (c38 : Nat) (H39 : Heap), Heap.le H25 H39 → Cells H39 A37 0 [.int .i64 n32, .int .i64 n33] → 1 ≤ c38 → ∃ (post43 : Option Addr →
  Nat → Nat → Heap → Prop), ConT P 70 [.slice A37 1 c38, .slice A10 n11 c12] H39 ⟨false, [(false, [.sl])]⟩ post43 ∧ ∀ (H44 : Heap), Heap.le H39 H44 → ∀ (A46 : Option Addr) (n47 c48 : Nat),
  post43 A46 n47 c48 H44 → ∃ (inv50 : Nat → List Value → Int → Heap → Prop), ∃ (m51 : Nat → List Value → Int → Nat), inv50 n27 xs28 (0 : Int) H44 ∧ ∀ (H52 : Heap), Heap.le H44 H52 → ∀ (n54 :
  Nat) (xs55 : List Value) (n56 : Int), inv50 n54 xs55 n56 H52 → (decide (n56 < (↑n47 : Int)) = true → someA A46 ∧ (0 : Int) ≤ n56 ∧ n56 < (↑n47 : Int) ∧ ∃ (n59 : Int), ∃ (n60 : Int), Cells
  H52 A46 (Int.toNat n56 * 2) [.int .i64 n59, .int .i64 n60] ∧ (decide ((0 : Int) < (↑n54 : Int)) = true → rng .i64 ((↑n54 : Int) - (1 : Int)) ∧ (0 : Int) ≤ (↑n54 : Int) - (1 : Int) ∧ (↑n54 :
  Int) - (1 : Int) < (↑n54 : Int) ∧ ∃ (n62 : Int), win xs55 (Int.toNat ((↑n54 : Int) - (1 : Int)) * 3 + 0 + 1) 1 = [.int .i64 n62] ∧ (decide (n62 = n59) = true → rng .i64 ((↑n54 : Int) - (1 :
  Int)) ∧ (0 : Int) ≤ (↑n54 : Int) - (1 : Int) ∧ (↑n54 : Int) - (1 : Int) < (↑n54 : Int) ∧ ∃ (A64 : Option Addr), ∃ (n65 : Nat), ∃ (c66 : Nat), win xs55 (Int.toNat ((↑n54 : Int) - (1 : Int))
  * 3 + 2) 1 = [.slice A64 n65 c66] ∧ ∃ (post67 : Bool → Heap → Prop), ConT P 71 [.slice A64 n65 c66, .slice A34 n35 c36] H52 ⟨false, [(false, [.bool])]⟩ post67 ∧ ∀ (H68 : Heap), Heap.le H52
  H68 → ∀ (b70 : Bool), post67 b70 H68 → (b70 = true → rng .i64 ((↑n54 : Int) - (1 : Int)) ∧ (0 : Int) ≤ (↑n54 : Int) - (1 : Int) ∧ (↑n54 : Int) - (1 : Int) < (↑n54 : Int) ∧ Int.toNat ((↑n54
  : Int) - (1 : Int)) * 3 + 0 + 1 + 1 ≤ List.length xs55 ∧ rng .i64 (n56 + (1 : Int)) ∧ inv50 n54 (splice xs55 (Int.toNat ((↑n54 : Int) - (1 : Int)) * 3 + 0 + 1) [.int .i64 n60]) (n56 + (1 :
  Int)) H68 ∧ m51 n54 (splice xs55 (Int.toNat ((↑n54 : Int) - (1 : Int)) * 3 + 0 + 1) [.int .i64 n60]) (n56 + (1 : Int)) < m51 n54 xs55 n56) ∧ (b70 = false → ∃ (post74 : Option Addr → Nat →
  Nat → Heap → Prop), ConT P 72 [.slice A34 n35 c36] H68 ⟨false, [(false, [.sl])]⟩ post74 ∧ ∀ (H75 : Heap), Heap.le H68 H75 → ∀ (A77 : Option Addr) (n78 c79 : Nat), post74 A77 n78 c79 H75 →
  (n54 + 1) * 40 ≤ 140737488355328 ∧ rng .i64 (n56 + (1 : Int)) ∧ inv50 (n54 + 1) (xs55 ++ [.int .i64 n59, .int .i64 n60, .slice A77 n78 c79]) (n56 + (1 : Int)) H75 ∧ m51 (n54 + 1) (xs55 ++
  [.int .i64 n59, .int .i64 n60, .slice A77 n78 c79]) (n56 + (1 : Int)) < m51 n54 xs55 n56)) ∧ (decide (n62 = n59) = false → ∃ (post82 : Option Addr → Nat → Nat → Heap → Prop), ConT P 72
  [.slice A34 n35 c36] H52 ⟨false, [(false, [.sl])]⟩ post82 ∧ ∀ (H83 : Heap), Heap.le H52 H83 → ∀ (A85 : Option Addr) (n86 c87 : Nat), post82 A85 n86 c87 H83 → (n54 + 1) * 40 ≤
  140737488355328 ∧ rng .i64 (n56 + (1 : Int)) ∧ inv50 (n54 + 1) (xs55 ++ [.int .i64 n59, .int .i64 n60, .slice A85 n86 c87]) (n56 + (1 : Int)) H83 ∧ m51 (n54 + 1) (xs55 ++ [.int .i64 n59,
  .int .i64 n60, .slice A85 n86 c87]) (n56 + (1 : Int)) < m51 n54 xs55 n56)) ∧ (decide ((0 : Int) < (↑n54 : Int)) = false → ∃ (post90 : Option Addr → Nat → Nat → Heap → Prop), ConT P 72
  [.slice A34 n35 c36] H52 ⟨false, [(false, [.sl])]⟩ post90 ∧ ∀ (H91 : Heap), Heap.le H52 H91 → ∀ (A93 : Option Addr) (n94 c95 : Nat), post90 A93 n94 c95 H91 → (n54 + 1) * 40 ≤
  140737488355328 ∧ rng .i64 (n56 + (1 : Int)) ∧ inv50 (n54 + 1) (xs55 ++ [.int .i64 n59, .int .i64 n60, .slice A93 n94 c95]) (n56 + (1 : Int)) H91 ∧ m51 (n54 + 1) (xs55 ++ [.int .i64 n59,
  .int .i64 n60, .slice A93 n94 c95]) (n56 + (1 : Int)) < m51 n54 xs55 n56)) ∧ (decide (n56 < (↑n47 : Int)) = false → rng .i64 (n29 + (1 : Int)) ∧ inv23 n54 xs55 (n29 + (1 : Int)) H52 ∧ m24
  n54 xs55 (n29 + (1 : Int)) < m24 n27 xs28 n29)) ∧ (decide (n29 < (↑n20 : Int)) = false → ∀ (A99 : Option Addr) (c100 : Nat) (H101 : Heap), Heap.le H25 H101 → Cells H101 A99 0 xs28 → n27 ≤
  c100 → post A99 n27 c100 H101))) := by kernel_rfl
set_option maxRecDepth 100000 in
set_option maxHeartbeats 2000000 in
theorem fk_orphaned {H : Heap} {A B D : Option Addr} {n c m d k e : Nat} {l : List Tup} {ps : List Per} (ht : Sl H B m d l) (hp : Sl H D k e ps) (hm : m < 20) (hk : k < 20) (hv : ∀ x ∈ l, pOk x.p = true) (hb : (tlins l).length * 8 ≤ 140737488355328) :
    ConT Tryz.prog 39 [.agg ⟨[.slice A n c, .slice B m d]⟩, .slice D k e] H shS (fun A' n' c' H' => Sl H' A' n' c' (orphGo (segF (fkF l []) (canon (tends l))) (diff (norm (l.map (·.p))) ps) [])) := by
  refine con_of_vc (an := an39) (fn := Tryz.f39) mix tabOK Tryz.func39 (by kernel_rfl) (extra := 2) ?_
  rw [vc39]
  have hl := ht.len; have hpl := hp.len
  refine ⟨_, fk_days ht, ?_⟩
  intro H1 l1 A3 n4 c5 h3
  refine ⟨_, periodset_Subtract h3 (hp.mono l1), ?_⟩
  intro H8 l8 A10 n11 c12 h10
  have hml := h10.len
  have hmb : (diff (norm (l.map (·.p))) ps).length ≤ 400 := by
    have b1 := cutAll_len (norm ps) (norm (norm (l.map (·.p))))
    have b2 := norm_length ps
    have b3 := norm_length (norm (l.map (·.p)))
    have b4 := norm_length (l.map (·.p))
    rw [List.length_map] at b4
    have b5 : (norm (norm (l.map (·.p)))).length * ((norm ps).length + 1) ≤ 20 * 20 := Nat.mul_le_mul (by omega) (by omega)
    unfold diff
    omega
  generalize hM : diff (norm (l.map (·.p))) ps = ms at h10 hml hmb
  refine ⟨fun h0 => ?_, fun h0 => ?_⟩
  · have h0 := of_decide_eq_true h0
    have : ms = [] := List.eq_nil_of_length_eq_zero (by omega)
    rw [this, orphGo_nil]
    exact Sl.nil
  refine ⟨_, fk_segments (ht.mono (hle_trans l1 l8)) hm hv hb, ?_⟩
  intro H17 l17 A19 n20 c21 hs
  have hsl := hs.len
  have hsb : (segF (fkF l []) (canon (tends l))).length ≤ 40 := by
    have b1 := segF_len (fkF l []) (canon (tends l))
    have b2 := canon_len (tends l)
    have b3 := tends_len l
    omega
  generalize hS : segF (fkF l []) (canon (tends l)) = segs at hs hsl hsb
  generalize hR : orphGo segs ms [] = R
  refine ⟨fun u xs i H' => 0 ≤ i ∧ i ≤ n20 ∧ ∃ out : List Vio, Row H' xs out ∧ out.length = u ∧ u ≤ i.toNat * 400 ∧ R = orphGo (segs.drop i.toNat) ms out, fun _ _ i => n20 - i.toNat, ⟨by omega, by omega, [], rfl, rfl, by omega, hR.symm⟩, ?_⟩
  rintro H25 l25 u xs i ⟨i0, i1, out, hr, hu, hub, he⟩
  refine ⟨fun hlt => ?_, fun hge => ?_⟩
  · have hlt := of_decide_eq_true hlt
    obtain ⟨hi, hA, _, hc, ⟨A34, n35, c36, rfl, q1, q2, q3⟩⟩ := hs.at l25 i0 hlt
    have e1 : (i + 1).toNat = i.toNat + 1 := by omega
    rw [List.drop_eq_getElem_cons hi, orphGo] at he
    rw [show i.toNat + 1 = (i + 1).toNat by omega] at he
    generalize segs[i.toNat] = s at hc q1 q2 q3 he
    refine ⟨hA, i0, hlt, _, _, _, _, _, hc, ?_⟩
    intro A37 c38 H39 l39 hc39 hn39
    have hone : Sl H39 A37 1 c38 [s.p] := Row.sl (H := H39) (row1 s.p q1 q2) (hle_refl _) hc39 rfl hn39 (by decide) (by decide)
    refine ⟨_, periodset_Intersect hone (h10.mono (hle_trans l17 (hle_trans l25 l39))), ?_⟩
    intro H44 l44 A46 n47 c48 hx
    have hxl := hx.len
    have hxb := isect_one_len s.p ms
    have hp0 : pieces s ms out = (isect [s.p] ms).foldl (fun o p => extV o ⟨p, s.ids⟩) out := rfl
    generalize isect [s.p] ms = xs5 at hx hxl hxb hp0
    refine ⟨fun u5 ys j H' => 0 ≤ j ∧ j ≤ n47 ∧ ∃ out5 : List Vio, Row H' ys out5 ∧ out5.length = u5 ∧ u5 ≤ i.toNat * 400 + j.toNat ∧ pieces s ms out = (xs5.drop j.toNat).foldl (fun o p => extV o ⟨p, s.ids⟩) out5, fun _ _ j => n47 - j.toNat,
      ⟨by omega, by omega, out, hr.mono (hle_trans l39 l44), hu, by omega, by simpa using hp0⟩, ?_⟩
    rintro H52 l52 u5 ys j ⟨j0, j1, out5, hr5, hu5, hub5, hp5⟩
    refine ⟨fun jlt => ?_, fun jge => ?_⟩
    · have jlt := of_decide_eq_true jlt
      obtain ⟨ji, jA, _, jc, ⟨rfl, r1, r2⟩⟩ := hx.at l52 j0 jlt
      have e2 : (j + 1).toNat = j.toNat + 1 := by omega
      rw [List.drop_eq_getElem_cons ji, List.foldl_cons, show j.toNat + 1 = (j + 1).toNat by omega] at hp5
      generalize xs5[j.toNat] = p at jc r1 r2 hp5
      have hlen := hr5.length
      have q52 : Sl H52 A34 n35 c36 s.ids := q3.mono (hle_trans l39 (hle_trans l44 l52))
      have hub0 : i.toNat * 400 ≤ 40 * 400 := Nat.mul_le_mul (by omega) (Nat.le_refl _)
      have hext := extV_len out5 ⟨p, s.ids⟩
      have app : (∀ w, out5.getLast? = some w → ¬ (w.p.hi = p.lo ∧ w.ids = s.ids)) → ∀ {Hy : Heap} {A77 : Option Addr} {n78 c79 : Nat}, Heap.le H52 Hy → Sl Hy A77 n78 c79 s.ids →
          (u5 + 1) * 40 ≤ 140737488355328 ∧ rng .i64 (j + 1) ∧ (0 ≤ j + 1 ∧ j + 1 ≤ n47 ∧ ∃ out5' : List Vio, Row Hy (ys ++ [.int .i64 p.lo, .int .i64 p.hi, .slice A77 n78 c79]) out5' ∧ out5'.length = u5 + 1 ∧ u5 + 1 ≤ i.toNat * 400 + (j + 1).toNat ∧ pieces s ms out = (xs5.drop (j + 1).toNat).foldl (fun o p => extV o ⟨p, s.ids⟩) out5') ∧ n47 - (j + 1).toNat < n47 - j.toNat := by
        intro hno Hy A77 n78 c79 ly hids
        have hx := extV_app (l := out5) (v := ⟨p, s.ids⟩) hno
        refine ⟨by omega, by simp only [rng]; omega, ⟨by omega, by omega, out5 ++ [⟨p, s.ids⟩], (hr5.mono ly).append (Row.one ⟨_, _, _, rfl, r1, r2, hids⟩), by simp [hu5], by omega, ?_⟩, by omega⟩
        rw [hp5, hx]
      refine ⟨jA, j0, jlt, _, _, jc, fun hn => ?_, fun hn => ?_⟩
      · have hn := of_decide_eq_true hn
        have hq : ((u5 : Int) - 1).toNat < out5.length := by omega
        obtain ⟨vs, ⟨A1, n1, c1, rfl, w1, w2, w3⟩, hg, hsp⟩ := hr5.getf hq
        have hlast : out5.getLast? = some out5[((u5 : Int) - 1).toNat] := by
          rw [List.getLast?_eq_getElem?, List.getElem?_eq_getElem (by omega)]
          congr 2; omega
        have hw1 := hg 1 1 (by decide)
        have hw2 := hg 2 1 (by decide)
        refine ⟨by simp only [rng]; omega, by omega, by omega, _, hw1, fun hh => ⟨by simp only [rng]; omega, by omega, by omega, _, _, _, hw2, _, Equal_Int w3 q52, ?_⟩, fun hh => ?_⟩
        · have hh := of_decide_eq_true hh
          rintro H68 l68 _ rfl
          refine ⟨fun hq2 => ?_, fun hq2 => ?_⟩
          · have hq2 := of_decide_eq_true hq2
            have hext : extV out5 ⟨p, s.ids⟩ = out5.set ((u5 : Int) - 1).toNat ⟨⟨out5[((u5 : Int) - 1).toNat].p.lo, p.hi⟩, out5[((u5 : Int) - 1).toNat].ids⟩ := by
              unfold extV
              rw [hlast]
              simp only
              rw [if_pos ⟨hh, hq2⟩, ← set_last (by omega), show out5.length - 1 = ((u5 : Int) - 1).toNat by omega]
            refine ⟨by simp only [rng]; omega, by omega, by omega, ?_, by simp only [rng]; omega, ⟨by omega, by omega, out5.set ((u5 : Int) - 1).toNat ⟨⟨out5[((u5 : Int) - 1).toNat].p.lo, p.hi⟩, out5[((u5 : Int) - 1).toNat].ids⟩, ?_, ?_, by omega, ?_⟩, by dsimp only; omega⟩
            · rw [hlen]
              show _ ≤ out5.length * 3
              omega
            · exact (hsp 1 [.int .i64 p.hi] ⟨⟨out5[((u5 : Int) - 1).toNat].p.lo, p.hi⟩, out5[((u5 : Int) - 1).toNat].ids⟩ (by show 1 + 1 ≤ 3; omega) ⟨A1, n1, c1, rfl, w1, r2, w3⟩).mono l68
            · simp [hu5]
            · rw [hp5, hext]
          · have hq2 := of_decide_eq_false hq2
            refine ⟨_, Clone_Int (q52.mono l68), fun H75 l75 A77 n78 c79 h77 => app (fun w hw hc => ?_) (hle_trans l68 l75) h77⟩
            rw [hlast] at hw
            obtain rfl := Option.some.inj hw
            exact hq2 hc.2
        · have hh := of_decide_eq_false hh
          refine ⟨_, Clone_Int q52, fun H75 l75 A77 n78 c79 h77 => app (fun w hw hc => ?_) l75 h77⟩
          rw [hlast] at hw
          obtain rfl := Option.some.inj hw
          exact hh hc.1
      · have hn := of_decide_eq_false hn
        have : out5 = [] := List.eq_nil_of_length_eq_zero (by omega)
        refine ⟨_, Clone_Int q52, fun H75 l75 A77 n78 c79 h77 => app (fun w hw hc => ?_) l75 h77⟩
        rw [this] at hw; cases hw
    · have jge := of_decide_eq_false jge
      rw [List.drop_eq_nil_of_le (by omega), List.foldl_nil] at hp5
      refine ⟨by simp only [rng]; omega, ⟨by omega, by omega, out5, hr5, hu5, by omega, by rw [← hp5]; exact he⟩, by dsimp only; omega⟩
  · have hge := of_decide_eq_false hge
    rw [List.drop_eq_nil_of_le (by omega), orphGo] at he
    rw [he]
    intro A99 c100 H101 l101 hc101 hn101
    have hub0 : i.toNat * 400 ≤ 40 * 400 := Nat.mul_le_mul (by omega) (Nat.le_refl _)
    exact hr.sl l101 hc101 hu hn101 (by show u * 40 ≤ _; omega) (by omega)
/- the map of days by keys' texts -/
theorem keyEq_of_str {s : ByteArray} {v : Value} (h : keyEq (.string s) v = true) : v = .string s := by
  cases v <;> simp_all [keyEq]
theorem keyEq_refl_str {s : ByteArray} : keyEq (.string s) (.string s) = true := decide_eq_true rfl
theorem mfind_put_same {s : ByteArray} {x : Value} : ∀ es : List (Value × Value), mfind (mput es (.string s) x) (.string s) = some x
  | [] => by simp [mfind, mput, keyEq_refl_str]
  | p :: r => by
    have ih := mfind_put_same (s := s) (x := x) r
    unfold mfind at ih ⊢
    rw [mput]
    split
    · rw [List.find?_cons, keyEq_refl_str]; rfl
    · rename_i h
      rw [List.find?_cons, show keyEq (.string s) p.1 = false by simpa using h]
      exact ih
theorem mfind_put_ne {s t : ByteArray} {x : Value} (hne : t ≠ s) : ∀ es : List (Value × Value), mfind (mput es (.string s) x) (.string t) = mfind es (.string t)
  | [] => by
    have : keyEq (.string t) (.string s) = false := decide_eq_false hne
    simp [mfind, mput, this]
  | p :: r => by
    have ih := mfind_put_ne (x := x) hne r
    unfold mfind at ih ⊢
    rw [mput]
    split
    · rename_i h
      have hp := keyEq_of_str h
      rw [List.find?_cons, List.find?_cons, hp]
      have : keyEq (.string t) (.string s) = false := decide_eq_false hne
      simp only [this]
    · rw [List.find?_cons, List.find?_cons]
      split
      · rfl
      · exact ih
structure DaysOK (H : Heap) (es : List (Value × Value)) (ks : List (List Val)) (F : List Val → List Per) : Prop where
  has : ∀ v ∈ ks, ∃ A n c, mfind es (.string (keyStr v)) = some (.slice A n c) ∧ Sl H A n c (F v)
  non : ∀ v, v ∉ ks → mfind es (.string (keyStr v)) = none
theorem DaysOK.mono {H H' : Heap} {es : List (Value × Value)} {ks : List (List Val)} {F : List Val → List Per} (h : DaysOK H es ks F) (hle : Heap.le H H') : DaysOK H' es ks F :=
  ⟨fun v hv => let ⟨A, n, c, h1, h2⟩ := h.has v hv; ⟨A, n, c, h1, h2.mono hle⟩, h.non⟩
theorem DaysOK.put {H : Heap} {es : List (Value × Value)} {ks : List (List Val)} {F : List Val → List Per} (h : DaysOK H es ks F) {v : List Val} {A : Option Addr} {n c : Nat} (hs : Sl H A n c (F v)) : DaysOK H (mput es (.string (keyStr v)) (.slice A n c)) (ks ++ [v]) F := by
  refine ⟨fun u hu => ?_, fun u hu => ?_⟩
  · by_cases e : u = v
    · subst e
      exact ⟨A, n, c, mfind_put_same es, hs⟩
    · have hu : u ∈ ks := by
        rcases List.mem_append.1 hu with h | h
        · exact h
        · rw [List.mem_singleton] at h; exact absurd h e
      obtain ⟨A', n', c', h1, h2⟩ := h.has u hu
      exact ⟨A', n', c', by rw [mfind_put_ne fun e' => e (keyStr_inj e')]; exact h1, h2⟩
  · simp only [List.mem_append, List.mem_singleton, not_or] at hu
    rw [mfind_put_ne fun e' => hu.2 (keyStr_inj e')]
    exact h.non u hu.1
theorem DaysOK.look {H : Heap} {es : List (Value × Value)} {ks : List (List Val)} {F : List Val → List Per} (h : DaysOK H es ks F) (v : List Val) (hn : v ∉ ks → F v = []) : ∃ A n c, lkIs es (.string (keyStr v)) false [.slice none 0 0] [.slice A n c] ∧ Sl H A n c (F v) := by
  by_cases hv : v ∈ ks
  · obtain ⟨A, n, c, h1, h2⟩ := h.has v hv
    exact ⟨A, n, c, by unfold lkIs; rw [h1]; rfl, h2⟩
  · exact ⟨none, 0, 0, by unfold lkIs; rw [h.non v hv], by rw [hn hv]; exact Sl.nil⟩
theorem keyList_fit {l : List Tup} {cols : List Int} (hf : keyFit l cols) : ∀ v ∈ keyList l cols, (keyBytes v).length ≤ 140737488355328 := by
  intro v hv
  obtain ⟨t, h1, h2, rfl⟩ := byKey_mem.1 ((keyList_keys l cols v).1 hv)
  exact hf t h1
theorem keyList_len (l : List Tup) (cols : List Int) : (keyList l cols).length ≤ l.length := by
  refine keys_len ?_ (keyList_keys l cols)
  refine (keyList_asc l cols).imp fun {a b} h e => ?_
  rw [e, cmpVs_ord.refl] at h
  exact absurd h (by decide)
theorem withK_len' (l : List Tup) (cols : List Int) (v : List Val) : (withK l cols v).length ≤ l.length := List.length_filter_le _ _
def an15 : Ann where
  res := fun _ => none
  lend := fun | 27 => true | 44 => true | _ => false
  sch := fun | 5 => (tk [0, 1, 2, 4] (.alt 3 (.alt 5 (.alt 6 .done .fin) .fin) .fin)) | 11 => (tk [0, 1, 2, 3, 4] (.alt 5 (.alt 6 (.alt 7 (.alt 8 (tk [9] .done) .fin) .fin) .fin) .fin)) | _ => .done
  opn := true
  lt := fun | 3 => [.slot 20 false [.int .i64]] | 9 => [.slot 12 false [.row 50 53], .slot 35 false [.int .i64]] | _ => []
  tup := tups

theorem vc15 (P : Program) (H : Heap) (childA : Option Addr) (childN childC : Nat) (parentA : Option Addr) (parentN parentC : Nat) (colsA : Option Addr) (colsN colsC : Nat) (refColsA : Option Addr) (refColsN refColsC : Nat) (post : Option Addr → Nat → Nat → Heap → Prop) :
  vcFn P tab an15 Tryz.f15 [.slice childA childN childC, .slice parentA parentN parentC, .slice colsA colsN colsC, .slice refColsA refColsN refColsC] 1 H ⟨false, [(false, [.sl])]⟩ post =
  (  ∀ (b0 : Nat) (O1 : Nat → Option XO), newM noO O1 b0 68 → ∃ (post3 : Option Addr → Nat → Nat → Heap → Prop), ConT P 36 [.slice parentA parentN parentC, .slice refColsA refColsN refColsC] H
  ⟨false, [(false, [.sl])]⟩ post3 ∧ ∀ (H4 : Heap), Heap.le H H4 → ∀ (A6 : Option Addr) (n7 c8 : Nat), post3 A6 n7 c8 H4 → ∃ (inv10 : Int → Heap → OMap → Prop), ∃ (m11 : Int → Nat), inv10 (0 :
  Int) H4 O1 ∧ ∀ (H12 : Heap), Heap.le H4 H12 → ∀ (O14 : Nat → Option XO) (n15 : Int), inv10 n15 H12 O14 → (decide (n15 < (↑n7 : Int)) = true → someA A6 ∧ (0 : Int) ≤ n15 ∧ n15 < (↑n7 : Int)
  ∧ ∃ (A18 : Option Addr), ∃ (n19 : Nat), ∃ (c20 : Nat), ∃ (A21 : Option Addr), ∃ (n22 : Nat), ∃ (c23 : Nat), Cells H12 A6 (Int.toNat n15 * 2) [.slice A18 n19 c20, .slice A21 n22 c23] ∧ ∃
  (post24 : ByteArray → Heap → Prop), ConT P 38 [.slice A18 n19 c20] H12 ⟨false, [(false, [.str])]⟩ post24 ∧ ∀ (H25 : Heap), Heap.le H12 H25 → ∀ (s27 : ByteArray), post24 s27 H25 → ∃ (post29
  : Option Addr → Nat → Nat → Heap → Prop), ConT P 37 [.agg ⟨[.slice A18 n19 c20, .slice A21 n22 c23]⟩] H25 ⟨false, [(false, [.sl])]⟩ post29 ∧ ∀ (H30 : Heap), Heap.le H25 H30 → ∀ (A32 :
  Option Addr) (n33 c34 : Nat), post29 A32 n33 c34 H30 → ∃ (es36 : List (Value × Value)), hasM O14 (some b0) 68 es36 ∧ ∀ (O37 : Nat → Option XO), putM O14 O37 (some b0) 68 (mput es36 (.string
  s27) (.slice A32 n33 c34)) → rng .i64 (n15 + (1 : Int)) ∧ inv10 (n15 + (1 : Int)) H30 O37 ∧ m11 (n15 + (1 : Int)) < m11 n15) ∧ (decide (n15 < (↑n7 : Int)) = false → ∃ (post40 : Option Addr
  → Nat → Nat → Heap → Prop), ConT P 36 [.slice childA childN childC, .slice colsA colsN colsC] H12 ⟨false, [(false, [.sl])]⟩ post40 ∧ ∀ (H41 : Heap), Heap.le H12 H41 → ∀ (A43 : Option Addr)
  (n44 c45 : Nat), post40 A43 n44 c45 H41 → ∃ (inv47 : Nat → List Value → Int → Heap → OMap → Prop), ∃ (m48 : Nat → List Value → Int → Nat), inv47 0 [] (0 : Int) H41 O14 ∧ ∀ (H49 : Heap),
  Heap.le H41 H49 → ∀ (O51 : Nat → Option XO) (n52 : Nat) (xs53 : List Value) (n54 : Int), inv47 n52 xs53 n54 H49 O51 → (decide (n54 < (↑n44 : Int)) = true → someA A43 ∧ (0 : Int) ≤ n54 ∧ n54
  < (↑n44 : Int) ∧ ∃ (A57 : Option Addr), ∃ (n58 : Nat), ∃ (c59 : Nat), ∃ (A60 : Option Addr), ∃ (n61 : Nat), ∃ (c62 : Nat), Cells H49 A43 (Int.toNat n54 * 2) [.slice A57 n58 c59, .slice A60
  n61 c62] ∧ ∃ (post63 : ByteArray → Heap → Prop), ConT P 38 [.slice A57 n58 c59] H49 ⟨false, [(false, [.str])]⟩ post63 ∧ ∀ (H64 : Heap), Heap.le H49 H64 → ∀ (s66 : ByteArray), post63 s66 H64
  → ∃ (es68 : List (Value × Value)), isMap O51 (some b0) 68 es68 ∧ ∃ (A69 : Option Addr), ∃ (n70 : Nat), ∃ (c71 : Nat), lkIs es68 (.string s66) false [.slice none 0 0] [.slice A69 n70 c71] ∧
  ∃ (post72 : Option Addr → Nat → Nat → Heap → Prop), ConT P 39 [.agg ⟨[.slice A57 n58 c59, .slice A60 n61 c62]⟩, .slice A69 n70 c71] H64 ⟨false, [(false, [.sl])]⟩ post72 ∧ ∀ (H73 : Heap),
  Heap.le H64 H73 → ∀ (A75 : Option Addr) (n76 c77 : Nat), post72 A75 n76 c77 H73 → ∃ (ys79 : List Value), Cells H73 A75 0 ys79 ∧ List.length ys79 = n76 * 3 ∧ (n52 + n76) * 40 ≤
  140737488355328 ∧ rng .i64 (n54 + (1 : Int)) ∧ inv47 (n52 + n76) (xs53 ++ ys79) (n54 + (1 : Int)) H73 O51 ∧ m48 (n52 + n76) (xs53 ++ ys79) (n54 + (1 : Int)) < m48 n52 xs53 n54) ∧ (decide
  (n54 < (↑n44 : Int)) = false → ∀ (A81 : Option Addr) (c82 : Nat) (H83 : Heap), Heap.le H49 H83 → Cells H83 A81 0 xs53 → n52 ≤ c82 → post A81 n52 c82 H83))) := by kernel_rfl
set_option maxRecDepth 100000 in
set_option maxHeartbeats 2000000 in
theorem fk_Violations {H : Heap} {A B C D : Option Addr} {n c m d k e p q : Nat} {child parent : List Tup} {cols ref : List Int} (hT : TabH H) (h1 : Sl H A n c child) (h2 : Sl H B m d parent) (h3 : Sl H C k e cols) (h4 : Sl H D p q ref) (hf1 : Fit child cols) (hf2 : Fit parent ref) :
    ConT Tryz.prog 15 [.slice A n c, .slice B m d, .slice C k e, .slice D p q] H shS (fun A' n' c' H' => Sl H' A' n' c' (fkAll child parent cols ref)) := by
  refine con_of_vc (an := an15) (fn := Tryz.f15) mix tabOK Tryz.func15 (by kernel_rfl) (extra := 1) ?_
  rw [vc15]
  have f1 := hf1.few; have f2 := hf2.few; have c1 := hf1.clen; have c2 := hf2.clen; have i1 := hf1.lins; have i2 := hf2.lins
  have e3 := h3.len; have e4 := h4.len
  rintro b0 O1 ⟨-, ho1, -⟩
  refine ⟨_, fk_groups hT h2 h4 (by omega) hf2.keys, ?_⟩
  intro H4 l4 A6 n7 c8 hg
  have hgl : (keyList parent ref).length = n7 := by rw [← hg.len]; simp [keyGroups]
  have hkp := keyList_fit hf2.keys
  have hkn := keyList_len parent ref
  refine ⟨fun i H' O' => 0 ≤ i ∧ i ≤ n7 ∧ ∃ es, O' b0 = some (.mp 68 es) ∧ DaysOK H' es ((keyList parent ref).take i.toNat) (fun v => norm ((withK parent ref v).map (·.p))), fun i => n7 - i.toNat,
    ⟨by omega, by omega, [], ho1, ⟨fun v hv => by simp at hv, fun v _ => rfl⟩⟩, ?_⟩
  rintro H12 l12 O14 i ⟨i0, i1', es, ho, hd⟩
  refine ⟨fun hlt => ?_, fun hge => ?_⟩
  · have hlt := of_decide_eq_true hlt
    obtain ⟨hi, hA, _, hc, ⟨A18, n19, c20, A21, n22, c23, rfl, q1, q2⟩⟩ := hg.at l12 i0 hlt
    have hi' : i.toNat < (keyList parent ref).length := by omega
    have hgi : (keyGroups parent ref)[i.toNat] = ⟨(keyList parent ref)[i.toNat], withK parent ref (keyList parent ref)[i.toNat]⟩ := by simp [keyGroups]
    rw [hgi] at q1 q2
    have hvm := List.getElem_mem hi'
    have htk : (keyList parent ref).take (i + 1).toNat = (keyList parent ref).take i.toNat ++ [(keyList parent ref)[i.toNat]] := by
      rw [show (i + 1).toNat = i.toNat + 1 by omega, List.take_succ_eq_append_getElem hi']
    generalize (keyList parent ref)[i.toNat] = v at q1 q2 hvm htk
    refine ⟨hA, i0, hlt, _, _, _, _, _, _, hc, _, value_Key (hT.mono (hle_trans l4 l12)) q1 (hkp v hvm), ?_⟩
    rintro H25 l25 _ rfl
    refine ⟨_, fk_days (q2.mono l25), ?_⟩
    intro H30 l30 A32 n33 c34 h32
    refine ⟨es, ⟨b0, rfl, ho⟩, ?_⟩
    rintro O37 ⟨b49, e49, h49, -⟩
    obtain rfl : b0 = b49 := by simpa using e49
    refine ⟨by simp only [rng]; omega, ⟨by omega, by omega, _, h49, ?_⟩, by dsimp only; omega⟩
    rw [htk]
    exact (hd.mono (hle_trans l25 l30)).put h32
  have hge := of_decide_eq_false hge
  rw [List.take_of_length_le (by omega)] at hd
  have l412 := hle_trans l4 l12
  refine ⟨_, fk_groups (hT.mono l412) (h1.mono l412) (h3.mono l412) (by omega) hf1.keys, ?_⟩
  intro H41 l41 A43 n44 c45 hg2
  have hgl2 : (keyList child cols).length = n44 := by rw [← hg2.len]; simp [keyGroups]
  have hkp2 := keyList_fit hf1.keys
  have hkn2 := keyList_len child cols
  have l441 := hle_trans l412 l41
  generalize hF : (fun v => refV (withK child cols v) (withK parent ref v)) = F
  have hall : fkAll child parent cols ref = (keyList child cols).flatMap F := by subst hF; rfl
  have hFl : ∀ v, (F v).length ≤ 80 := fun v => by
    subst hF
    have b1 := refV_len (withK child cols v) (withK parent ref v)
    have b2 := withK_len' child cols v; have b3 := withK_len' parent ref v
    simp only; omega
  refine ⟨fun u xs j H' O' => 0 ≤ j ∧ j ≤ n44 ∧ O' b0 = some (.mp 68 es) ∧ Row H' xs (((keyList child cols).take j.toNat).flatMap F) ∧ u = (((keyList child cols).take j.toNat).flatMap F).length ∧ u ≤ j.toNat * 80, fun _ _ j => n44 - j.toNat,
    ⟨by omega, by omega, ho, rfl, rfl, by omega⟩, ?_⟩
  rintro H49 l49 O51 u xs j ⟨j0, j1, ho5, hr, hu, hub⟩
  refine ⟨fun hlt => ?_, fun hge => ?_⟩
  · have hlt := of_decide_eq_true hlt
    obtain ⟨hj, hA, _, hc, ⟨A57, n58, c59, A60, n61, c62, rfl, q1, q2⟩⟩ := hg2.at l49 j0 hlt
    have hj' : j.toNat < (keyList child cols).length := by omega
    have hgj : (keyGroups child cols)[j.toNat] = ⟨(keyList child cols)[j.toNat], withK child cols (keyList child cols)[j.toNat]⟩ := by simp [keyGroups]
    rw [hgj] at q1 q2
    have hvm := List.getElem_mem hj'
    have htk : ((keyList child cols).take (j + 1).toNat).flatMap F = ((keyList child cols).take j.toNat).flatMap F ++ F (keyList child cols)[j.toNat] := by
      rw [show (j + 1).toNat = j.toNat + 1 by omega, List.take_succ_eq_append_getElem hj', List.flatMap_append]; simp
    generalize (keyList child cols)[j.toNat] = v at q1 q2 hvm htk
    refine ⟨hA, j0, hlt, _, _, _, _, _, _, hc, _, value_Key (hT.mono (hle_trans l441 l49)) q1 (hkp2 v hvm), ?_⟩
    rintro H64 l64 _ rfl
    have l1264 := hle_trans l41 (hle_trans l49 l64)
    obtain ⟨A69, n70, c71, k1, k2⟩ := (hd.mono l1264).look v fun hn => by
      show norm ((withK parent ref v).map (·.p)) = []
      rw [withK_none (keyList_keys parent ref) hn]; rfl
    have k2 : Sl H64 A69 n70 c71 (norm ((withK parent ref v).map (·.p))) := k2
    have k3 := k2.len
    have b1 := norm_length ((withK parent ref v).map (·.p))
    rw [List.length_map] at b1
    have b2 := withK_len' parent ref v; have b3 := withK_len' child cols v; have b4 := withK_lins child cols v
    have q2l := q2.len
    refine ⟨es, .inr ⟨b0, rfl, ho5⟩, A69, n70, c71, k1, _, fk_orphaned (q2.mono l64) k2 (by simp only at q2l; omega) (by omega) (fun x hx => withK_ok x hx) (by show (tlins (withK child cols v)).length * 8 ≤ _; omega), ?_⟩
    intro H73 l73 A75 n76 c77 h75
    have h75 : Sl H73 A75 n76 c77 (orphGo (segF (fkF (withK child cols v) []) (canon (tends (withK child cols v)))) (diff (norm ((withK child cols v).map (·.p))) (norm ((withK parent ref v).map (·.p)))) []) := h75
    rw [fk_one withK_ok withK_ok] at h75
    have hFv : F v = refV (withK child cols v) (withK parent ref v) := by subst hF; rfl
    rw [← hFv] at h75
    have h7l := h75.len
    have hfl := hFl v
    obtain ⟨ys, y1, y2⟩ := h75.row
    have hub0 : j.toNat * 80 ≤ 20 * 80 := Nat.mul_le_mul (by omega) (Nat.le_refl _)
    refine ⟨ys, y1, by rw [y2.length, h7l]; rfl, by omega, by simp only [rng]; omega, ⟨by omega, by omega, ho5, by rw [htk]; exact (hr.mono (hle_trans l64 l73)).append y2, by rw [htk, List.length_append, hu, h7l], by omega⟩, by dsimp only; omega⟩
  · have hge := of_decide_eq_false hge
    rw [List.take_of_length_le (by omega), ← hall] at hr hu
    intro A81 c82 H83 l83 hc83 hn83
    have hub0 : j.toNat * 80 ≤ 20 * 80 := Nat.mul_le_mul (by omega) (Nat.le_refl _)
    exact hr.sl l83 hc83 hu.symm hn83 (by show u * 40 ≤ _; omega) (by omega)
def an16 : Ann where
  res := fun _ => none
  lend := fun _ => false
  sch := fun _ => .done
  lt := fun _ => []
  tup := tups

theorem vc16 (P : Program) (H : Heap) (childA : Option Addr) (childN childC : Nat) (parentA : Option Addr) (parentN parentC : Nat) (colsA : Option Addr) (colsN colsC : Nat) (refColsA : Option Addr) (refColsN refColsC : Nat) (post : Bool → Heap → Prop) :
  vcFn P tab an16 Tryz.f16 [.slice childA childN childC, .slice parentA parentN parentC, .slice colsA colsN colsC, .slice refColsA refColsN refColsC] 0 H ⟨false, [(false, [.bool])]⟩ post =
  (  ∃ (post0 : Option Addr → Nat → Nat → Heap → Prop), ConT P 15 [.slice childA childN childC, .slice parentA parentN parentC, .slice colsA colsN colsC, .slice refColsA refColsN refColsC] H
  ⟨false, [(false, [.sl])]⟩ post0 ∧ ∀ (H1 : Heap), Heap.le H H1 → ∀ (A3 : Option Addr) (n4 c5 : Nat), post0 A3 n4 c5 H1 → post (decide ((↑n4 : Int) = (0 : Int))) H1) := by kernel_rfl
theorem fk_Holds {H : Heap} {A B C D : Option Addr} {n c m d k e p q : Nat} {child parent : List Tup} {cols ref : List Int} (hT : TabH H) (h1 : Sl H A n c child) (h2 : Sl H B m d parent) (h3 : Sl H C k e cols) (h4 : Sl H D p q ref) (hf1 : Fit child cols) (hf2 : Fit parent ref) :
    ConT Tryz.prog 16 [.slice A n c, .slice B m d, .slice C k e, .slice D p q] H shB (fun r _ => r = decide ((fkAll child parent cols ref).length = 0)) := by
  refine con_of_vc (an := an16) (fn := Tryz.f16) mix tabOK Tryz.func16 (by kernel_rfl) (extra := 0) ?_
  rw [vc16]
  refine ⟨_, fk_Violations hT h1 h2 h3 h4 hf1 hf2, fun H1 l1 A1 n1 c1 h => ?_⟩
  have hl := h.len
  rw [hl, Bool.eq_iff_iff, decide_eq_true_eq, decide_eq_true_eq]; omega
end Go.Vc
