/- Constraints: what the program's parts compute. -/
import Derived.Test.YtpgcjofhfaonpaaGreatDoorGJS15
import Derived.Test.YtpgcjofhfaonpaaGreatDoorGJS21
import Derived.Test.YtpgcjofhfaonpaaGreatDoorGJS22
set_option linter.unusedSectionVars false
set_option linter.unusedSimpArgs false
set_option linter.unusedVariables false
namespace Go.Vc
open Go Go.Proofs Go.Shelf
/- a set of keys by their texts -/
def setE (vs : List (List Val)) : List (Value × Value) := vs.map fun v => (Value.string (keyStr v), Value.agg ⟨[]⟩)
theorem setE_look (vs : List (List Val)) (s : ByteArray) : lkIs (setE vs) (.string s) true [] [] := by
  unfold lkIs
  rcases h : mfind (setE vs) (.string s) with _ | v
  · rfl
  · have : v = Value.agg ⟨[]⟩ := by
      unfold mfind at h
      obtain ⟨p, h1, rfl⟩ := Option.map_eq_some_iff.1 h
      have := List.mem_of_find?_eq_some h1
      obtain ⟨w, -, rfl⟩ := List.mem_map.1 this
      rfl
    rw [this]; rfl
theorem setE_has (vs : List (List Val)) (v : List Val) : mhas (setE vs) (.string (keyStr v)) = decide (v ∈ vs) := by
  rw [Bool.eq_iff_iff, decide_eq_true_eq]
  unfold mhas setE
  rw [List.any_map, List.any_eq_true]
  constructor
  · rintro ⟨u, hu, he⟩
    have he : decide (keyStr v = keyStr u) = true := he
    rw [keyStr_inj (of_decide_eq_true he)]; exact hu
  · intro h
    exact ⟨v, h, decide_eq_true rfl⟩
theorem setE_put {vs : List (List Val)} {v : List Val} (h : v ∉ vs) : mput (setE vs) (.string (keyStr v)) (.agg ⟨[]⟩) = setE (vs ++ [v]) := by
  induction vs with
  | nil => rfl
  | cons u vs ih =>
    simp only [List.mem_cons, not_or] at h
    have hne : keyEq (.string (keyStr v)) (.string (keyStr u)) = false := decide_eq_false fun e => h.1 (keyStr_inj e)
    have e : setE (u :: vs) = (Value.string (keyStr u), Value.agg ⟨[]⟩) :: setE vs := rfl
    rw [e, mput, if_neg (by rw [hne]; simp), ih h.2]
    rfl
/- the keys' texts fit -/
def keyFit (l : List Tup) (cols : List Int) : Prop := ∀ t ∈ l, (keyBytes (keyVals t.vals cols)).length ≤ 140737488355328
theorem KeysOf.nil {cols : List Int} : KeysOf [] [] cols := fun v => by simp [byKeyL]
theorem KeysOf.skip {vs : List (List Val)} {l : List Tup} {cols : List Int} {i : Nat} (hi : i < l.length) (h : KeysOf vs (l.take i) cols) (hp : pOk l[i].p = false) : KeysOf vs (l.take (i + 1)) cols := by
  intro v
  rw [h v, byKeyL_succ hi, if_neg (by rw [hp]; simp), List.append_nil]
theorem KeysOf.old {vs : List (List Val)} {l : List Tup} {cols : List Int} {i : Nat} (hi : i < l.length) (h : KeysOf vs (l.take i) cols) (hv : keyVals l[i].vals cols ∈ vs) : KeysOf vs (l.take (i + 1)) cols := by
  intro v
  rw [byKeyL_succ hi]
  by_cases hp : pOk l[i].p = true
  · rw [if_pos hp]
    simp only [List.mem_append, List.mem_singleton]
    constructor
    · intro h1
      obtain ⟨k, h2, h3⟩ := (h v).1 h1
      exact ⟨k, .inl h2, h3⟩
    · rintro ⟨k, h1 | rfl, rfl⟩
      · exact (h _).2 ⟨k, h1, rfl⟩
      · exact hv
  · rw [if_neg hp, List.append_nil]; exact h v
theorem KeysOf.new {vs : List (List Val)} {l : List Tup} {cols : List Int} {i : Nat} (hi : i < l.length) (h : KeysOf vs (l.take i) cols) (hp : pOk l[i].p = true) : KeysOf (vs ++ [keyVals l[i].vals cols]) (l.take (i + 1)) cols := by
  intro v
  rw [byKeyL_succ hi, if_pos hp]
  simp only [List.mem_append, List.mem_singleton]
  constructor
  · rintro (h1 | rfl)
    · obtain ⟨k, h2, h3⟩ := (h v).1 h1
      exact ⟨k, .inl h2, h3⟩
    · exact ⟨_, .inr rfl, rfl⟩
  · rintro ⟨k, h1 | rfl, rfl⟩
    · exact .inl ((h _).2 ⟨k, h1, rfl⟩)
    · exact .inr rfl
theorem cmpVs_swo : Sort.SWO (ltOf cmpVs) where
  irrefl x := by simp [ltOf, cmpVs_ord.refl]
  trans x y z h1 h2 := by
    simp only [ltOf, decide_eq_true_eq] at *
    have s1 := cmpVs_ord.sign x y; have s2 := cmpVs_ord.sign y z
    have := cmpVs_ord.trans x y z (by omega) (by omega)
    omega
  ntrans x y z h1 h2 := by
    simp only [ltOf, decide_eq_false_iff_not] at *
    intro h
    have s1 := cmpVs_ord.sign x y; have s2 := cmpVs_ord.sign y z; have s3 := cmpVs_ord.sign x z
    have a1 := cmpVs_ord.anti x y; have a2 := cmpVs_ord.anti y z
    rcases Int.lt_or_eq_of_le (show 0 ≤ cmpVs x y by omega) with hxy | hxy
    · have h3 := cmpVs_ord.trans y x z (by omega) (by omega)
      omega
    · have : x = y := cmpVs_zero.1 hxy.symm
      subst this; omega
def sortLay_VV_ren : Go.Shelf.Ren := ⟨fun | 6 => 47 | 15 => 75 | 14 => 74 | 28 => 108 | 29 => 109 | 20 => 100 | 21 => 101 | 22 => 102 | 23 => 103 | 24 => 104 | 25 => 105 | 26 => 106 | 27 => 107 | 46 => 138 | 47 => 139 | 48 => 140 | 49 => 141 | 50 => 142 | 57 => 157 | n => n, fun | 22 => 53 | 24 => 38 | 25 => 66 | 3 => 3 | 39 => 106 | 0 => 0 | 53 => 152 | 55 => 154 | 4 => 4 | 46 => 146 | 45 => 145 | 50 => 76 | 5 => 5 | 9 => 9 | 66 => 175 | 70 => 179 | 76 => 192 | 77 => 193 | n => n, fun n => n⟩
theorem sortLay_VV : SlLaysF.n6 Tryz.prog sortLay_VV_ren where
  mixed := by kernel_rfl
  f6 := ⟨Tryz.f47.name, by kernel_rfl, Tryz.func47.trans (congrArg some (by kernel_rfl))⟩
  f14 := ⟨Tryz.f74.name, by kernel_rfl, Tryz.func74.trans (congrArg some (by kernel_rfl))⟩
  f15 := Tryz.func75.trans (congrArg some (by kernel_rfl))
  f20 := ⟨Tryz.f100.name, by kernel_rfl, Tryz.func100.trans (congrArg some (by kernel_rfl))⟩
  f21 := ⟨Tryz.f101.name, by kernel_rfl, Tryz.func101.trans (congrArg some (by kernel_rfl))⟩
  f22 := ⟨Tryz.f102.name, by kernel_rfl, Tryz.func102.trans (congrArg some (by kernel_rfl))⟩
  f23 := ⟨Tryz.f103.name, by kernel_rfl, Tryz.func103.trans (congrArg some (by kernel_rfl))⟩
  f24 := ⟨Tryz.f104.name, by kernel_rfl, Tryz.func104.trans (congrArg some (by kernel_rfl))⟩
  f25 := ⟨Tryz.f105.name, by kernel_rfl, Tryz.func105.trans (congrArg some (by kernel_rfl))⟩
  f26 := ⟨Tryz.f106.name, by kernel_rfl, Tryz.func106.trans (congrArg some (by kernel_rfl))⟩
  f27 := ⟨Tryz.f107.name, by kernel_rfl, Tryz.func107.trans (congrArg some (by kernel_rfl))⟩
  f28 := Tryz.func108.trans (congrArg some (by kernel_rfl))
  f29 := Tryz.func109.trans (congrArg some (by kernel_rfl))
  f46 := ⟨Tryz.f138.name, by kernel_rfl, Tryz.func138.trans (congrArg some (by kernel_rfl))⟩
  f47 := Tryz.func139.trans (congrArg some (by kernel_rfl))
  f48 := Tryz.func140.trans (congrArg some (by kernel_rfl))
  f49 := ⟨Tryz.f141.name, by kernel_rfl, Tryz.func141.trans (congrArg some (by kernel_rfl))⟩
  f50 := ⟨Tryz.f142.name, by kernel_rfl, Tryz.func142.trans (congrArg some (by kernel_rfl))⟩
  f57 := ⟨Tryz.f157.name, by kernel_rfl, Tryz.func157.trans (congrArg some (by kernel_rfl))⟩
  t0 := Tryz.underlying0
  a0 := Tryz.isAgg0
  z0 := Tryz.sizeOf0
  v0 := Tryz.zeroValue0
  t3 := Tryz.underlying3
  a3 := Tryz.isAgg3
  z3 := Tryz.sizeOf3
  v3 := Tryz.zeroValue3
  t4 := Tryz.underlying4
  a4 := Tryz.isAgg4
  z4 := Tryz.sizeOf4
  v4 := Tryz.zeroValue4
  t5 := Tryz.underlying5
  a5 := Tryz.isAgg5
  z5 := Tryz.sizeOf5
  v5 := Tryz.zeroValue5
  t9 := Tryz.underlying9
  a9 := Tryz.isAgg9
  z9 := Tryz.sizeOf9
  v9 := Tryz.zeroValue9
  t22 := Tryz.underlying53
  a22 := Tryz.isAgg53
  z22 := Tryz.sizeOf53
  v22 := Tryz.zeroValue53
  a24 := Tryz.isAgg38
  z24 := Tryz.sizeOf38
  t25 := Tryz.underlying66
  a25 := Tryz.isAgg66
  z25 := Tryz.sizeOf66
  v25 := Tryz.zeroValue66
  t39 := Tryz.underlying106
  a39 := Tryz.isAgg106
  z39 := Tryz.sizeOf106
  v39 := Tryz.zeroValue106
  t45 := Tryz.underlying145
  a45 := Tryz.isAgg145
  z45 := Tryz.sizeOf145
  v45 := Tryz.zeroValue145
  t46 := Tryz.underlying146
  a46 := Tryz.isAgg146
  z46 := Tryz.sizeOf146
  v46 := Tryz.zeroValue146
  t50 := Tryz.underlying76
  a50 := Tryz.isAgg76
  z50 := Tryz.sizeOf76
  v50 := Tryz.zeroValue76
  t53 := Tryz.underlying152
  a53 := Tryz.isAgg152
  z53 := Tryz.sizeOf152
  v53 := Tryz.zeroValue152
  t55 := Tryz.underlying154
  a55 := Tryz.isAgg154
  z55 := Tryz.sizeOf154
  v55 := Tryz.zeroValue154
  t66 := Tryz.underlying175
  a66 := Tryz.isAgg175
  z66 := Tryz.sizeOf175
  v66 := Tryz.zeroValue175
  t70 := Tryz.underlying179
  a70 := Tryz.isAgg179
  z70 := Tryz.sizeOf179
  v70 := Tryz.zeroValue179
  t76 := Tryz.underlying192
  a76 := Tryz.isAgg192
  z76 := Tryz.sizeOf192
  v76 := Tryz.zeroValue192
  t77 := Tryz.underlying193
  a77 := Tryz.isAgg193
  z77 := Tryz.sizeOf193
  v77 := Tryz.zeroValue193
set_option maxRecDepth 100000 in
theorem SortFunc_VV {H : Heap} {n : Nat} {xs : List Value} {l : List (List Val)} (hr : Row H xs l) (hl : l.length = n) (hn : n ≤ 140737488355328) :
    ConM Tryz.prog 47 [.slice none 0 0, .func (.func 34) #[] #[]] 0 38 n xs true H ⟨true, []⟩ (fun ys (H' : Heap) => ∃ m : List (List Val), Row H' ys m ∧ m.Perm l ∧ m.Pairwise (fun a b => ¬ cmpVs b a < 0)) := by
  have h := sort1_con (T := List Val) rfl sortLay_VV (by kernel_rfl) hr hl hn (f := 34) (cap := []) (cf := cmpVs) ⟨_, Tryz.func34, rfl, by kernel_rfl⟩ cmpVs_swo (fun H' v u s t h0 h1 h2 => by
    obtain ⟨A, n, c, e, h1⟩ := h1
    obtain ⟨B, m, d, e', h2⟩ := h2
    obtain rfl : v = .slice A n c := by simpa using e
    obtain rfl : u = .slice B m d := by simpa using e'
    exact value_CompareRows h1 h2)
  exact h
def an25 : Ann where
  res := fun _ => none
  lend := fun | 22 => true | 29 => true | _ => false
  mt := fun | 47 => some true | _ => none
  sch := fun _ => .done
  opn := true
  lt := fun | 4 => [.slot 6 false [.row 49 38], .slot 16 false [.int .i64]] | _ => []
  tup := tups

theorem vc25 (P : Program) (H : Heap) (lA : Option Addr) (lN lC : Nat) (colsA : Option Addr) (colsN colsC : Nat) (post : Option Addr → Nat → Nat → Heap → Prop) :
  vcFn P tab an25 Tryz.f25 [.slice lA lN lC, .slice colsA colsN colsC] 1 H ⟨false, [(false, [.sl])]⟩ post =
  (  ∀ (b0 : Nat) (O1 : Nat → Option XO), newM noO O1 b0 84 → ∃ (inv3 : Nat → List Value → Int → Heap → OMap → Prop), ∃ (m4 : Nat → List Value → Int → Nat), inv3 0 [] (0 : Int) H O1 ∧ ∀ (H5 :
  Heap), Heap.le H H5 → ∀ (O7 : Nat → Option XO) (n8 : Nat) (xs9 : List Value) (n10 : Int), inv3 n8 xs9 n10 H5 O7 → (decide (n10 < (↑lN : Int)) = true → someA lA ∧ (0 : Int) ≤ n10 ∧ n10 <
  (↑lN : Int) ∧ ∃ (A13 : Option Addr), ∃ (n14 : Nat), ∃ (c15 : Nat), ∃ (n16 : Int), ∃ (n17 : Int), ∃ (A18 : Option Addr), ∃ (n19 : Nat), ∃ (c20 : Nat), Cells H5 lA (Int.toNat n10 * 4) [.slice
  A13 n14 c15, .int .i64 n16, .int .i64 n17, .slice A18 n19 c20] ∧ ∃ (post21 : Bool → Heap → Prop), ConT P 39 [.agg ⟨[.int .i64 n16, .int .i64 n17]⟩] H5 ⟨false, [(false, [.bool])]⟩ post21 ∧ ∀
  (H22 : Heap), Heap.le H5 H22 → ∀ (b24 : Bool), post21 b24 H22 → ((!b24) = true → rng .i64 (n10 + (1 : Int)) ∧ inv3 n8 xs9 (n10 + (1 : Int)) H22 O7 ∧ m4 n8 xs9 (n10 + (1 : Int)) < m4 n8 xs9
  n10) ∧ ((!b24) = false → ∃ (post28 : Option Addr → Nat → Nat → Heap → Prop), ConT P 19 [.slice A13 n14 c15, .slice colsA colsN colsC] H22 ⟨false, [(false, [.sl])]⟩ post28 ∧ ∀ (H29 : Heap),
  Heap.le H22 H29 → ∀ (A31 : Option Addr) (n32 c33 : Nat), post28 A31 n32 c33 H29 → ∃ (post35 : ByteArray → Heap → Prop), ConT P 46 [.slice A31 n32 c33] H29 ⟨false, [(false, [.str])]⟩ post35
  ∧ ∀ (H36 : Heap), Heap.le H29 H36 → ∀ (s38 : ByteArray), post35 s38 H36 → ∃ (es40 : List (Value × Value)), isMap O7 (some b0) 84 es40 ∧ lkIs es40 (.string s38) true [] [] ∧ ((!mhas es40
  (.string s38)) = true → ∃ (es42 : List (Value × Value)), hasM O7 (some b0) 84 es42 ∧ ∀ (O43 : Nat → Option XO), putM O7 O43 (some b0) 84 (mput es42 (.string s38) (.agg ⟨[]⟩)) → (n8 + 1) *
  24 ≤ 140737488355328 ∧ rng .i64 (n10 + (1 : Int)) ∧ inv3 (n8 + 1) (xs9 ++ [.slice A31 n32 c33]) (n10 + (1 : Int)) H36 O43 ∧ m4 (n8 + 1) (xs9 ++ [.slice A31 n32 c33]) (n10 + (1 : Int)) < m4
  n8 xs9 n10) ∧ ((!mhas es40 (.string s38)) = false → rng .i64 (n10 + (1 : Int)) ∧ inv3 n8 xs9 (n10 + (1 : Int)) H36 O7 ∧ m4 n8 xs9 (n10 + (1 : Int)) < m4 n8 xs9 n10))) ∧ (decide (n10 < (↑lN
  : Int)) = false → ∃ (post47 : List Value → Heap → Prop), ConM P 47 [.slice none 0 0, .func (.func 34) ⟨[]⟩ ⟨[]⟩] 0 38 n8 xs9 true H5 ⟨true, []⟩ post47 ∧ ∀ (H48 : Heap), Heap.le H5 H48 → ∀
  (ys50 : List Value), post47 ys50 H48 → ∀ (A52 : Option Addr) (c53 : Nat) (H54 : Heap), Heap.le H48 H54 → Cells H54 A52 0 ys50 → n8 ≤ c53 → post A52 n8 c53 H54)) := by kernel_rfl
theorem constraint_distinct {H : Heap} {A B : Option Addr} {n c m d : Nat} {l : List Tup} {cols : List Int} (hT : TabH H) (hs : Sl H A n c l) (ht : Sl H B m d cols) (hb : m * 32 ≤ 140737488355328) (hf : keyFit l cols) :
    ConT Tryz.prog 25 [.slice A n c, .slice B m d] H shS (fun A' n' c' H' => ∃ vs : List (List Val), Sl H' A' n' c' vs ∧ n' ≤ n ∧ ascV vs ∧ KeysOf vs l cols) := by
  refine con_of_vc (an := an25) (fn := Tryz.f25) mix tabOK Tryz.func25 (by kernel_rfl) (extra := 1) ?_
  rw [vc25]
  have hl := hs.len
  have hbd : n * 64 ≤ 140737488355328 := hs.bnd
  rintro b0 O1 ⟨-, ho1, -⟩
  refine ⟨fun k xs i H' O' => 0 ≤ i ∧ i ≤ n ∧ ∃ out : List (List Val), Row H' xs out ∧ out.length = k ∧ out.Nodup ∧ KeysOf out (l.take i.toNat) cols ∧ O' b0 = some (.mp 84 (setE out)), fun _ _ i => n - i.toNat, ⟨by omega, by omega, [], rfl, rfl, List.nodup_nil, KeysOf.nil, ho1⟩, ?_⟩
  rintro H2 hle O2 k xs i ⟨h0, h1, out, hr, hk, hnd, hko, ho⟩
  have e1 : (i + 1).toNat = i.toNat + 1 := by omega
  have hkl := keys_len hnd hko
  rw [List.length_take] at hkl
  refine ⟨fun hlt => ?_, fun hge => ?_⟩
  · have hlt := of_decide_eq_true hlt
    obtain ⟨hi, hA, _, hc, ⟨A9, n9, c9, A14, n15, c16, rfl, q1, q2, q3, q4⟩⟩ := hs.at hle h0 hlt
    refine ⟨hA, h0, hlt, _, _, _, _, _, _, _, _, hc, _, period_Valid, ?_⟩
    rintro H3 l3 _ rfl
    refine ⟨fun hp => ?_, fun hp => ?_⟩
    · have hp : pOk l[i.toNat].p = false := by simpa using hp
      exact ⟨by simp only [rng]; omega, ⟨by omega, by omega, out, hr.mono l3, hk, hnd, by rw [e1]; exact hko.skip hi hp, ho⟩, by dsimp only; omega⟩
    · have hp : pOk l[i.toNat].p = true := by simpa using hp
      refine ⟨_, keys_Values (q1.mono l3) (ht.mono (hle_trans hle l3)) hb, ?_⟩
      intro H4 l4 A4 n4 c4 h4
      have l24 := hle_trans l3 l4
      refine ⟨_, value_Key (hT.mono (hle_trans hle l24)) h4 (hf _ (List.getElem_mem hi)), ?_⟩
      rintro H5 l5 _ rfl
      have l25 := hle_trans l24 l5
      refine ⟨_, .inr ⟨b0, rfl, ho⟩, setE_look _ _, fun hn => ?_, fun hn => ?_⟩
      · rw [setE_has] at hn
        have hn : keyVals l[i.toNat].vals cols ∉ out := by simpa using hn
        refine ⟨_, ⟨b0, rfl, ho⟩, ?_⟩
        rintro O43 ⟨b49, e49, h49, -⟩
        obtain rfl : b0 = b49 := by simpa using e49
        rw [setE_put hn] at h49
        refine ⟨by omega, by simp only [rng]; omega, ⟨by omega, by omega, out ++ [keyVals l[i.toNat].vals cols], (hr.mono l25).append (Row.one ⟨_, _, _, rfl, h4.mono l5⟩), by simp [hk], ?_, by rw [e1]; exact hko.new hi hp, h49⟩, by dsimp only; omega⟩
        rw [List.nodup_append]
        exact ⟨hnd, by simp, fun a ha b hb' e => hn (by rw [List.mem_singleton] at hb'; rw [← hb', ← e]; exact ha)⟩
      · rw [setE_has] at hn
        have hn : keyVals l[i.toNat].vals cols ∈ out := by simpa using hn
        exact ⟨by simp only [rng]; omega, ⟨by omega, by omega, out, hr.mono l25, hk, hnd, by rw [e1]; exact hko.old hi hn, ho⟩, by dsimp only; omega⟩
  · have hge := of_decide_eq_false hge
    rw [List.take_of_length_le (by omega)] at hko
    refine ⟨_, SortFunc_VV hr hk (by omega), ?_⟩
    rintro H3 l3 ys ⟨vs, hv, hp, ho2⟩ A4 c4 H4 l4 hc4 hn4
    have hnd2 : vs.Nodup := hp.nodup_iff.2 hnd
    exact ⟨vs, hv.sl l4 hc4 (by rw [hp.length_eq, hk]) hn4 (by show k * 24 ≤ _; omega) (by omega), by omega, ascV_of_sorted ho2 hnd2, fun v => by rw [hp.mem_iff]; exact hko v⟩
def an26 : Ann where
  res := fun _ => none
  lend := fun | 18 => true | 25 => true | _ => false
  sch := fun _ => .done
  lt := fun | 3 => [.slot 7 false [.row 34 43], .slot 12 false [.int .i64]] | _ => []
  tup := tups

theorem vc26 (P : Program) (H : Heap) (lA : Option Addr) (lN lC : Nat) (colsA : Option Addr) (colsN colsC : Nat) (keyA : Option Addr) (keyN keyC : Nat) (post : Option Addr → Nat → Nat → Heap → Prop) :
  vcFn P tab an26 Tryz.f26 [.slice lA lN lC, .slice colsA colsN colsC, .slice keyA keyN keyC] 1 H ⟨false, [(false, [.sl])]⟩ post =
  (  ∃ (inv0 : Nat → List Value → Int → Heap → Prop), ∃ (m1 : Nat → List Value → Int → Nat), inv0 0 [] (0 : Int) H ∧ ∀ (H2 : Heap), Heap.le H H2 → ∀ (n4 : Nat) (xs5 : List Value) (n6 : Int),
  inv0 n4 xs5 n6 H2 → (decide (n6 < (↑lN : Int)) = true → someA lA ∧ (0 : Int) ≤ n6 ∧ n6 < (↑lN : Int) ∧ ∃ (A9 : Option Addr), ∃ (n10 : Nat), ∃ (c11 : Nat), ∃ (n12 : Int), ∃ (n13 : Int), ∃
  (A14 : Option Addr), ∃ (n15 : Nat), ∃ (c16 : Nat), Cells H2 lA (Int.toNat n6 * 4) [.slice A9 n10 c11, .int .i64 n12, .int .i64 n13, .slice A14 n15 c16] ∧ ∃ (post17 : Bool → Heap → Prop),
  ConT P 39 [.agg ⟨[.int .i64 n12, .int .i64 n13]⟩] H2 ⟨false, [(false, [.bool])]⟩ post17 ∧ ∀ (H18 : Heap), Heap.le H2 H18 → ∀ (b20 : Bool), post17 b20 H18 → (b20 = true → ∃ (post23 : Option
  Addr → Nat → Nat → Heap → Prop), ConT P 19 [.slice A9 n10 c11, .slice colsA colsN colsC] H18 ⟨false, [(false, [.sl])]⟩ post23 ∧ ∀ (H24 : Heap), Heap.le H18 H24 → ∀ (A26 : Option Addr) (n27
  c28 : Nat), post23 A26 n27 c28 H24 → ∃ (post30 : Int → Heap → Prop), ConT P 34 [.slice A26 n27 c28, .slice keyA keyN keyC] H24 ⟨false, [(false, [.int .i64])]⟩ post30 ∧ ∀ (H31 : Heap),
  Heap.le H24 H31 → ∀ (n33 : Int), post30 n33 H31 → (decide (n33 = (0 : Int)) = true → (n4 + 1) * 64 ≤ 140737488355328 ∧ rng .i64 (n6 + (1 : Int)) ∧ inv0 (n4 + 1) (xs5 ++ [.slice A9 n10 c11,
  .int .i64 n12, .int .i64 n13, .slice A14 n15 c16]) (n6 + (1 : Int)) H31 ∧ m1 (n4 + 1) (xs5 ++ [.slice A9 n10 c11, .int .i64 n12, .int .i64 n13, .slice A14 n15 c16]) (n6 + (1 : Int)) < m1 n4
  xs5 n6) ∧ (decide (n33 = (0 : Int)) = false → rng .i64 (n6 + (1 : Int)) ∧ inv0 n4 xs5 (n6 + (1 : Int)) H31 ∧ m1 n4 xs5 (n6 + (1 : Int)) < m1 n4 xs5 n6)) ∧ (b20 = false → rng .i64 (n6 + (1 :
  Int)) ∧ inv0 n4 xs5 (n6 + (1 : Int)) H18 ∧ m1 n4 xs5 (n6 + (1 : Int)) < m1 n4 xs5 n6)) ∧ (decide (n6 < (↑lN : Int)) = false → ∀ (A39 : Option Addr) (c40 : Nat) (H41 : Heap), Heap.le H2 H41
  → Cells H41 A39 0 xs5 → n4 ≤ c40 → post A39 n4 c40 H41)) := by kernel_rfl
theorem constraint_with {H : Heap} {A B C : Option Addr} {n c m d k e : Nat} {l : List Tup} {cols : List Int} {key : List Val} (hs : Sl H A n c l) (ht : Sl H B m d cols) (hu : Sl H C k e key) (hb : m * 32 ≤ 140737488355328) :
    ConT Tryz.prog 26 [.slice A n c, .slice B m d, .slice C k e] H shS (fun A' n' c' H' => Sl H' A' n' c' (withK l cols key)) := by
  refine con_of_vc (an := an26) (fn := Tryz.f26) mix tabOK Tryz.func26 (by kernel_rfl) (extra := 1) ?_
  rw [vc26]
  have hl := hs.len
  have hbd : n * 64 ≤ 140737488355328 := hs.bnd
  refine ⟨fun k xs i H' => 0 ≤ i ∧ i ≤ n ∧ k = (withK (l.take i.toNat) cols key).length ∧ Row H' xs (withK (l.take i.toNat) cols key), fun _ _ i => n - i.toNat, ⟨by omega, by omega, rfl, rfl⟩, ?_⟩
  rintro H2 hle k xs i ⟨h0, h1, hk, hr⟩
  have hlen := withK_len (l.take i.toNat) cols key
  rw [List.length_take] at hlen
  have e1 : (i + 1).toNat = i.toNat + 1 := by omega
  refine ⟨fun hlt => ?_, fun hge => ?_⟩
  · have hlt := of_decide_eq_true hlt
    obtain ⟨hi, hA, _, hc, hrel⟩ := hs.at hle h0 hlt
    obtain ⟨A9, n9, c9, A14, n15, c16, rfl, q1, q2, q3, q4⟩ := id hrel
    have hsu := withK_succ (cols := cols) (key := key) hi
    have skip : (pOk l[i.toNat].p && decide (cmpVs (keyVals l[i.toNat].vals cols) key = 0)) = false → ∀ {H' : Heap}, Heap.le H2 H' → rng .i64 (i + 1) ∧ (0 ≤ i + 1 ∧ i + 1 ≤ n ∧ k = (withK (l.take (i + 1).toNat) cols key).length ∧ Row H' xs (withK (l.take (i + 1).toNat) cols key)) ∧ n - (i + 1).toNat < n - i.toNat := by
      intro hf H' l'
      rw [if_neg (by simp [hf]), List.append_nil] at hsu
      exact ⟨by simp only [rng]; omega, ⟨by omega, by omega, by rw [e1, hsu]; exact hk, by rw [e1, hsu]; exact hr.mono l'⟩, by omega⟩
    refine ⟨hA, h0, hlt, _, _, _, _, _, _, _, _, hc, _, period_Valid, ?_⟩
    rintro H3 l3 _ rfl
    refine ⟨fun hp => ?_, fun hp => ?_⟩
    · have hp' : pOk l[i.toNat].p = true := hp
      refine ⟨_, keys_Values (q1.mono l3) (ht.mono (hle_trans hle l3)) hb, ?_⟩
      intro H4 l4 A4 n4 c4 h4
      refine ⟨_, value_CompareRows h4 (hu.mono (hle_trans hle (hle_trans l3 l4))), ?_⟩
      rintro H5 l5 _ rfl
      have l35 := hle_trans l3 (hle_trans l4 l5)
      refine ⟨fun he => ?_, fun he => skip (by rw [hp', he]; rfl) l35⟩
      rw [if_pos (by rw [hp', he]; rfl)] at hsu
      refine ⟨by omega, by simp only [rng]; omega, ⟨by omega, by omega, by rw [e1, hsu, List.length_append, ← hk]; rfl, ?_⟩, by dsimp only; omega⟩
      rw [e1, hsu]
      exact (hr.mono l35).append (Row.one (Rep.mono l35 hrel))
    · have hp' : pOk l[i.toNat].p = false := hp
      exact skip (by rw [hp']; rfl) l3
  · have hge := of_decide_eq_false hge
    have hall : l.take i.toNat = l := List.take_of_length_le (by omega)
    have hlen := withK_len l cols key
    rw [hall] at hk hr
    intro A4 c4 H4 l4 hc4 hn4
    exact hr.sl l4 hc4 hk.symm hn4 (by show k * 64 ≤ _; omega) (by omega)
theorem touch_succ {l : List Tup} {g : Per} {i : Nat} (hi : i < l.length) : tlins ((l.take (i + 1)).filter (touch g)) = tlins ((l.take i).filter (touch g)) ++ (if touch g l[i] then l[i].lin else []) := by
  rw [List.take_succ_eq_append_getElem hi, List.filter_append, tlins_append]
  congr 1
  by_cases h : touch g l[i] = true
  · rw [if_pos h, List.filter_cons, if_pos h]; simp [tlins]
  · rw [if_neg h, List.filter_cons, if_neg h]; rfl
theorem touch_le (l : List Tup) (g : Per) (i : Nat) : (tlins ((l.take i).filter (touch g))).length ≤ (tlins l).length :=
  tlins_sub (List.filter_sublist.trans (List.take_sublist i l))
def an27 : Ann where
  res := fun | 34 => some ⟨false, [(false, [.row 35 3])]⟩ | _ => none
  lend := fun _ => false
  sch := fun _ => .done
  lt := fun | 3 => [.slot 5 false [.row 36 3], .slot 10 false [.int .i64]] | _ => []
  tup := tups

theorem vc27 (P : Program) (H : Heap) (lA : Option Addr) (lN lC : Nat) (gapFrom : Int) (gapTo : Int) (post : Option Addr → Nat → Nat → Heap → Prop) :
  vcFn P tab an27 Tryz.f27 [.slice lA lN lC, .agg #[.int .i64 gapFrom, .int .i64 gapTo]] 2 H ⟨false, [(false, [.sl])]⟩ post =
  (  ∃ (inv0 : Nat → List Value → Int → Heap → Prop), ∃ (m1 : Nat → List Value → Int → Nat), inv0 0 [] (0 : Int) H ∧ ∀ (H2 : Heap), Heap.le H H2 → ∀ (n4 : Nat) (xs5 : List Value) (n6 : Int),
  inv0 n4 xs5 n6 H2 → (decide (n6 < (↑lN : Int)) = true → someA lA ∧ (0 : Int) ≤ n6 ∧ n6 < (↑lN : Int) ∧ ∃ (A9 : Option Addr), ∃ (n10 : Nat), ∃ (c11 : Nat), ∃ (n12 : Int), ∃ (n13 : Int), ∃
  (A14 : Option Addr), ∃ (n15 : Nat), ∃ (c16 : Nat), Cells H2 lA (Int.toNat n6 * 4) [.slice A9 n10 c11, .int .i64 n12, .int .i64 n13, .slice A14 n15 c16] ∧ (decide (n13 = gapFrom) = true → ∃
  (ys18 : List Value), Cells H2 A14 0 ys18 ∧ List.length ys18 = n15 * 1 ∧ (n4 + n15) * 8 ≤ 140737488355328 ∧ rng .i64 (n6 + (1 : Int)) ∧ inv0 (n4 + n15) (xs5 ++ ys18) (n6 + (1 : Int)) H2 ∧ m1
  (n4 + n15) (xs5 ++ ys18) (n6 + (1 : Int)) < m1 n4 xs5 n6) ∧ (decide (n13 = gapFrom) = false → (decide (n12 = gapTo) = true → ∃ (ys21 : List Value), Cells H2 A14 0 ys21 ∧ List.length ys21 =
  n15 * 1 ∧ (n4 + n15) * 8 ≤ 140737488355328 ∧ rng .i64 (n6 + (1 : Int)) ∧ inv0 (n4 + n15) (xs5 ++ ys21) (n6 + (1 : Int)) H2 ∧ m1 (n4 + n15) (xs5 ++ ys21) (n6 + (1 : Int)) < m1 n4 xs5 n6) ∧
  (decide (n12 = gapTo) = false → rng .i64 (n6 + (1 : Int)) ∧ inv0 n4 xs5 (n6 + (1 : Int)) H2 ∧ m1 n4 xs5 (n6 + (1 : Int)) < m1 n4 xs5 n6))) ∧ (decide (n6 < (↑lN : Int)) = false → ∀ (A24 :
  Option Addr) (c25 : Nat) (H26 : Heap), Heap.le H2 H26 → Cells H26 A24 0 xs5 → n4 ≤ c25 → ∃ (post30 : Nat → List Value → Heap → Prop), ConT P 48 [.slice A24 n4 c25, .slice none 0 0] H26
  ⟨false, [(false, [.row 35 3])]⟩ post30 ∧ ∀ (H31 : Heap), Heap.le H26 H31 → ∀ (n33 : Nat) (xs34 : List Value), post30 n33 xs34 H31 → ∀ (A36 : Option Addr) (c37 : Nat) (H38 : Heap), Heap.le
  H31 H38 → Cells H38 A36 0 xs34 → n33 ≤ c37 → post A36 n33 c37 H38)) := by kernel_rfl
theorem constraint_around {H : Heap} {A : Option Addr} {n c : Nat} {l : List Tup} {g : Per} (hs : Sl H A n c l) (hb : (tlins l).length * 8 ≤ 140737488355328) :
    ConT Tryz.prog 27 [.slice A n c, .agg ⟨[.int .i64 g.lo, .int .i64 g.hi]⟩] H shS (fun A' n' c' H' => Sl H' A' n' c' (gapV l g).ids) := by
  refine con_of_vc (an := an27) (fn := Tryz.f27) mix tabOK Tryz.func27 (by kernel_rfl) (extra := 2) ?_
  rw [vc27]
  have hl := hs.len; have hbn := hs.bn
  refine ⟨fun k xs i H' => 0 ≤ i ∧ i ≤ n ∧ k = (tlins ((l.take i.toNat).filter (touch g))).length ∧ Row H' xs (tlins ((l.take i.toNat).filter (touch g))), fun _ _ i => n - i.toNat, ⟨by omega, by omega, rfl, rfl⟩, ?_⟩
  rintro H2 hle k xs i ⟨h0, h1, hk, hr⟩
  have e1 : (i + 1).toNat = i.toNat + 1 := by omega
  refine ⟨fun hlt => ?_, fun hge => ?_⟩
  · have hlt := of_decide_eq_true hlt
    obtain ⟨hi, hA, _, hc, ⟨A9, n9, c9, A14, n15, c16, rfl, q1, q2, q3, q4⟩⟩ := hs.at hle h0 hlt
    have hsu := touch_succ (g := g) hi
    have hle2 := touch_le l g (i.toNat + 1)
    have put : touch g l[i.toNat] = true → ∃ ys, Cells H2 A14 0 ys ∧ ys.length = n15 * 1 ∧ (k + n15) * 8 ≤ 140737488355328 ∧ rng .i64 (i + 1) ∧ (0 ≤ i + 1 ∧ i + 1 ≤ n ∧ k + n15 = (tlins ((l.take (i + 1).toNat).filter (touch g))).length ∧ Row H2 (xs ++ ys) (tlins ((l.take (i + 1).toNat).filter (touch g)))) ∧ n - (i + 1).toNat < n - i.toNat := by
      intro h
      rw [if_pos h] at hsu
      have hlen := congrArg List.length hsu
      rw [List.length_append, q4.len] at hlen
      obtain ⟨ys, y1, y2⟩ := q4.row
      refine ⟨ys, y1, by rw [y2.length, q4.len]; rfl, by omega, by simp only [rng]; omega, ⟨by omega, by omega, by rw [e1, hlen, hk], ?_⟩, by omega⟩
      rw [e1, hsu]
      exact hr.append y2
    refine ⟨hA, h0, hlt, _, _, _, _, _, _, _, _, hc, fun h => put ?_, fun h => ⟨fun h2 => put ?_, fun h2 => ?_⟩⟩
    · simp only [touch, h, Bool.true_or]
    · simp only [touch, h2, Bool.or_true]
    · rw [if_neg (by simp only [touch, h, h2]; simp), List.append_nil] at hsu
      exact ⟨by simp only [rng]; omega, ⟨by omega, by omega, by rw [e1, hsu]; exact hk, by rw [e1, hsu]; exact hr⟩, by dsimp only; omega⟩
  · have hge := of_decide_eq_false hge
    have hle2 := touch_le l g i.toNat
    rw [List.take_of_length_le (by omega)] at hk hr hle2
    intro A4 c4 H4 l4 hc4 hn4
    refine ⟨_, bag_MergeLineage (r := 35) (hr.sl l4 hc4 hk.symm hn4 (by show k * 8 ≤ _; omega) (by omega)) (Sl.nil (T := Int)) (by omega), ?_⟩
    rintro H5 l5 k5 xs5 ⟨h5, h6⟩ A6 c6 H6 l6 hc6 hn6
    have e : mergeLin (tlins (l.filter (touch g))) [] = (gapV l g).ids := by
      unfold mergeLin gapV canon; simp
    rw [e] at h5 h6
    have hcl : (gapV l g).ids.length ≤ (tlins (l.filter (touch g))).length := canon_len _
    exact h6.sl l6 hc6 h5.symm hn6 (by show k5 * 8 ≤ _; omega) (by omega)
def an18 : Ann where
  res := fun _ => none
  lend := fun | 21 => true | _ => false
  sch := fun _ => .done
  lt := fun | 3 => [.slot 7 false [.row 31 41], .slot 12 false [.int .i64]] | _ => []
  tup := tups

theorem vc18 (P : Program) (H : Heap) (lA : Option Addr) (lN lC : Nat) (colsA : Option Addr) (colsN colsC : Nat) (keyA : Option Addr) (keyN keyC : Nat) (post : Option Addr → Nat → Nat → Heap → Prop) :
  vcFn P tab an18 Tryz.f18 [.slice lA lN lC, .slice colsA colsN colsC, .slice keyA keyN keyC] 1 H ⟨false, [(false, [.sl])]⟩ post =
  (  ∃ (inv0 : Nat → List Value → Int → Heap → Prop), ∃ (m1 : Nat → List Value → Int → Nat), inv0 0 [] (0 : Int) H ∧ ∀ (H2 : Heap), Heap.le H H2 → ∀ (n4 : Nat) (xs5 : List Value) (n6 : Int),
  inv0 n4 xs5 n6 H2 → (decide (n6 < (↑lN : Int)) = true → someA lA ∧ (0 : Int) ≤ n6 ∧ n6 < (↑lN : Int) ∧ ∃ (A9 : Option Addr), ∃ (n10 : Nat), ∃ (c11 : Nat), ∃ (n12 : Int), ∃ (n13 : Int), ∃
  (A14 : Option Addr), ∃ (n15 : Nat), ∃ (c16 : Nat), Cells H2 lA (Int.toNat n6 * 4) [.slice A9 n10 c11, .int .i64 n12, .int .i64 n13, .slice A14 n15 c16] ∧ ∃ (post17 : Option Addr → Nat → Nat
  → Heap → Prop), ConT P 19 [.slice A9 n10 c11, .slice colsA colsN colsC] H2 ⟨false, [(false, [.sl])]⟩ post17 ∧ ∀ (H18 : Heap), Heap.le H2 H18 → ∀ (A20 : Option Addr) (n21 c22 : Nat), post17
  A20 n21 c22 H18 → ∃ (post24 : Int → Heap → Prop), ConT P 34 [.slice A20 n21 c22, .slice keyA keyN keyC] H18 ⟨false, [(false, [.int .i64])]⟩ post24 ∧ ∀ (H25 : Heap), Heap.le H18 H25 → ∀ (n27
  : Int), post24 n27 H25 → (decide (n27 = (0 : Int)) = true → (n4 + 1) * 16 ≤ 140737488355328 ∧ rng .i64 (n6 + (1 : Int)) ∧ inv0 (n4 + 1) (xs5 ++ [.int .i64 n12, .int .i64 n13]) (n6 + (1 :
  Int)) H25 ∧ m1 (n4 + 1) (xs5 ++ [.int .i64 n12, .int .i64 n13]) (n6 + (1 : Int)) < m1 n4 xs5 n6) ∧ (decide (n27 = (0 : Int)) = false → rng .i64 (n6 + (1 : Int)) ∧ inv0 n4 xs5 (n6 + (1 :
  Int)) H25 ∧ m1 n4 xs5 (n6 + (1 : Int)) < m1 n4 xs5 n6)) ∧ (decide (n6 < (↑lN : Int)) = false → ∀ (A32 : Option Addr) (c33 : Nat) (H34 : Heap), Heap.le H2 H34 → Cells H34 A32 0 xs5 → n4 ≤
  c33 → ∃ (post38 : Option Addr → Nat → Nat → Heap → Prop), ConT P 35 [.slice A32 n4 c33] H34 ⟨false, [(false, [.sl])]⟩ post38 ∧ ∀ (H39 : Heap), Heap.le H34 H39 → ∀ (A41 : Option Addr) (n42
  c43 : Nat), post38 A41 n42 c43 H39 → post A41 n42 c43 H39)) := by kernel_rfl
theorem foreignkey_Covered {H : Heap} {A B C : Option Addr} {n c m d k e : Nat} {l : List Tup} {cols : List Int} {key : List Val} (hs : Sl H A n c l) (ht : Sl H B m d cols) (hu : Sl H C k e key) (hb : m * 32 ≤ 140737488355328) :
    ConT Tryz.prog 18 [.slice A n c, .slice B m d, .slice C k e] H shS (fun A' n' c' H' => Sl H' A' n' c' (covL l cols key)) := by
  refine con_of_vc (an := an18) (fn := Tryz.f18) mix tabOK Tryz.func18 (by kernel_rfl) (extra := 1) ?_
  rw [vc18]
  have hl := hs.len
  have hbd : n * 64 ≤ 140737488355328 := hs.bnd
  have clen : ∀ i, (covT (l.take i) cols key).length ≤ i := fun i => by
    have : (covT (l.take i) cols key).length ≤ (l.take i).length := List.length_filter_le _ _
    rw [List.length_take] at this; omega
  refine ⟨fun k xs i H' => 0 ≤ i ∧ i ≤ n ∧ k = ((covT (l.take i.toNat) cols key).map (·.p)).length ∧ Row H' xs ((covT (l.take i.toNat) cols key).map (·.p)), fun _ _ i => n - i.toNat, ⟨by omega, by omega, rfl, rfl⟩, ?_⟩
  rintro H2 hle k xs i ⟨h0, h1, hk, hr⟩
  have hc1 := clen i.toNat
  have hk' := hk
  rw [List.length_map] at hk'
  have e1 : (i + 1).toNat = i.toNat + 1 := by omega
  refine ⟨fun hlt => ?_, fun hge => ?_⟩
  · have hlt := of_decide_eq_true hlt
    obtain ⟨hi, hA, _, hc, ⟨A9, n9, c9, A14, n15, c16, rfl, q1, q2, q3, q4⟩⟩ := hs.at hle h0 hlt
    have hsu := congrArg (List.map (·.p)) (covT_succ (cols := cols) (key := key) hi)
    rw [List.map_append] at hsu
    refine ⟨hA, h0, hlt, _, _, _, _, _, _, _, _, hc, _, keys_Values q1 (ht.mono hle) hb, ?_⟩
    intro H4 l4 A4 n4 c4 h4
    refine ⟨_, value_CompareRows h4 (hu.mono (hle_trans hle l4)), ?_⟩
    rintro H5 l5 _ rfl
    have l45 := hle_trans l4 l5
    refine ⟨fun he => ?_, fun he => ?_⟩
    · rw [if_pos he] at hsu
      refine ⟨by omega, by simp only [rng]; omega, ⟨by omega, by omega, by rw [e1, hsu, List.length_append, ← hk]; rfl, ?_⟩, by dsimp only; omega⟩
      rw [e1, hsu]
      exact (hr.mono l45).append (Row.one ⟨rfl, q2, q3⟩)
    · rw [if_neg (by rw [he]; simp), List.map_nil, List.append_nil] at hsu
      exact ⟨by simp only [rng]; omega, ⟨by omega, by omega, by rw [e1, hsu]; exact hk, by rw [e1, hsu]; exact hr.mono l45⟩, by dsimp only; omega⟩
  · have hge := of_decide_eq_false hge
    rw [List.take_of_length_le (by omega)] at hk hr
    intro A4 c4 H4 l4 hc4 hn4
    exact ⟨_, periodset_Normalize (hr.sl l4 hc4 hk.symm hn4 (by show k * 16 ≤ _; omega) (by omega)), fun _ _ _ _ _ h => h⟩
end Go.Vc
/- Gaps: the program's and the reference's. -/
namespace Go.Vc
open Go Go.Proofs Go.Shelf
theorem withK_lins (l : List Tup) (cols : List Int) (v : List Val) : (tlins (withK l cols v)).length ≤ (tlins l).length := tlins_sub List.filter_sublist
def an12 : Ann where
  res := fun _ => none
  lend := fun _ => false
  sch := fun | 11 => (tk [0, 1, 2, 3, 4, 5, 6, 7, 8, 9, 10, 11] (.alt 12 (.alt 13 .done .fin) .fin)) | 12 => (tk [0, 1, 2, 3] (.alt 4 (tk [5] (.alt 6 (.alt 7 (tk [8] .done) .fin) .fin)) .fin)) | _ => .done
  lt := fun | 3 => [.slot 5 false [.row 59 47], .slot 16 false [.int .i64]] | 9 => [.slot 5 false [.row 60 47], .slot 10 false [.int .i64]] | _ => []
  tup := tups

theorem vc12 (P : Program) (H : Heap) (lA : Option Addr) (lN lC : Nat) (colsA : Option Addr) (colsN colsC : Nat) (post : Option Addr → Nat → Nat → Heap → Prop) :
  vcFn P tab an12 Tryz.f12 [.slice lA lN lC, .slice colsA colsN colsC] 2 H ⟨false, [(false, [.sl])]⟩ post =
  (  ∃ (post0 : Option Addr → Nat → Nat → Heap → Prop), ConT P 25 [.slice lA lN lC, .slice colsA colsN colsC] H ⟨false, [(false, [.sl])]⟩ post0 ∧ ∀ (H1 : Heap), Heap.le H H1 → ∀ (A3 : Option
  Addr) (n4 c5 : Nat), post0 A3 n4 c5 H1 → ∃ (inv7 : Nat → List Value → Int → Heap → Prop), ∃ (m8 : Nat → List Value → Int → Nat), inv7 0 [] (0 : Int) H1 ∧ ∀ (H9 : Heap), Heap.le H1 H9 → ∀
  (n11 : Nat) (xs12 : List Value) (n13 : Int), inv7 n11 xs12 n13 H9 → (decide (n13 < (↑n4 : Int)) = true → someA A3 ∧ (0 : Int) ≤ n13 ∧ n13 < (↑n4 : Int) ∧ ∃ (A16 : Option Addr), ∃ (n17 :
  Nat), ∃ (c18 : Nat), Cells H9 A3 (Int.toNat n13 * 1) [.slice A16 n17 c18] ∧ ∃ (post19 : Option Addr → Nat → Nat → Heap → Prop), ConT P 18 [.slice lA lN lC, .slice colsA colsN colsC, .slice
  A16 n17 c18] H9 ⟨false, [(false, [.sl])]⟩ post19 ∧ ∀ (H20 : Heap), Heap.le H9 H20 → ∀ (A22 : Option Addr) (n23 c24 : Nat), post19 A22 n23 c24 H20 → (decide ((↑n23 : Int) < (2 : Int)) = true
  → rng .i64 (n13 + (1 : Int)) ∧ inv7 n11 xs12 (n13 + (1 : Int)) H20 ∧ m8 n11 xs12 (n13 + (1 : Int)) < m8 n11 xs12 n13) ∧ (decide ((↑n23 : Int) < (2 : Int)) = false → ∃ (post28 : Option Addr
  → Nat → Nat → Heap → Prop), ConT P 26 [.slice lA lN lC, .slice colsA colsN colsC, .slice A16 n17 c18] H20 ⟨false, [(false, [.sl])]⟩ post28 ∧ ∀ (H29 : Heap), Heap.le H20 H29 → ∀ (A31 :
  Option Addr) (n32 c33 : Nat), post28 A31 n32 c33 H29 → ∃ (inv35 : Nat → List Value → Int → Heap → Prop), ∃ (m36 : Nat → List Value → Int → Nat), inv35 n11 xs12 (1 : Int) H29 ∧ ∀ (H37 :
  Heap), Heap.le H29 H37 → ∀ (n39 : Nat) (xs40 : List Value) (n41 : Int), inv35 n39 xs40 n41 H37 → (decide (n41 < (↑n23 : Int)) = true → rng .i64 (n41 - (1 : Int)) ∧ someA A22 ∧ (0 : Int) ≤
  n41 - (1 : Int) ∧ n41 - (1 : Int) < (↑n23 : Int) ∧ ∃ (n44 : Int), Cells H37 A22 (Int.toNat (n41 - (1 : Int)) * 2 + 1) [.int .i64 n44] ∧ someA A22 ∧ (0 : Int) ≤ n41 ∧ n41 < (↑n23 : Int) ∧ ∃
  (n45 : Int), Cells H37 A22 (Int.toNat n41 * 2 + 0) [.int .i64 n45] ∧ ∃ (post46 : Option Addr → Nat → Nat → Heap → Prop), ConT P 27 [.slice A31 n32 c33, .agg ⟨[.int .i64 n44, .int .i64
  n45]⟩] H37 ⟨false, [(false, [.sl])]⟩ post46 ∧ ∀ (H47 : Heap), Heap.le H37 H47 → ∀ (A49 : Option Addr) (n50 c51 : Nat), post46 A49 n50 c51 H47 → (n39 + 1) * 40 ≤ 140737488355328 ∧ rng .i64
  (n41 + (1 : Int)) ∧ inv35 (n39 + 1) (xs40 ++ [.int .i64 n44, .int .i64 n45, .slice A49 n50 c51]) (n41 + (1 : Int)) H47 ∧ m36 (n39 + 1) (xs40 ++ [.int .i64 n44, .int .i64 n45, .slice A49 n50
  c51]) (n41 + (1 : Int)) < m36 n39 xs40 n41) ∧ (decide (n41 < (↑n23 : Int)) = false → rng .i64 (n13 + (1 : Int)) ∧ inv7 n39 xs40 (n13 + (1 : Int)) H37 ∧ m8 n39 xs40 (n13 + (1 : Int)) < m8
  n11 xs12 n13))) ∧ (decide (n13 < (↑n4 : Int)) = false → ∀ (A55 : Option Addr) (c56 : Nat) (H57 : Heap), Heap.le H9 H57 → Cells H57 A55 0 xs12 → n11 ≤ c56 → post A55 n11 c56 H57)) := by kernel_rfl
set_option maxHeartbeats 1000000 in
set_option maxRecDepth 100000 in
theorem constraint_Gaps {H : Heap} {A B : Option Addr} {n c m d : Nat} {l : List Tup} {cols : List Int} (hT : TabH H) (hs : Sl H A n c l) (ht : Sl H B m d cols) (hb : m * 32 ≤ 140737488355328) (hn : n ≤ 1000) (hlin : (tlins l).length * 8 ≤ 140737488355328) (hf : keyFit l cols) :
    ConT Tryz.prog 12 [.slice A n c, .slice B m d] H shS (fun A' n' c' H' => ∃ vs : List (List Val), ascV vs ∧ KeysOf vs l cols ∧ Sl H' A' n' c' (vs.flatMap (gapsK l cols))) := by
  refine con_of_vc (an := an12) (fn := Tryz.f12) mix tabOK Tryz.func12 (by kernel_rfl) (extra := 2) ?_
  rw [vc12]
  have hl := hs.len
  refine ⟨_, constraint_distinct hT hs ht hb hf, ?_⟩
  rintro H1 l1 A3 n4 c5 ⟨vs, hvs, hn4, hasc, hmem⟩
  have hvl := hvs.len
  refine ⟨fun k xs i H' => 0 ≤ i ∧ i ≤ n4 ∧ Row H' xs ((vs.take i.toNat).flatMap (gapsK l cols)) ∧ k = ((vs.take i.toNat).flatMap (gapsK l cols)).length ∧ k ≤ i.toNat * 1000, fun _ _ i => n4 - i.toNat, ⟨by omega, by omega, rfl, rfl, by omega⟩, ?_⟩
  rintro H9 l9 k xs i ⟨i0, i1, hr, hk, hkb⟩
  refine ⟨fun hlt => ?_, fun hge => ?_⟩
  · have hlt := of_decide_eq_true hlt
    obtain ⟨hi', hA, _, hc, ⟨A9, n9, c9, rfl, q1⟩⟩ := hvs.at l9 i0 hlt
    have e1 : (i + 1).toNat = i.toNat + 1 := by omega
    have hsu : (vs.take (i + 1).toNat).flatMap (gapsK l cols) = (vs.take i.toNat).flatMap (gapsK l cols) ++ gapsK l cols vs[i.toNat] := by
      rw [e1, List.take_succ_eq_append_getElem hi', List.flatMap_append]; simp
    have hFl := gapsK_len l cols vs[i.toNat]
    have hCl := covL_len l cols vs[i.toNat]
    have hWl := withK_lins l cols vs[i.toNat]
    generalize vs[i.toNat] = v at q1 hsu hFl hCl hWl
    have l19 := hle_trans l1 l9
    refine ⟨hA, i0, hlt, _, _, _, hc, _, foreignkey_Covered (hs.mono l19) (ht.mono l19) q1 hb, ?_⟩
    intro H20 l20 A22 n23 c24 hp
    have hpl := hp.len
    have hF : gapsK l cols v = gapsGo (withK l cols v) (covL l cols v) := rfl
    refine ⟨fun h2 => ?_, fun h2 => ?_⟩
    · have h2 := of_decide_eq_true h2
      rw [gaps_few (by omega)] at hF
      rw [hF, List.append_nil] at hsu
      exact ⟨by simp only [rng]; omega, ⟨by omega, by omega, by rw [hsu]; exact hr.mono l20, by rw [hsu]; exact hk, by omega⟩, by dsimp only; omega⟩
    refine ⟨_, constraint_with (hs.mono (hle_trans l19 l20)) (ht.mono (hle_trans l19 l20)) (q1.mono l20) hb, ?_⟩
    intro H27 l27 A31 n32 c33 hw
    have hwn := hw.len
    generalize withK l cols v = S at hw hF hWl hwn
    generalize covL l cols v = cs at hp hF hpl hCl
    generalize (vs.take i.toNat).flatMap (gapsK l cols) = O0 at hr hk hsu
    subst hk
    refine ⟨fun k2 xs2 j H' => 1 ≤ j ∧ (j ≤ n23 ∨ j = 1) ∧ ∃ w : List Vio, Row H' xs2 (O0 ++ w) ∧ k2 = (O0 ++ w).length ∧ w.length + 1 ≤ j.toNat ∧ gapsK l cols v = w ++ gapsGo S (cs.drop (j.toNat - 1)), fun _ _ j => n23 - j.toNat,
      ⟨by omega, by omega, [], by simpa using (hr.mono (hle_trans l20 l27)), by simp, by simp, by simpa using hF⟩, ?_⟩
    rintro H35 l35 k2 xs2 j ⟨j0, j1, w, hw2, rfl, hwj, he⟩
    have hjr : rng .i64 (j + 1) := by simp only [rng]; omega
    refine ⟨fun hlj => ?_, fun hgj => ?_⟩
    · have hlj := of_decide_eq_true hlj
      have hj : j.toNat < cs.length := by omega
      have l2035 := hle_trans l27 l35
      obtain ⟨_, hB, _, hd, ⟨rfl, r1, r2⟩⟩ := hp.at l2035 (i := j - 1) (by omega) (by omega)
      obtain ⟨_, hB1, _, hd1, ⟨rfl, r3, r4⟩⟩ := hp.at l2035 (i := j) (by omega) hlj
      have e2 : (j - 1).toNat = j.toNat - 1 := by omega
      simp only [e2] at r1 r2 hd
      rw [gaps_at (by omega) hj] at he
      have hd := hd.at1 (k := 1) rfl
      have hd1 := hd1.at1 (k := 0) rfl
      generalize cs[j.toNat - 1].hi = f at *
      generalize cs[j.toNat].lo = t at *
      refine ⟨by simp only [rng]; omega, hB, by omega, by omega, _, by rw [e2]; exact hd, hB1, by omega, hlj, _, hd1, _, constraint_around (g := ⟨f, t⟩) (hw.mono l35) (by omega), ?_⟩
      intro H46 l46 A49 n50 c51 hids
      have hle : (O0 ++ w).length ≤ 2000000 := by
        rw [List.length_append]; omega
      refine ⟨by omega, hjr, ⟨by omega, by omega, w ++ [gapV S ⟨f, t⟩], ?_, by simp; omega, by simp; omega, ?_⟩, by dsimp only; omega⟩
      · rw [← List.append_assoc]
        exact (hw2.mono l46).append (Row.one ⟨_, _, _, rfl, r2, r3, hids⟩)
      · rw [he, show (j + 1).toNat - 1 = j.toNat from by omega]; simp
    · have hgj := of_decide_eq_false hgj
      rw [gaps_end (by omega) (by omega), List.append_nil] at he
      refine ⟨by simp only [rng]; omega, ⟨by omega, by omega, by rw [hsu, he]; exact hw2, by rw [hsu, he], ?_⟩, by dsimp only; omega⟩
      rw [List.length_append, ← he]; omega
  · have hge := of_decide_eq_false hge
    rw [List.take_of_length_le (by omega)] at hr hk
    intro A4 c4 H4 l4 hc4 hn4'
    exact ⟨vs, hasc, hmem, hr.sl l4 hc4 hk.symm hn4' (by show k * 40 ≤ _; omega) (by omega)⟩
end Go.Vc
/- Violations of a constraint; the sanity check. -/
namespace Go.Vc
open Go Go.Proofs Go.Shelf
theorem ConT.post {P : Program} {f : FuncId} {args : List Value} {H : Heap} {p q : Option Addr → Nat → Nat → Heap → Prop} (h : ConT P f args H shS p) (hpq : ∀ A n c H', p A n c H' → q A n c H') : ConT P f args H shS q := by
  refine ⟨h.1, fun w hw => (h.2 w hw).mono ?_⟩
  rintro e w' ⟨v, H', nr, rfl, ⟨A, n, c, v', e1, e2, e3, e4⟩, hr⟩
  exact ⟨v, H', nr, rfl, ⟨A, n, c, v', e1, e2, e3, hpq _ _ _ _ e4⟩, hr⟩
/- what a call must be handed -/
structure Fit (l : List Tup) (cols : List Int) : Prop where
  few : l.length < 300
  clen : cols.length * 32 ≤ 140737488355328
  lins : (tlins l).length * 8 ≤ 140737488355328
  keys : keyFit l cols
section
variable {H : Heap} {A B : Option Addr} {n c m d : Nat} {l : List Tup} {cols : List Int}
theorem con_Gaps (hT : TabH H) (hs : Sl H A n c l) (ht : Sl H B m d cols) (hf : Fit l cols) :
    ConT Tryz.prog 12 [.slice A n c, .slice B m d] H shS (fun A' n' c' H' => Sl H' A' n' c' (gapsAll l cols)) := by
  have h1 := hs.len; have h2 := ht.len; have h3 := hf.few; have h4 := hf.clen
  have h := constraint_Gaps hT hs ht (by omega) (by omega) hf.lins hf.keys
  refine h.post fun A' n' c' H' => ?_
  rintro ⟨vs, a, b, s⟩
  rw [keyList_eq a b] at s
  exact s
theorem con_Keys (hs : Sl H A n c l) (ht : Sl H B m d cols) (hf : Fit l cols) :
    ConT Tryz.prog 32 [.slice A n c, .slice B m d] H shS (fun A' n' c' H' => Sl H' A' n' c' (keysAll l cols)) := by
  have h1 := hs.len; have h2 := ht.len; have h3 := hf.few; have h4 := hf.clen
  have h := keys_Violations hs ht (by omega) (by omega) hf.lins
  refine h.post fun A' n' c' H' => ?_
  rintro ⟨g, a, b, s⟩
  rw [viol_ref a b (keyList_asc l cols) (keyList_keys l cols)] at s
  exact s
def an14 : Ann where
  res := fun _ => none
  lend := fun _ => false
  sch := fun _ => .done
  lt := fun _ => []
  tup := tups

theorem vc14 (P : Program) (H : Heap) (lA : Option Addr) (lN lC : Nat) (kind : Int) (colsA : Option Addr) (colsN colsC : Nat) (post : Option Addr → Nat → Nat → Heap → Prop) :
  vcFn P tab an14 Tryz.f14 [.slice lA lN lC, .int .i64 kind, .slice colsA colsN colsC] 0 H ⟨false, [(false, [.sl])]⟩ post =
  (  (decide (kind = (1 : Int)) = true → ∃ (post1 : Option Addr → Nat → Nat → Heap → Prop), ConT P 12 [.slice lA lN lC, .slice colsA colsN colsC] H ⟨false, [(false, [.sl])]⟩ post1 ∧ ∀ (H2 :
  Heap), Heap.le H H2 → ∀ (A4 : Option Addr) (n5 c6 : Nat), post1 A4 n5 c6 H2 → post A4 n5 c6 H2) ∧ (decide (kind = (1 : Int)) = false → (decide (kind = (2 : Int)) = true → ∃ (post10 : Option
  Addr → Nat → Nat → Heap → Prop), ConT P 32 [.slice lA lN lC, .slice colsA colsN colsC] H ⟨false, [(false, [.sl])]⟩ post10 ∧ ∀ (H11 : Heap), Heap.le H H11 → ∀ (A13 : Option Addr) (n14 c15 :
  Nat), post10 A13 n14 c15 H11 → post A13 n14 c15 H11) ∧ (decide (kind = (2 : Int)) = false → post none 0 0 H))) := by kernel_rfl
theorem constraint_Violations {kind : Int} (hT : TabH H) (hs : Sl H A n c l) (ht : Sl H B m d cols) (hf : Fit l cols) :
    ConT Tryz.prog 14 [.slice A n c, .int .i64 kind, .slice B m d] H shS (fun A' n' c' H' => Sl H' A' n' c' (consV l kind cols)) := by
  refine con_of_vc (an := an14) (fn := Tryz.f14) mix tabOK Tryz.func14 (by kernel_rfl) (extra := 0) ?_
  rw [vc14]
  refine ⟨fun h1 => ⟨_, con_Gaps hT hs ht hf, fun H1 l1 A1 n1 c1 h => ?_⟩, fun h1 => ⟨fun h2 => ⟨_, con_Keys hs ht hf, fun H1 l1 A1 n1 c1 h => ?_⟩, fun h2 => ?_⟩⟩
  · rw [consV, if_pos (of_decide_eq_true h1)]; exact h
  · rw [consV, if_neg (of_decide_eq_false h1), if_pos (of_decide_eq_true h2)]; exact h
  · rw [consV, if_neg (of_decide_eq_false h1), if_neg (of_decide_eq_false h2)]; exact Sl.nil
def an15 : Ann where
  res := fun _ => none
  lend := fun _ => false
  sch := fun _ => .done
  lt := fun _ => []
  tup := tups

theorem vc15 (P : Program) (H : Heap) (lA : Option Addr) (lN lC : Nat) (kind : Int) (colsA : Option Addr) (colsN colsC : Nat) (post : Bool → Heap → Prop) :
  vcFn P tab an15 Tryz.f15 [.slice lA lN lC, .int .i64 kind, .slice colsA colsN colsC] 0 H ⟨false, [(false, [.bool])]⟩ post =
  (  ∃ (post0 : Option Addr → Nat → Nat → Heap → Prop), ConT P 14 [.slice lA lN lC, .int .i64 kind, .slice colsA colsN colsC] H ⟨false, [(false, [.sl])]⟩ post0 ∧ ∀ (H1 : Heap), Heap.le H H1 → ∀
  (A3 : Option Addr) (n4 c5 : Nat), post0 A3 n4 c5 H1 → post (decide ((↑n4 : Int) = (0 : Int))) H1) := by kernel_rfl
theorem constraint_Holds {kind : Int} (hT : TabH H) (hs : Sl H A n c l) (ht : Sl H B m d cols) (hf : Fit l cols) :
    ConT Tryz.prog 15 [.slice A n c, .int .i64 kind, .slice B m d] H shB (fun r _ => r = decide ((consV l kind cols).length = 0)) := by
  refine con_of_vc (an := an15) (fn := Tryz.f15) mix tabOK Tryz.func15 (by kernel_rfl) (extra := 0) ?_
  rw [vc15]
  refine ⟨_, constraint_Violations hT hs ht hf, fun H1 l1 A1 n1 c1 h => ?_⟩
  have hl := h.len
  rw [hl, Bool.eq_iff_iff, decide_eq_true_eq, decide_eq_true_eq]; omega
end
/- the texts of keys fit where the values' strings do -/
theorem digits_len : ∀ (k u : Nat), u < 10 ^ (k + 1) → (Lib.decDigits u).length ≤ k + 1
  | 0, u, h => by rw [Lib.decDigits, dif_pos (by omega)]; simp
  | k + 1, u, h => by
    rw [Lib.decDigits]
    split
    · simp
    · rw [List.length_append, List.length_singleton]
      have := digits_len k (u / 10) (by rw [Nat.div_lt_iff_lt_mul (by decide)]; rw [Nat.pow_succ] at h; exact h)
      omega
theorem itoa_len {n : Int} (h : rng .i64 n) : (Lib.itoa n).length ≤ 21 := by
  simp only [rng] at h
  unfold Lib.itoa
  split
  · have := digits_len 19 n.natAbs (by have : (10 : Nat) ^ (19 + 1) = 100000000000000000000 := by decide
                                       omega)
    first | (rw [List.length_cons]; omega) | (simp only [List.length_cons]; omega)
  · have := digits_len 19 n.natAbs (by have : (10 : Nat) ^ (19 + 1) = 100000000000000000000 := by decide
                                       omega)
    first | omega | (have e : n.toNat = n.natAbs := by omega
                     rw [e]; omega)
def valOk (b : Nat) (v : Val) : Prop := rng .i64 v.kind ∧ rng .i64 v.n ∧ v.s.size ≤ b
theorem valBytes_len {b : Nat} (hb : b ≤ 140737488355328) {v : Val} (h : valOk b v) : (valBytes v).length ≤ 66 + b := by
  have h1 := itoa_len h.1; have h2 := itoa_len h.2.1
  have h3 := itoa_len (n := (v.s.size : Int)) (by have := h.2.2; simp only [rng]; omega)
  have h4 := h.2.2
  have e : v.s.data.toList.length = v.s.size := Array.length_toList
  simp only [valBytes, List.length_append, List.length_cons]; omega
theorem keyBytes_len {b : Nat} (hb : b ≤ 140737488355328) : ∀ {vs : List Val}, (∀ v ∈ vs, valOk b v) → (keyBytes vs).length ≤ vs.length * (66 + b)
  | [], _ => by simp [keyBytes]
  | v :: vs, h => by
    have h1 := valBytes_len hb (h v (by simp))
    have h2 := keyBytes_len hb (vs := vs) fun x hx => h x (by simp [hx])
    have e : (keyBytes (v :: vs)).length = (valBytes v).length + (keyBytes vs).length := by simp [keyBytes]
    rw [e, List.length_cons, Nat.succ_mul]; omega
theorem keyVal_ok {b : Nat} {vals : List Val} {i : Int} (h : ∀ v ∈ vals, valOk b v) : valOk b (keyVal vals i) := by
  have z : valOk b val0 := ⟨by decide, by decide, Nat.zero_le _⟩
  unfold keyVal
  split
  · rw [List.getD_eq_getElem?_getD]
    rcases hv : vals[i.toNat]? with _ | v
    · exact z
    · exact h _ (List.mem_of_getElem? hv)
  · exact z
theorem keyFit_of {l : List Tup} {cols : List Int} {b : Nat} (hb : b ≤ 1048576) (hc : cols.length ≤ 1048576) (h : ∀ t ∈ l, ∀ v ∈ t.vals, valOk b v) : keyFit l cols := by
  intro t ht
  have h1 : ∀ v ∈ keyVals t.vals cols, valOk b v := fun v hv => by
    obtain ⟨i, -, rfl⟩ := List.mem_map.1 hv
    exact keyVal_ok (h t ht)
  have h2 := keyBytes_len (by omega) h1
  have h3 : (keyVals t.vals cols).length = cols.length := List.length_map _
  rw [h3] at h2
  refine Nat.le_trans h2 (Nat.le_trans (Nat.mul_le_mul hc (show 66 + b ≤ 1048642 by omega)) (by decide))
end Go.Vc
/- The laws of chapter 24. -/
namespace Go.Vc
open Go Go.Proofs Go.Shelf
def an17 : Ann where
  res := fun _ => none
  lend := fun _ => false
  sch := fun _ => .done
  lt := fun _ => []
  tup := tups

theorem vc17 (P : Program) (H : Heap) (x : Int) (post : Option Addr → Nat → Nat → Heap → Prop) :
  vcFn P tab an17 Tryz.f17 [.int .u16 x] 0 H ⟨false, [(false, [.sl])]⟩ post =
  (  ∀ (A0 : Option Addr) (c1 : Nat) (H2 : Heap), Heap.le H H2 → Cells H2 A0 0 [.int .i64 (0 : Int)] → 1 ≤ c1 → ∀ (A6 : Option Addr) (c7 : Nat) (H8 : Heap), Heap.le H2 H8 → Cells H8 A6 0 [.int
  .i64 (1 : Int)] → 1 ≤ c7 → ∀ (A12 : Option Addr) (c13 : Nat) (H14 : Heap), Heap.le H8 H14 → Cells H14 A12 0 [.int .i64 (0 : Int), .int .i64 (1 : Int)] → 2 ≤ c13 → ∀ (A18 : Option Addr) (c19
  : Nat) (H20 : Heap), Heap.le H14 H20 → Cells H20 A18 0 [.int .i64 (1 : Int), .int .i64 (0 : Int)] → 2 ≤ c19 → (4 : Int) ≠ (0 : Int) ∧ (0 : Int) ≤ Int.tmod x (4 : Int) ∧ Int.tmod x (4 : Int)
  < (↑4 : Int) ∧ ∃ (A24 : Option Addr), ∃ (n25 : Nat), ∃ (c26 : Nat), win [.slice A0 1 c1, .slice A6 1 c7, .slice A12 2 c13, .slice A18 2 c19] (Int.toNat (Int.tmod x (4 : Int)) * 1) 1 =
  [.slice A24 n25 c26] ∧ post A24 n25 c26 H20) := by kernel_rfl
theorem law24_columns {x : Int} {H : Heap} (hx : 0 ≤ x) : ConT Tryz.prog 17 [.int .u16 x] H shS (fun A n c H' => ∃ cols : List Int, Sl H' A n c cols ∧ n ≤ 2) := by
  refine con_of_vc (an := an17) (fn := Tryz.f17) mix tabOK Tryz.func17 (by kernel_rfl) (extra := 0) ?_
  rw [vc17]
  intro A0 c1 H2 l2 hc2 hn2 A6 c7 H8 l8 hc8 hn8 A12 c13 H14 l14 hc14 hn14 A18 c19 H20 l20 hc20 hn20
  have one : ∀ {H' : Heap} {A : Option Addr} {c : Nat} {u : Int}, rng .i64 u → Heap.le H' H20 → Cells H' A 0 [.int .i64 u] → 1 ≤ c → Sl H20 A 1 c [u] := fun {H' A c u} hu hle hc hn =>
    Row.sl (H := H20) (T := Int) (l := [u]) ⟨[_], [], rfl, ⟨rfl, hu⟩, rfl⟩ (hle_refl _) (hc.mono hle) rfl hn (by decide) (by decide)
  have two : ∀ {H' : Heap} {A : Option Addr} {c : Nat} {u v : Int}, rng .i64 u → rng .i64 v → Heap.le H' H20 → Cells H' A 0 [.int .i64 u, .int .i64 v] → 2 ≤ c → Sl H20 A 2 c [u, v] := fun {H' A c u v} hu hv hle hc hn =>
    Row.sl (H := H20) (T := Int) (l := [u, v]) ⟨[_], [_], rfl, ⟨rfl, hu⟩, [_], [], rfl, ⟨rfl, hv⟩, rfl⟩ (hle_refl _) (hc.mono hle) rfl hn (by decide) (by decide)
  have h6 := tmod_bd hx (m := 4) (by decide)
  have l14' := l20
  have l8' := hle_trans l14 l14'
  have l2' := hle_trans l8 l8'
  refine ⟨by decide, h6.1, h6.2, ?_⟩
  generalize Int.tmod x 4 = k at h6
  have hk : k = 0 ∨ k = 1 ∨ k = 2 ∨ k = 3 := by omega
  rcases hk with rfl | rfl | rfl | rfl
  · exact ⟨_, _, _, rfl, _, one (by decide) l2' hc2 hn2, by decide⟩
  · exact ⟨_, _, _, rfl, _, one (by decide) l8' hc8 hn8, by decide⟩
  · exact ⟨_, _, _, rfl, _, two (by decide) (by decide) l14' hc14 hn14, by decide⟩
  · exact ⟨_, _, _, rfl, _, two (by decide) (by decide) (hle_refl _) hc20 hn20, by decide⟩
/- the sanity check's tuples -/
def awG : Tup := ⟨[lv0 0, lv1 0], ⟨7, 9⟩, [2]⟩
theorem gw_gaps : gapsAll [awA, awG] [0] = [⟨⟨5, 7⟩, [1, 2]⟩] := by
  have k : keyList [awA, awG] [0] = [[lv0 0]] := by decide +kernel
  have w : withK [awA, awG] [0] [lv0 0] = [awA, awG] := by decide +kernel
  have c : covL [awA, awG] [0] [lv0 0] = [⟨0, 5⟩, ⟨7, 9⟩] := by decide +kernel
  have t : tlins ([awA, awG].filter (touch ⟨5, 7⟩)) = [1, 2] := by decide +kernel
  have cn : canon [1, 2] = [1, 2] := asc_unique (canon_asc _) (by decide) fun y => canon_mem
  unfold gapsAll
  rw [k, List.flatMap_cons, List.flatMap_nil, List.append_nil, gapsK, w, c, gapsGo, gapsGo, gapV, t, cn]
  simp
theorem gw_keys : keysAll [awA, awG] [0] = [] := by
  have k : keyList [awA, awG] [0] = [[lv0 0]] := by decide +kernel
  have w : withK [awA, awG] [0] [lv0 0] = [awA, awG] := by decide +kernel
  have t : tends [awA, awG] = [0, 5, 7, 9] := by decide +kernel
  have cn : canon [0, 5, 7, 9] = [0, 5, 7, 9] := asc_unique (canon_asc _) (by decide) fun y => canon_mem
  unfold keysAll
  rw [k, List.flatMap_cons, List.flatMap_nil, List.append_nil, keyV, w, t, cn]
  decide +kernel
theorem gw_keys2 : (keysAll [awA, awA] [0]).length = 1 := by
  have k : keyList [awA, awA] [0] = [[lv0 0]] := by decide +kernel
  have w : withK [awA, awA] [0] [lv0 0] = [awA, awA] := by decide +kernel
  have t : tends [awA, awA] = [0, 5, 0, 5] := by decide +kernel
  have cn : canon [0, 5, 0, 5] = [0, 5] := asc_unique (canon_asc _) (by decide) fun y => by rw [canon_mem]; simp only [List.mem_cons, List.not_mem_nil, or_false]; omega
  unfold keysAll
  rw [k, List.flatMap_cons, List.flatMap_nil, List.append_nil, keyV, w, t, cn]
  decide +kernel
theorem lv0_val {x : Int} (hx : 0 ≤ x) : valOk 2 (lv0 x) := by
  refine ⟨(lv0_ok hx).1, (lv0_ok hx).2.1, ?_⟩
  unfold lv0; split
  · decide
  · exact Nat.zero_le _
theorem lv1_val {x : Int} (hx : 0 ≤ x) : valOk 2 (lv1 x) := by
  refine ⟨(lv1_ok hx).1, (lv1_ok hx).2.1, ?_⟩
  unfold lv1; split
  · decide
  · rcases tmod3 hx with e | e | e <;> simp only [e] <;> unfold txt <;> decide
theorem two_val {x y : Int} (hx : 0 ≤ x) (hy : 0 ≤ y) : ∀ v ∈ [lv0 x, lv1 y], valOk 2 v := by
  intro v hv
  simp only [List.mem_cons, List.not_mem_nil, or_false] at hv
  rcases hv with rfl | rfl
  · exact lv0_val hx
  · exact lv1_val hy
theorem fit_of {l : List Tup} {cols : List Int} (h1 : l.length < 300) (h2 : cols.length ≤ 2) (h3 : (tlins l).length ≤ 100000) (h4 : ∀ t ∈ l, ∀ v ∈ t.vals, valOk 2 v) : Fit l cols :=
  ⟨h1, by omega, by omega, keyFit_of (b := 2) (by decide) (by omega) h4⟩
theorem awf {l : List Tup} (h : l = [awA, awG] ∨ l = [awA, awA]) : Fit l [0] := by
  rcases h with rfl | rfl
  · refine fit_of (by decide) (by decide) (by decide) fun t ht => ?_
    simp only [List.mem_cons, List.not_mem_nil, or_false] at ht
    rcases ht with rfl | rfl <;> exact two_val (by decide) (by decide)
  · refine fit_of (by decide) (by decide) (by decide) fun t ht => ?_
    simp only [List.mem_cons, List.not_mem_nil, or_false] at ht
    rcases ht with rfl | rfl <;> exact two_val (by decide) (by decide)
def an9 : Ann where
  res := fun _ => none
  lend := fun | 41 => true | 49 => true | 56 => true | 64 => true | _ => false
  sch := fun _ => .done
  lt := fun _ => []
  tup := tups

theorem vc9 (P : Program) (H : Heap)  (post : Bool → Heap → Prop) :
  vcFn P tab an9 Tryz.f9 [] 0 H ⟨false, [(false, [.bool])]⟩ post =
  (  ∃ (post0 : Option Addr → Nat → Nat → Heap → Prop), ConT P 20 [.int .u16 (0 : Int), .int .u16 (0 : Int)] H ⟨false, [(false, [.sl])]⟩ post0 ∧ ∀ (H1 : Heap), Heap.le H H1 → ∀ (A3 : Option
  Addr) (n4 c5 : Nat), post0 A3 n4 c5 H1 → ∃ (post7 : Option Addr → Nat → Nat → Heap → Prop), ConT P 20 [.int .u16 (0 : Int), .int .u16 (0 : Int)] H1 ⟨false, [(false, [.sl])]⟩ post7 ∧ ∀ (H8 :
  Heap), Heap.le H1 H8 → ∀ (A10 : Option Addr) (n11 c12 : Nat), post7 A10 n11 c12 H8 → ∀ (A14 : Option Addr) (c15 : Nat) (H16 : Heap), Heap.le H8 H16 → Cells H16 A14 0 [.int .i64 (1 : Int)] →
  1 ≤ c15 → ∀ (A20 : Option Addr) (c21 : Nat) (H22 : Heap), Heap.le H16 H22 → Cells H22 A20 0 [.int .i64 (2 : Int)] → 1 ≤ c21 → ∀ (A26 : Option Addr) (c27 : Nat) (H28 : Heap), Heap.le H22 H28
  → Cells H28 A26 0 [.slice A3 n4 c5, .int .i64 (0 : Int), .int .i64 (5 : Int), .slice A14 1 c15, .slice A10 n11 c12, .int .i64 (7 : Int), .int .i64 (9 : Int), .slice A20 1 c21] → 2 ≤ c27 → ∀
  (A32 : Option Addr) (c33 : Nat) (H34 : Heap), Heap.le H28 H34 → Cells H34 A32 0 [.int .i64 (0 : Int)] → 1 ≤ c33 → ∃ (post38 : Option Addr → Nat → Nat → Heap → Prop), ConT P 12 [.slice A26 2
  c27, .slice A32 1 c33] H34 ⟨false, [(false, [.sl])]⟩ post38 ∧ ∀ (H39 : Heap), Heap.le H34 H39 → ∀ (A41 : Option Addr) (n42 c43 : Nat), post38 A41 n42 c43 H39 → (decide ((↑n42 : Int) = (1 :
  Int)) = true → someA A41 ∧ (0 : Int) ≤ (0 : Int) ∧ (0 : Int) < (↑n42 : Int) ∧ ∃ (n46 : Int), ∃ (n47 : Int), Cells H39 A41 (Int.toNat (0 : Int) * 3 + 0) [.int .i64 n46, .int .i64 n47] ∧
  ((decide (n46 = (5 : Int)) && decide (n47 = (7 : Int))) = true → someA A41 ∧ (0 : Int) ≤ (0 : Int) ∧ (0 : Int) < (↑n42 : Int) ∧ ∃ (A49 : Option Addr), ∃ (n50 : Nat), ∃ (c51 : Nat), Cells
  H39 A41 (Int.toNat (0 : Int) * 3 + 2) [.slice A49 n50 c51] ∧ (decide ((↑n50 : Int) = (2 : Int)) = true → ∃ (post53 : Bool → Heap → Prop), (∀ (A54 : Option Addr) (c55 : Nat) (H56 : Heap),
  Heap.le H39 H56 → Cells H56 A54 0 [.slice A3 n4 c5, .int .i64 (0 : Int), .int .i64 (5 : Int), .slice A14 1 c15, .slice A10 n11 c12, .int .i64 (7 : Int), .int .i64 (9 : Int), .slice A20 1
  c21] → 2 ≤ c55 → ∀ (A60 : Option Addr) (c61 : Nat) (H62 : Heap), Heap.le H56 H62 → Cells H62 A60 0 [.int .i64 (0 : Int)] → 1 ≤ c61 → ConT P 15 [.slice A54 2 c55, .int .i64 (1 : Int), .slice
  A60 1 c61] H62 ⟨false, [(false, [.bool])]⟩ post53) ∧ ∀ (H66 : Heap) (b67 : Bool), post53 b67 H66 → ((!b67) = true → ∃ (post70 : Bool → Heap → Prop), (∀ (A71 : Option Addr) (c72 : Nat) (H73
  : Heap), Heap.le H39 H73 → Cells H73 A71 0 [.slice A3 n4 c5, .int .i64 (0 : Int), .int .i64 (5 : Int), .slice A14 1 c15, .slice A10 n11 c12, .int .i64 (7 : Int), .int .i64 (9 : Int), .slice
  A20 1 c21] → 2 ≤ c72 → ∀ (A77 : Option Addr) (c78 : Nat) (H79 : Heap), Heap.le H73 H79 → Cells H79 A77 0 [.int .i64 (0 : Int)] → 1 ≤ c78 → ConT P 15 [.slice A71 2 c72, .int .i64 (2 : Int),
  .slice A77 1 c78] H79 ⟨false, [(false, [.bool])]⟩ post70) ∧ ∀ (H83 : Heap) (b84 : Bool), post70 b84 H83 → (b84 = true → ∃ (post87 : Bool → Heap → Prop), (∀ (A88 : Option Addr) (c89 : Nat)
  (H90 : Heap), Heap.le H39 H90 → Cells H90 A88 0 [.slice A3 n4 c5, .int .i64 (0 : Int), .int .i64 (5 : Int), .slice A14 1 c15, .slice A3 n4 c5, .int .i64 (0 : Int), .int .i64 (5 : Int),
  .slice A14 1 c15] → 2 ≤ c89 → ∀ (A94 : Option Addr) (c95 : Nat) (H96 : Heap), Heap.le H90 H96 → Cells H96 A94 0 [.int .i64 (0 : Int)] → 1 ≤ c95 → ConT P 15 [.slice A88 2 c89, .int .i64 (2 :
  Int), .slice A94 1 c95] H96 ⟨false, [(false, [.bool])]⟩ post87) ∧ ∀ (H100 : Heap) (b101 : Bool), post87 b101 H100 → ((!b101) = true → ∃ (post104 : Bool → Heap → Prop), (∀ (A105 : Option
  Addr) (c106 : Nat) (H107 : Heap), Heap.le H39 H107 → Cells H107 A105 0 [.slice A3 n4 c5, .int .i64 (0 : Int), .int .i64 (5 : Int), .slice A14 1 c15, .slice A10 n11 c12, .int .i64 (7 : Int),
  .int .i64 (9 : Int), .slice A20 1 c21] → 2 ≤ c106 → ∀ (A111 : Option Addr) (c112 : Nat) (H113 : Heap), Heap.le H107 H113 → Cells H113 A111 0 [.int .i64 (0 : Int)] → 1 ≤ c112 → ConT P 15
  [.slice A105 2 c106, .int .i64 (9 : Int), .slice A111 1 c112] H113 ⟨false, [(false, [.bool])]⟩ post104) ∧ ∀ (H117 : Heap) (b118 : Bool), post104 b118 H117 → post b118 H39) ∧ ((!b101) =
  false → post false H39)) ∧ (b84 = false → post false H39)) ∧ ((!b67) = false → post false H39)) ∧ (decide ((↑n50 : Int) = (2 : Int)) = false → post false H39)) ∧ ((decide (n46 = (5 : Int))
  && decide (n47 = (7 : Int))) = false → post false H39)) ∧ (decide ((↑n42 : Int) = (1 : Int)) = false → post false H39)) := by kernel_rfl
set_option maxHeartbeats 1000000 in
theorem law24_awake {H : Heap} (hT : TabH H) : ConT Tryz.prog 9 [] H shB (fun r _ => r = true) := by
  refine con_of_vc (an := an9) (fn := Tryz.f9) mix tabOK Tryz.func9 (by kernel_rfl) (extra := 0) ?_
  rw [vc9]
  refine ⟨_, law0_Vals (x := 0) (y := 0) (by decide) (by decide), ?_⟩
  intro H1 l1 A3 n4 c5 h3
  refine ⟨_, law0_Vals (x := 0) (y := 0) (by decide) (by decide), ?_⟩
  intro H8 l8 A10 n11 c12 h10 A14 c15 H16 l16 hc14 hn14 A20 c21 H22 l22 hc20 hn20 A26 c27 H28 l28 hc26 hn26 A32 c33 H34 l34 hc32 hn32
  have s14 : Sl H16 A14 1 c15 [(1 : Int)] := Row.sl (H := H16) (T := Int) (l := [1]) ⟨[_], [], rfl, ⟨rfl, by decide⟩, rfl⟩ (hle_refl _) hc14 rfl hn14 (by decide) (by decide)
  have s20 : Sl H22 A20 1 c21 [(2 : Int)] := Row.sl (H := H22) (T := Int) (l := [2]) ⟨[_], [], rfl, ⟨rfl, by decide⟩, rfl⟩ (hle_refl _) hc20 rfl hn20 (by decide) (by decide)
  have hT22 := hT.mono (hle_trans l1 (hle_trans l8 (hle_trans l16 l22)))
  have kA : ∀ {H' : Heap}, Heap.le H22 H' → Rep.rel H' [Value.slice A3 n4 c5, .int .i64 0, .int .i64 5, .slice A14 1 c15] awA := fun {H'} hle => ⟨_, _, _, _, _, _, rfl, h3.mono (hle_trans l8 (hle_trans l16 (hle_trans l22 hle))), by decide, by decide, s14.mono (hle_trans l22 hle)⟩
  have kG : ∀ {H' : Heap}, Heap.le H22 H' → Rep.rel H' [Value.slice A10 n11 c12, .int .i64 7, .int .i64 9, .slice A20 1 c21] awG := fun {H'} hle => ⟨_, _, _, _, _, _, rfl, h10.mono (hle_trans l16 (hle_trans l22 hle)), by decide, by decide, s20.mono hle⟩
  have tups : ∀ {H' : Heap} {A : Option Addr} {c : Nat}, Heap.le H22 H' → Cells H' A 0 [.slice A3 n4 c5, .int .i64 0, .int .i64 5, .slice A14 1 c15, .slice A10 n11 c12, .int .i64 7, .int .i64 9, .slice A20 1 c21] → 2 ≤ c → Sl H' A 2 c [awA, awG] := fun {H' A c} hle hc hn =>
    Row.sl (H := H') (T := Tup) (l := [awA, awG]) ⟨[_, _, _, _], [_, _, _, _], rfl, kA hle, [_, _, _, _], [], rfl, kG hle, rfl⟩ (hle_refl _) hc rfl hn (by decide) (by decide)
  have tups2 : ∀ {H' : Heap} {A : Option Addr} {c : Nat}, Heap.le H22 H' → Cells H' A 0 [.slice A3 n4 c5, .int .i64 0, .int .i64 5, .slice A14 1 c15, .slice A3 n4 c5, .int .i64 0, .int .i64 5, .slice A14 1 c15] → 2 ≤ c → Sl H' A 2 c [awA, awA] := fun {H' A c} hle hc hn =>
    Row.sl (H := H') (T := Tup) (l := [awA, awA]) ⟨[_, _, _, _], [_, _, _, _], rfl, kA hle, [_, _, _, _], [], rfl, kA hle, rfl⟩ (hle_refl _) hc rfl hn (by decide) (by decide)
  have cols1 : ∀ {H' : Heap} {A : Option Addr} {c : Nat}, Cells H' A 0 [.int .i64 0] → 1 ≤ c → Sl H' A 1 c [(0 : Int)] := fun {H' A c} hc hn => Row.sl (H := H') (T := Int) (l := [0]) ⟨[_], [], rfl, ⟨rfl, by decide⟩, rfl⟩ (hle_refl _) hc rfl hn (by decide) (by decide)
  have l2234 := hle_trans l28 l34
  refine ⟨_, con_Gaps (hT22.mono l2234) ((tups l28 hc26 hn26).mono l34) (cols1 hc32 hn32) (awf (.inl rfl)), ?_⟩
  intro H39 l39 A41 n42 c43 g3
  rw [gw_gaps] at g3
  have hl := g3.len
  simp only [List.length_cons, List.length_nil] at hl
  subst hl
  obtain ⟨hi, hA, _, hc, ⟨A1, n1, c1, rfl, q1, q2, q3⟩⟩ := g3.at (hle_refl H39) (i := 0) (by omega) (by omega)
  have q3l := q3.len
  simp at q3l
  subst q3l
  have l2239 := hle_trans l2234 l39
  have g1 : consV [awA, awG] 1 [0] = [⟨⟨5, 7⟩, [1, 2]⟩] := gw_gaps
  have g2 : consV [awA, awG] 2 [0] = [] := gw_keys
  have g2' : (consV [awA, awA] 2 [0]).length = 1 := gw_keys2
  have g9 : consV [awA, awG] 9 [0] = [] := rfl
  refine ⟨fun _ => ⟨hA, by omega, by omega, _, _, hc.at2 (k := 0) rfl rfl, fun _ => ⟨hA, by omega, by omega, _, _, _, hc.at1 (k := 2) rfl, fun _ => ⟨_, fun A54 c55 H56 l56 hc54 hn54 A60 c61 H62 l62 hc60 hn60 => constraint_Holds (hT22.mono (hle_trans l2239 (hle_trans l56 l62))) ((tups (hle_trans l2239 l56) hc54 hn54).mono l62) (cols1 hc60 hn60) (awf (.inl rfl)), ?_⟩, fun h => by simp at h⟩, fun h => by simp at h⟩, fun h => by simp at h⟩
  rintro H66 b rfl
  rw [g1]
  refine ⟨fun _ => ⟨_, fun A54 c55 H56 l56 hc54 hn54 A60 c61 H62 l62 hc60 hn60 => constraint_Holds (hT22.mono (hle_trans l2239 (hle_trans l56 l62))) ((tups (hle_trans l2239 l56) hc54 hn54).mono l62) (cols1 hc60 hn60) (awf (.inl rfl)), ?_⟩, fun h => by simp at h⟩
  rintro H83 b rfl
  rw [g2]
  refine ⟨fun _ => ⟨_, fun A54 c55 H56 l56 hc54 hn54 A60 c61 H62 l62 hc60 hn60 => constraint_Holds (hT22.mono (hle_trans l2239 (hle_trans l56 l62))) ((tups2 (hle_trans l2239 l56) hc54 hn54).mono l62) (cols1 hc60 hn60) (awf (.inr rfl)), ?_⟩, fun h => by simp at h⟩
  rintro H100 b rfl
  rw [g2']
  refine ⟨fun _ => ⟨_, fun A54 c55 H56 l56 hc54 hn54 A60 c61 H62 l62 hc60 hn60 => constraint_Holds (hT22.mono (hle_trans l2239 (hle_trans l56 l62))) ((tups (hle_trans l2239 l56) hc54 hn54).mono l62) (cols1 hc60 hn60) (awf (.inl rfl)), ?_⟩, fun h => by simp at h⟩
  rintro H117 b rfl
  rw [g9]; rfl
theorem u5_nn {H : Heap} {A : Option Addr} {n c : Nat} {l : List U5} (h : Sl H A n c l) : ∀ y ∈ l, 0 ≤ y.a ∧ 0 ≤ y.b ∧ 0 ≤ y.c ∧ 0 ≤ y.d := by
  intro y hy
  obtain ⟨i, hi, rfl⟩ := List.getElem_of_mem hy
  obtain ⟨vs, -, -, r1, r2, r3, r4, -⟩ := h.get i hi
  simp only [rng] at r1 r2 r3 r4
  omega
theorem lTups_val {l : List U5} {most : Nat} (hl : ∀ x ∈ l, 0 ≤ x.c ∧ 0 ≤ x.d) : ∀ t ∈ lTups l most, ∀ v ∈ t.vals, valOk 2 v := by
  intro t ht
  obtain ⟨x, hx, rfl⟩ := List.mem_map.1 ht
  have hx := hl x (List.take_subset _ _ hx)
  exact two_val hx.1 hx.2
end Go.Vc
