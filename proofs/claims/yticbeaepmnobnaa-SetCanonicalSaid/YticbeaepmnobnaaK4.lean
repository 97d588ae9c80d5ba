/- SetCanonical: results are in normal form, normalizing is idempotent, and the order of the periods does not matter. No conditions. -/
import Derived.Test.YticbeaepmnobnaaF5
set_option linter.unusedSectionVars false
set_option linter.unusedSimpArgs false
set_option linter.unusedVariables false
namespace Go.Vc
open Go Go.Proofs Go.Shelf
theorem turn_in {l : List Per} {k : Int} (hk : 0 ≤ k) (t : Int) : inSet ((List.range l.length).map fun i : Nat => l[(Int.tmod ((i : Int) + k) l.length).toNat]?.getD ⟨0, 0⟩) t = inSet l t := by
  rw [Bool.eq_iff_iff]
  simp only [inSet, List.any_eq_true, List.mem_map, List.mem_range]
  constructor
  · rintro ⟨p, ⟨i, hi, rfl⟩, hp⟩
    have h1 : Int.tmod ((i : Int) + k) l.length < l.length := Int.tmod_lt_of_pos _ (by omega)
    have h0 : 0 ≤ Int.tmod ((i : Int) + k) l.length := Int.tmod_nonneg _ (by omega)
    rw [List.getElem?_eq_getElem (by omega)] at hp
    exact ⟨_, List.getElem_mem _, hp⟩
  · rintro ⟨p, hp, ht⟩
    obtain ⟨j, hj, rfl⟩ := List.getElem_of_mem hp
    have hn : (0 : Int) < l.length := by omega
    have e0 : 0 ≤ (j - k) % (l.length : Int) := Int.emod_nonneg _ (by omega)
    have e1 : (j - k) % (l.length : Int) < l.length := Int.emod_lt_of_pos _ hn
    refine ⟨l[j], ⟨((j - k) % (l.length : Int)).toNat, by omega, ?_⟩, ht⟩
    have e2 : Int.tmod ((((j - k) % (l.length : Int)).toNat : Int) + k) l.length = j := by
      rw [Int.toNat_of_nonneg e0, Int.tmod_eq_emod_of_nonneg (by omega), Int.emod_add_emod, Int.sub_add_cancel]
      exact Int.emod_eq_of_lt (by omega) (by omega)
    rw [e2]
    rw [Int.toNat_natCast, List.getElem?_eq_getElem hj]; rfl
def an6 : Ann where
  res := fun _ => none
  lend := fun | 12 => true | 14 => true | 36 => true | 39 => true | 45 => true | 51 => true | 57 => true | 63 => true | 69 => true | _ => false
  sch := fun _ => .done
  lt := fun | 6 => [.slot 8 false [.row 71 30], .slot 19 false [.int .i64]] | _ => []
  tup := tups

theorem vc6 (P : Program) (H : Heap) (aA : Option Addr) (aN aC : Nat) (p1A : Option Addr) (p1N p1C : Nat) (p2 : Int) (post : Bool → Heap → Prop) :
  vcFn P tab an6 Try.f6 [.slice aA aN aC, .slice p1A p1N p1C, .int .u8 p2] 1 H ⟨false, [(false, [.bool])]⟩ post =
  (  ∃ (post0 : Bool → Heap → Prop), ConT P 9 [.slice aA aN aC, .slice p1A p1N p1C] H ⟨false, [(false, [.bool])]⟩ post0 ∧ ∀ (H1 : Heap), Heap.le H H1 → ∀ (b3 : Bool), post0 b3 H1 → ((!b3) = true
  → ∃ (post6 : Bool → Heap → Prop), ConT P 10 [] H1 ⟨false, [(false, [.bool])]⟩ post6 ∧ ∀ (H7 : Heap), Heap.le H1 H7 → ∀ (b9 : Bool), post6 b9 H7 → post b9 H7) ∧ ((!b3) = false → ∃ (post12 :
  Option Addr → Nat → Nat → Heap → Prop), ConT P 14 [.slice aA aN aC] H1 ⟨false, [(false, [.sl])]⟩ post12 ∧ ∀ (H13 : Heap), Heap.le H1 H13 → ∀ (A15 : Option Addr) (n16 c17 : Nat), post12 A15
  n16 c17 H13 → ∃ (inv19 : Nat → List Value → Int → Heap → Prop), ∃ (m20 : Nat → List Value → Int → Nat), inv19 0 [] (0 : Int) H13 ∧ ∀ (H21 : Heap), Heap.le H13 H21 → ∀ (n23 : Nat) (xs24 :
  List Value) (n25 : Int), inv19 n23 xs24 n25 H21 → (decide (n25 < (↑aN : Int)) = true → ∃ (e28 : Int), IntKind.wrap IntKind.i64 p2 = e28 ∧ rng .i64 (n25 + e28) ∧ (↑aN : Int) ≠ (0 : Int) ∧
  someA aA ∧ (0 : Int) ≤ Int.tmod (n25 + e28) (↑aN : Int) ∧ Int.tmod (n25 + e28) (↑aN : Int) < (↑aN : Int) ∧ ∃ (n29 : Int), ∃ (n30 : Int), Cells H21 aA (Int.toNat (Int.tmod (n25 + e28) (↑aN :
  Int)) * 2) [.int .i64 n29, .int .i64 n30] ∧ (n23 + 1) * 16 ≤ 140737488355328 ∧ rng .i64 (n25 + (1 : Int)) ∧ inv19 (n23 + 1) (xs24 ++ [.int .i64 n29, .int .i64 n30]) (n25 + (1 : Int)) H21 ∧
  m20 (n23 + 1) (xs24 ++ [.int .i64 n29, .int .i64 n30]) (n25 + (1 : Int)) < m20 n23 xs24 n25) ∧ (decide (n25 < (↑aN : Int)) = false → ∃ (post32 : Bool → Heap → Prop), ConT P 10 [] H21
  ⟨false, [(false, [.bool])]⟩ post32 ∧ ∀ (H33 : Heap), Heap.le H21 H33 → ∀ (b35 : Bool), post32 b35 H33 → (b35 = true → ∃ (post38 : Bool → Heap → Prop), ConT P 11 [.slice A15 n16 c17] H33
  ⟨false, [(false, [.bool])]⟩ post38 ∧ ∀ (H39 : Heap), Heap.le H33 H39 → ∀ (b41 : Bool), post38 b41 H39 → (b41 = true → ∃ (post44 : Option Addr → Nat → Nat → Heap → Prop), ConT P 14 [.slice
  A15 n16 c17] H39 ⟨false, [(false, [.sl])]⟩ post44 ∧ ∀ (H45 : Heap), Heap.le H39 H45 → ∀ (A47 : Option Addr) (n48 c49 : Nat), post44 A47 n48 c49 H45 → ∃ (post51 : Bool → Heap → Prop), ConT P
  13 [.slice A47 n48 c49, .slice A15 n16 c17] H45 ⟨false, [(false, [.bool])]⟩ post51 ∧ ∀ (H52 : Heap), Heap.le H45 H52 → ∀ (b54 : Bool), post51 b54 H52 → (b54 = true → ∀ (A57 : Option Addr)
  (c58 : Nat) (H59 : Heap), Heap.le H52 H59 → Cells H59 A57 0 xs24 → n23 ≤ c58 → ∃ (post63 : Option Addr → Nat → Nat → Heap → Prop), ConT P 14 [.slice A57 n23 c58] H59 ⟨false, [(false,
  [.sl])]⟩ post63 ∧ ∀ (H64 : Heap), Heap.le H59 H64 → ∀ (A66 : Option Addr) (n67 c68 : Nat), post63 A66 n67 c68 H64 → ∃ (post70 : Bool → Heap → Prop), ConT P 13 [.slice A66 n67 c68, .slice
  A15 n16 c17] H64 ⟨false, [(false, [.bool])]⟩ post70 ∧ ∀ (H71 : Heap), Heap.le H64 H71 → ∀ (b73 : Bool), post70 b73 H71 → (b73 = true → ∃ (post76 : Option Addr → Nat → Nat → Heap → Prop),
  ConT P 18 [.slice aA aN aC, .slice p1A p1N p1C] H71 ⟨false, [(false, [.sl])]⟩ post76 ∧ ∀ (H77 : Heap), Heap.le H71 H77 → ∀ (A79 : Option Addr) (n80 c81 : Nat), post76 A79 n80 c81 H77 → ∃
  (post83 : Bool → Heap → Prop), ConT P 11 [.slice A79 n80 c81] H77 ⟨false, [(false, [.bool])]⟩ post83 ∧ ∀ (H84 : Heap), Heap.le H77 H84 → ∀ (b86 : Bool), post83 b86 H84 → (b86 = true → ∃
  (post89 : Option Addr → Nat → Nat → Heap → Prop), ConT P 19 [.slice aA aN aC, .slice p1A p1N p1C] H84 ⟨false, [(false, [.sl])]⟩ post89 ∧ ∀ (H90 : Heap), Heap.le H84 H90 → ∀ (A92 : Option
  Addr) (n93 c94 : Nat), post89 A92 n93 c94 H90 → ∃ (post96 : Bool → Heap → Prop), ConT P 11 [.slice A92 n93 c94] H90 ⟨false, [(false, [.bool])]⟩ post96 ∧ ∀ (H97 : Heap), Heap.le H90 H97 → ∀
  (b99 : Bool), post96 b99 H97 → (b99 = true → ∃ (post102 : Option Addr → Nat → Nat → Heap → Prop), ConT P 22 [.slice aA aN aC, .slice p1A p1N p1C] H97 ⟨false, [(false, [.sl])]⟩ post102 ∧ ∀
  (H103 : Heap), Heap.le H97 H103 → ∀ (A105 : Option Addr) (n106 c107 : Nat), post102 A105 n106 c107 H103 → ∃ (post109 : Bool → Heap → Prop), ConT P 11 [.slice A105 n106 c107] H103 ⟨false,
  [(false, [.bool])]⟩ post109 ∧ ∀ (H110 : Heap), Heap.le H103 H110 → ∀ (b112 : Bool), post109 b112 H110 → post b112 H110) ∧ (b99 = false → post false H97)) ∧ (b86 = false → post false H84)) ∧
  (b73 = false → post false H71)) ∧ (b54 = false → post false H52)) ∧ (b41 = false → post false H39)) ∧ (b35 = false → post false H33)))) := by kernel_rfl
set_option maxHeartbeats 1000000 in
theorem law5_SetCanonical {H : Heap} {A B : Option Addr} {n c m d : Nat} {l k : List Per} {x : Int} (hs : Sl H A n c l) (ht : Sl H B m d k) (hx : rng .u8 x) :
    ConT Try.prog 6 [.slice A n c, .slice B m d, .int .u8 x] H shB (fun r _ => r = true) := by
  refine con_of_vc (an := an6) (fn := Try.f6) mix tabOK Try.func6 (by kernel_rfl) (extra := 1) ?_
  rw [vc6]
  refine ⟨_, law5_few, ?_⟩
  rintro H1 l1 _ rfl
  refine ⟨fun _ => ⟨_, law5_awake, fun _ _ _ h => h⟩, fun hf => ?_⟩
  simp only [Bool.not_eq_false'] at hf
  have hb := few_bound hf
  simp only [Bool.and_eq_true, decide_eq_true_eq] at hf
  have hs := hs.mono l1; have ht := ht.mono l1
  refine ⟨_, periodset_Normalize hs, ?_⟩
  intro H2 l2 A2 n2 c2 h2
  have hs := hs.mono l2; have ht := ht.mono l2
  have b2 := hs.len
  have hx0 : 0 ≤ x ∧ x ≤ 255 := hx
  have hw : IntKind.wrap .i64 x = x := IntWalk.i64_in _ (by omega)
  refine ⟨fun u xs i H' => 0 ≤ i ∧ i ≤ n ∧ u = i.toNat ∧ Row H' xs ((List.range i.toNat).map fun i : Nat => l[(Int.tmod ((i : Int) + x) l.length).toNat]?.getD ⟨0, 0⟩), fun _ _ i => n - i.toNat, ⟨by omega, by omega, rfl, rfl⟩, ?_⟩
  rintro H3 l3 u xs i ⟨i0, i1, rfl, hr⟩
  refine ⟨fun hlt => ?_, fun hge => ⟨_, law5_awake, ?_⟩⟩
  · have hlt := of_decide_eq_true hlt
    have h1 : Int.tmod (i + x) n < n := Int.tmod_lt_of_pos _ (by omega)
    have h0 : 0 ≤ Int.tmod (i + x) n := Int.tmod_nonneg _ (by omega)
    obtain ⟨hi, hA, _, hc, ⟨rfl, r1, r2⟩⟩ := hs.at l3 h0 h1
    refine ⟨x, hw, by simp only [rng]; omega, by omega, hA, h0, h1, _, _, hc, by omega, by simp only [rng]; omega, ⟨by omega, by omega, by omega, ?_⟩, by dsimp only; omega⟩
    rw [show (i + 1).toNat = i.toNat + 1 by omega, List.range_succ, List.map_append]
    refine hr.append ?_
    simp only [List.map_cons, List.map_nil]
    rw [show ((i.toNat : Nat) : Int) = i by omega, b2, List.getElem?_eq_getElem hi]
    exact row1 _ r1 r2
  · have hge := of_decide_eq_false hge
    have hin : i.toNat = l.length := by omega
    rw [hin] at hr
    have heq := norm_congr (turn_in (l := l) hx0.1)
    generalize hT : ((List.range l.length).map fun i : Nat => l[(Int.tmod ((i : Int) + x) l.length).toNat]?.getD ⟨0, 0⟩) = T at hr heq
    have hTl : T.length = i.toNat := by rw [← hT, hin]; simp
    rintro H4 l4 _ rfl
    have h2 := h2.mono (hle_trans l3 l4)
    refine ⟨fun _ => ⟨_, periodset_IsNormal h2, ?_⟩, fun h => by simp at h⟩
    rintro H5 l5 _ rfl
    rw [norm_nrm]
    refine ⟨fun _ => ⟨_, periodset_Normalize (h2.mono l5), ?_⟩, fun h => by simp at h⟩
    rw [norm_of_nrm (norm_nrm l)]
    intro H6 l6 A6 n6 c6 h6
    have h2 := h2.mono (hle_trans l5 l6)
    refine ⟨_, ref1_SamePeriods h6 h2, ?_⟩
    rintro H7 l7 _ rfl
    refine ⟨fun _ => ?_, fun h => by simp at h⟩
    intro A8 c8 H8 l8 hc8 hn8
    have L8 := hle_trans l4 (hle_trans l5 (hle_trans l6 (hle_trans l7 l8)))
    refine ⟨_, periodset_Normalize (hr.sl L8 hc8 hTl hn8 (by show i.toNat * 16 ≤ _; omega) (by omega)), ?_⟩
    rw [heq]
    intro H9 l9 A9 n9 c9 h9
    refine ⟨_, ref1_SamePeriods h9 (h2.mono (hle_trans l7 (hle_trans l8 l9))), ?_⟩
    rintro H10 l10 _ rfl
    have hs := hs.mono (hle_trans l3 (hle_trans L8 (hle_trans l9 l10))); have ht := ht.mono (hle_trans l3 (hle_trans L8 (hle_trans l9 l10)))
    refine ⟨fun _ => ⟨_, periodset_Union hs ht hb, ?_⟩, fun h => by simp at h⟩
    intro H11 l11 A11 n11 c11 h11
    refine ⟨_, periodset_IsNormal h11, ?_⟩
    rintro H12 l12 _ rfl
    rw [union_nrm]
    have hs := hs.mono (hle_trans l11 l12); have ht := ht.mono (hle_trans l11 l12)
    refine ⟨fun _ => ⟨_, periodset_Intersect hs ht, ?_⟩, fun h => by simp at h⟩
    intro H13 l13 A13 n13 c13 h13
    refine ⟨_, periodset_IsNormal h13, ?_⟩
    rintro H14 l14 _ rfl
    rw [isect_nrm]
    have hs := hs.mono (hle_trans l13 l14); have ht := ht.mono (hle_trans l13 l14)
    refine ⟨fun _ => ⟨_, periodset_Subtract hs ht, ?_⟩, fun h => by simp at h⟩
    intro H15 l15 A15 n15 c15 h15
    refine ⟨_, periodset_IsNormal h15, ?_⟩
    rintro H16 l16 _ rfl
    exact diff_nrm l k
end Go.Vc
namespace Go.Proofs.Yticbeaepmnobnaa.setCanonical
open Go Go.Vc Go.RowKit Go.WideShapes Go.ChangeShapes
theorem sps : ∀ t ∈ Try.f6.params.toList, SpOK Try.prog t := by
  rw [Try.params6]
  exact List.forall_mem_cons.2 ⟨oPers.sp, List.forall_mem_cons.2 ⟨oPers.sp, List.forall_mem_cons.2 ⟨oU8.sp, fun _ h => by cases h⟩⟩⟩
theorem own : ownKnob Try.prog.godebug = none := by kernel_rfl
set_option maxRecDepth 100000 in
theorem lifted (os : Os) (started : os.Started) (H : Type) (enc : TypeId × Value → H) :
    ReturnsInHanded {} Try.checked os 6 .any (Rows.setCanonicalSpec.pre6 enc Try.prog Try.f6 Rows.setCanonicalRow.domain false) (Rows.setCanonicalSpec.post enc Try.prog Try.f6 false true false false) := by
  refine returnsInHanded_of_change_sized (C := Try.checked) own started (by kernel_rfl) Try.func6
    (ChangeSpec.witness6 (enc := enc) (C := Try.checked) false ⟨#[], #[.slice none 0 0, .slice none 0 0, .int .u8 0], []⟩ 8 (by kernel_rfl) (by kernel_rfl) (by kernel_rfl) (by kernel_rfl)) ?_
  intro W base args ds gs before hval0 hW hcnd hsz0 _
  have hval : ∀ (j : Nat) t v, Try.f6.params[j]? = some t → args[j]? = some v → Value.okWide Try.prog W .any base t v := hval0
  have hW' := hW
  obtain ⟨p, q, hA0, hV, rfl, hfz, hnd⟩ := hW
  have hA : DataW.TrodAll enc Try.prog W 0 (fun _ => true) true Try.f6.params.toList args.toList ds p := hA0
  have hsz : (DataW.weightsEach Try.prog (Try.f6.params.toList ++ Rows.setCanonicalSpec.plain.varTypes Try.prog) (ds ++ gs)).all (· ≤ reachBytes) = true := hsz0
  have hA1 := hA
  obtain ⟨rfl, rfl⟩ := trodVars_none hV
  rw [Try.params6] at hA hval hsz
  obtain ⟨v0, vs0, d0, ds0, p0, q0, hargs, rfl, rfl, h0, r0⟩ := trodAll_cons hA
  obtain ⟨v1, vs1, d1, ds1, p1, q1, rfl, rfl, rfl, h1, r1⟩ := trodAll_cons r0
  obtain ⟨v2, vs2, d2, ds2, p2, q2, rfl, rfl, rfl, h2, r2⟩ := trodAll_cons r1
  obtain ⟨rfl, rfl, rfl⟩ := trodAll_nil r2
  obtain rfl : args = #[v0, v1, v2] := by cases args; simp_all
  have ok0 := hval 0 22 v0 rfl rfl
  have w0 := weightsEach_get (i := 0) hsz rfl rfl
  obtain ⟨A01, n01, c01, rfl⟩ := okWide_slice Try.underlying22 ok0
  obtain ⟨y0, A02, n02, c02, hy0, hr0⟩ := arg_get oPers h0 w0
  obtain ⟨rfl, rfl, rfl⟩ : A01 = A02 ∧ n01 = n02 ∧ c01 = c02 := by simpa [Value.cells] using hy0
  have ok1 := hval 1 22 v1 rfl rfl
  have w1 := weightsEach_get (i := 1) hsz rfl rfl
  obtain ⟨A11, n11, c11, rfl⟩ := okWide_slice Try.underlying22 ok1
  obtain ⟨y1, A12, n12, c12, hy1, hr1⟩ := arg_get oPers h1 w1
  obtain ⟨rfl, rfl, rfl⟩ : A11 = A12 ∧ n11 = n12 ∧ c11 = c12 := by simpa [Value.cells] using hy1
  have ok2 := hval 2 5 v2 rfl rfl
  have w2 := weightsEach_get (i := 2) hsz rfl rfl
  obtain ⟨x2, rfl⟩ := okWide_int Try.underlying5 ok2
  obtain ⟨y2, hy2, hr2⟩ := arg_get oU8 h2 w2
  obtain rfl : x2 = y2.n := by simpa [Value.cells] using hy2
  refine (con_true (law5_SetCanonical hr0 hr1 hr2) (heapOf_snap W)).mono fun e W' ⟨he, hb⟩ => ?_
  subst he
  exact ⟨_, rfl, post_of_below (pa := _) (pv := []) hW' (fun _ _ _ => trodAll_mk1 (shut_bool Try.underlying4 _))
    (fun sp hsp => trodAll_sp sps hA1 (fun z hz => hb.same (hW'.lt z (by simpa using hz))) (fun z hz => hsp z (by simpa using hz))) (fun _ _ => rfl) rfl hb (ok_one (by kernel_rfl) rfl (okWide_bool_mk Try.underlying4 _))⟩
theorem proved : Rows.SetCanonicalSaid :=
  OpenClaim.holds_of_wide 6 Try.f6 rfl rfl rfl rfl rfl rfl rfl ⟨rfl, rfl, rfl, rfl, rfl⟩ rfl rfl rfl rfl rfl (by kernel_rfl) Try.func6 (by kernel_rfl)
    (of_decide_eq_true (by kernel_rfl)) (by unfold Func.isWrapper; first | (rw [if_pos (by decide +kernel)]; kernel_rfl) | (rw [if_neg (by decide +kernel)]; exact ⟨rfl, rfl⟩))
    (fun os started H enc _ => lifted os started H enc)
#print axioms proved
end Go.Proofs.Yticbeaepmnobnaa.setCanonical
