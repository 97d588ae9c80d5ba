/- SetAlgebra: subtracting a union is subtracting one after the other, and a set is the disjoint union of its intersection and difference with another set. No conditions. -/
import Derived.Test.YticbeaepmnobnaaF5
set_option linter.unusedSectionVars false
set_option linter.unusedSimpArgs false
set_option linter.unusedVariables false
namespace Go.Vc
open Go Go.Proofs Go.Shelf
theorem diff_union (a b c : List Per) : diff a (union b c) = diff (diff a b) c :=
  nrm_eq (diff_nrm _ _) (diff_nrm _ _) fun t => by rw [diff_in, diff_in, diff_in, union_in, Bool.not_or, Bool.and_assoc]
theorem union_parts (a b : List Per) : union (isect a b) (diff a b) = norm a :=
  nrm_eq (union_nrm _ _) (norm_nrm _) fun t => by rw [union_in, isect_in, diff_in, norm_in]; cases inSet a t <;> cases inSet b t <;> rfl
theorem isect_parts (a b : List Per) : isect (isect a b) (diff a b) = [] :=
  nrm_eq (isect_nrm _ _) rfl fun t => by rw [isect_in, isect_in, diff_in, inSet_nil]; cases inSet a t <;> cases inSet b t <;> rfl
def an7 : Ann where
  res := fun _ => none
  lend := fun | 13 => true | 17 => true | 20 => true | 37 => true | 41 => true | 49 => true | _ => false
  sch := fun _ => .done
  lt := fun _ => []
  tup := tups

theorem vc7 (P : Program) (H : Heap) (aA : Option Addr) (aN aC : Nat) (bA : Option Addr) (bN bC : Nat) (cA : Option Addr) (cN cC : Nat) (post : Bool → Heap → Prop) :
  vcFn P tab an7 Try.f7 [.slice aA aN aC, .slice bA bN bC, .slice cA cN cC] 0 H ⟨false, [(false, [.bool])]⟩ post =
  (  ∃ (post0 : Bool → Heap → Prop), ConT P 9 [.slice aA aN aC, .slice bA bN bC] H ⟨false, [(false, [.bool])]⟩ post0 ∧ ∀ (H1 : Heap), Heap.le H H1 → ∀ (b3 : Bool), post0 b3 H1 → ((!b3) = true →
  ∃ (post6 : Bool → Heap → Prop), ConT P 10 [] H1 ⟨false, [(false, [.bool])]⟩ post6 ∧ ∀ (H7 : Heap), Heap.le H1 H7 → ∀ (b9 : Bool), post6 b9 H7 → post b9 H7) ∧ ((!b3) = false → ∃ (post12 :
  Bool → Heap → Prop), ConT P 9 [.slice cA cN cC, .slice none 0 0] H1 ⟨false, [(false, [.bool])]⟩ post12 ∧ ∀ (H13 : Heap), Heap.le H1 H13 → ∀ (b15 : Bool), post12 b15 H13 → ((!b15) = true → ∃
  (post18 : Bool → Heap → Prop), ConT P 10 [] H13 ⟨false, [(false, [.bool])]⟩ post18 ∧ ∀ (H19 : Heap), Heap.le H13 H19 → ∀ (b21 : Bool), post18 b21 H19 → post b21 H19) ∧ ((!b15) = false → ∃
  (post24 : Option Addr → Nat → Nat → Heap → Prop), ConT P 18 [.slice bA bN bC, .slice cA cN cC] H13 ⟨false, [(false, [.sl])]⟩ post24 ∧ ∀ (H25 : Heap), Heap.le H13 H25 → ∀ (A27 : Option Addr)
  (n28 c29 : Nat), post24 A27 n28 c29 H25 → ∃ (post31 : Option Addr → Nat → Nat → Heap → Prop), ConT P 22 [.slice aA aN aC, .slice A27 n28 c29] H25 ⟨false, [(false, [.sl])]⟩ post31 ∧ ∀ (H32 :
  Heap), Heap.le H25 H32 → ∀ (A34 : Option Addr) (n35 c36 : Nat), post31 A34 n35 c36 H32 → ∃ (post38 : Option Addr → Nat → Nat → Heap → Prop), ConT P 22 [.slice aA aN aC, .slice bA bN bC] H32
  ⟨false, [(false, [.sl])]⟩ post38 ∧ ∀ (H39 : Heap), Heap.le H32 H39 → ∀ (A41 : Option Addr) (n42 c43 : Nat), post38 A41 n42 c43 H39 → ∃ (post45 : Option Addr → Nat → Nat → Heap → Prop), ConT
  P 22 [.slice A41 n42 c43, .slice cA cN cC] H39 ⟨false, [(false, [.sl])]⟩ post45 ∧ ∀ (H46 : Heap), Heap.le H39 H46 → ∀ (A48 : Option Addr) (n49 c50 : Nat), post45 A48 n49 c50 H46 → ∃ (post52
  : Option Addr → Nat → Nat → Heap → Prop), ConT P 19 [.slice aA aN aC, .slice bA bN bC] H46 ⟨false, [(false, [.sl])]⟩ post52 ∧ ∀ (H53 : Heap), Heap.le H46 H53 → ∀ (A55 : Option Addr) (n56
  c57 : Nat), post52 A55 n56 c57 H53 → ∃ (post59 : Option Addr → Nat → Nat → Heap → Prop), ConT P 22 [.slice aA aN aC, .slice bA bN bC] H53 ⟨false, [(false, [.sl])]⟩ post59 ∧ ∀ (H60 : Heap),
  Heap.le H53 H60 → ∀ (A62 : Option Addr) (n63 c64 : Nat), post59 A62 n63 c64 H60 → ∃ (post66 : Bool → Heap → Prop), ConT P 10 [] H60 ⟨false, [(false, [.bool])]⟩ post66 ∧ ∀ (H67 : Heap),
  Heap.le H60 H67 → ∀ (b69 : Bool), post66 b69 H67 → (b69 = true → ∃ (post72 : Bool → Heap → Prop), ConT P 13 [.slice A34 n35 c36, .slice A48 n49 c50] H67 ⟨false, [(false, [.bool])]⟩ post72 ∧
  ∀ (H73 : Heap), Heap.le H67 H73 → ∀ (b75 : Bool), post72 b75 H73 → (b75 = true → ∃ (post78 : Option Addr → Nat → Nat → Heap → Prop), ConT P 18 [.slice A55 n56 c57, .slice A62 n63 c64] H73
  ⟨false, [(false, [.sl])]⟩ post78 ∧ ∀ (H79 : Heap), Heap.le H73 H79 → ∀ (A81 : Option Addr) (n82 c83 : Nat), post78 A81 n82 c83 H79 → ∃ (post85 : Option Addr → Nat → Nat → Heap → Prop), ConT
  P 14 [.slice aA aN aC] H79 ⟨false, [(false, [.sl])]⟩ post85 ∧ ∀ (H86 : Heap), Heap.le H79 H86 → ∀ (A88 : Option Addr) (n89 c90 : Nat), post85 A88 n89 c90 H86 → ∃ (post92 : Bool → Heap →
  Prop), ConT P 13 [.slice A81 n82 c83, .slice A88 n89 c90] H86 ⟨false, [(false, [.bool])]⟩ post92 ∧ ∀ (H93 : Heap), Heap.le H86 H93 → ∀ (b95 : Bool), post92 b95 H93 → (b95 = true → ∃ (post98
  : Option Addr → Nat → Nat → Heap → Prop), ConT P 19 [.slice A55 n56 c57, .slice A62 n63 c64] H93 ⟨false, [(false, [.sl])]⟩ post98 ∧ ∀ (H99 : Heap), Heap.le H93 H99 → ∀ (A101 : Option Addr)
  (n102 c103 : Nat), post98 A101 n102 c103 H99 → post (decide ((↑n102 : Int) = (0 : Int))) H99) ∧ (b95 = false → post false H93)) ∧ (b75 = false → post false H73)) ∧ (b69 = false → post false
  H67)))) := by kernel_rfl
theorem law5_SetAlgebra {H : Heap} {A B D : Option Addr} {n c m d u e : Nat} {l k j : List Per} (hs : Sl H A n c l) (ht : Sl H B m d k) (hu : Sl H D u e j) :
    ConT Try.prog 7 [.slice A n c, .slice B m d, .slice D u e] H shB (fun r _ => r = true) := by
  refine con_of_vc (an := an7) (fn := Try.f7) mix tabOK Try.func7 (by kernel_rfl) (extra := 0) ?_
  rw [vc7]
  refine ⟨_, law5_few, ?_⟩
  rintro H1 l1 _ rfl
  refine ⟨fun _ => ⟨_, law5_awake, fun _ _ _ h => h⟩, fun hf => ⟨_, law5_few, ?_⟩⟩
  simp only [Bool.not_eq_false', Bool.and_eq_true, decide_eq_true_eq] at hf
  rintro H2 l2 _ rfl
  refine ⟨fun _ => ⟨_, law5_awake, fun _ _ _ h => h⟩, fun hf2 => ?_⟩
  simp only [Bool.not_eq_false', Bool.and_eq_true, decide_eq_true_eq] at hf2
  have hs := hs.mono (hle_trans l1 l2); have ht := ht.mono (hle_trans l1 l2); have hu := hu.mono (hle_trans l1 l2)
  refine ⟨_, periodset_Union ht hu (by omega), ?_⟩
  intro H3 l3 A3 n3 c3 h3
  have hs := hs.mono l3; have ht := ht.mono l3; have hu := hu.mono l3
  refine ⟨_, periodset_Subtract hs h3, ?_⟩
  intro H4 l4 A4 n4 c4 h4
  have hs := hs.mono l4; have ht := ht.mono l4; have hu := hu.mono l4
  refine ⟨_, periodset_Subtract hs ht, ?_⟩
  intro H5 l5 A5 n5 c5 h5
  have hs := hs.mono l5; have ht := ht.mono l5; have hu := hu.mono l5; have h4 := h4.mono l5
  refine ⟨_, periodset_Subtract h5 hu, ?_⟩
  intro H6 l6 A6 n6 c6 h6
  have hs := hs.mono l6; have ht := ht.mono l6; have h4 := h4.mono l6
  refine ⟨_, periodset_Intersect hs ht, ?_⟩
  intro H7 l7 A7 n7 c7 h7
  have hs := hs.mono l7; have ht := ht.mono l7; have h4 := h4.mono l7; have h6 := h6.mono l7
  refine ⟨_, periodset_Subtract hs ht, ?_⟩
  intro H8 l8 A8 n8 c8 h8
  have hs := hs.mono l8; have h4 := h4.mono l8; have h6 := h6.mono l8; have h7 := h7.mono l8
  refine ⟨_, law5_awake, ?_⟩
  rintro H9 l9 _ rfl
  have hs := hs.mono l9; have h4 := h4.mono l9; have h6 := h6.mono l9; have h7 := h7.mono l9; have h8 := h8.mono l9
  refine ⟨fun _ => ⟨_, ref1_SamePeriods h4 h6, ?_⟩, fun h => by simp at h⟩
  rintro H10 l10 _ rfl
  have hs := hs.mono l10; have h7 := h7.mono l10; have h8 := h8.mono l10
  have b7 := nrm_len2 (isect_nrm l k); have b8 := nrm_len2 (diff_nrm l k); have e7 := h7.len; have e8 := h8.len
  refine ⟨fun _ => ⟨_, periodset_Union h7 h8 (by omega), ?_⟩, fun h => by rw [diff_union] at h; simp at h⟩
  intro H11 l11 A11 n11 c11 h11
  have hs := hs.mono l11; have h7 := h7.mono l11; have h8 := h8.mono l11
  refine ⟨_, periodset_Normalize hs, ?_⟩
  intro H12 l12 A12 n12 c12 h12
  have h7 := h7.mono l12; have h8 := h8.mono l12; have h11 := h11.mono l12
  refine ⟨_, ref1_SamePeriods h11 h12, ?_⟩
  rintro H13 l13 _ rfl
  have h7 := h7.mono l13; have h8 := h8.mono l13
  refine ⟨fun _ => ⟨_, periodset_Intersect h7 h8, ?_⟩, fun h => by rw [union_parts] at h; simp at h⟩
  intro H14 l14 A14 n14 c14 h14
  rw [isect_parts] at h14
  have := h14.len
  simp only [List.length_nil] at this
  rw [decide_eq_true_eq]; omega
end Go.Vc
namespace Go.Proofs.Yticbeaepmnobnaa.setAlgebra
open Go Go.Vc Go.RowKit Go.WideShapes Go.ChangeShapes
theorem sps : ∀ t ∈ Try.f7.params.toList, SpOK Try.prog t := by
  rw [Try.params7]
  exact List.forall_mem_cons.2 ⟨oPers.sp, List.forall_mem_cons.2 ⟨oPers.sp, List.forall_mem_cons.2 ⟨oPers.sp, fun _ h => by cases h⟩⟩⟩
theorem own : ownKnob Try.prog.godebug = none := by kernel_rfl
set_option maxRecDepth 100000 in
theorem lifted (os : Os) (started : os.Started) (H : Type) (enc : TypeId × Value → H) :
    ReturnsInHanded {} Try.checked os 7 .any (Rows.setAlgebraSpec.pre6 enc Try.prog Try.f7 Rows.setAlgebraRow.domain false) (Rows.setAlgebraSpec.post enc Try.prog Try.f7 false true false false) := by
  refine returnsInHanded_of_change_sized (C := Try.checked) own started (by kernel_rfl) Try.func7
    (ChangeSpec.witness6 (enc := enc) (C := Try.checked) false ⟨#[], #[.slice none 0 0, .slice none 0 0, .slice none 0 0], []⟩ 8 (by kernel_rfl) (by kernel_rfl) (by kernel_rfl) (by kernel_rfl)) ?_
  intro W base args ds gs before hval0 hW hcnd hsz0 _
  have hval : ∀ (j : Nat) t v, Try.f7.params[j]? = some t → args[j]? = some v → Value.okWide Try.prog W .any base t v := hval0
  have hW' := hW
  obtain ⟨p, q, hA0, hV, rfl, hfz, hnd⟩ := hW
  have hA : DataW.TrodAll enc Try.prog W 0 (fun _ => true) true Try.f7.params.toList args.toList ds p := hA0
  have hsz : (DataW.weightsEach Try.prog (Try.f7.params.toList ++ Rows.setAlgebraSpec.plain.varTypes Try.prog) (ds ++ gs)).all (· ≤ reachBytes) = true := hsz0
  have hA1 := hA
  obtain ⟨rfl, rfl⟩ := trodVars_none hV
  rw [Try.params7] at hA hval hsz
  obtain ⟨v0, vs0, d0, ds0, p0, q0, hargs, rfl, rfl, h0, r0⟩ := trodAll_cons hA
  obtain ⟨v1, vs1, d1, ds1, p1, q1, rfl, rfl, rfl, h1, r1⟩ := trodAll_cons r0
  obtain ⟨v2, vs2, d2, ds2, p2, q2, rfl, rfl, rfl, h2, r2⟩ := trodAll_cons r1
  obtain ⟨rfl, rfl, rfl⟩ := trodAll_nil r2
  obtain rfl : args = #[v0, v1, v2] := by cases args; simp_all
  have ok0 := hval 0 22 v0 rfl rfl
  have w0 := weightsEach_get (i := 0) hsz rfl rfl
  obtain ⟨A01, n01, c01, rfl⟩ := okWide_slice Try.underlying22 ok0
  obtain ⟨y0, A02, n02, c02, hy0, hr0⟩ := arg_get oPers h0 w0
  obtain ⟨rfl, rfl, rfl⟩ : A01 = A02 ∧ n01 = n02 ∧ c01 = c02 := by simpa [Value.cells] using hy0
  have ok1 := hval 1 22 v1 rfl rfl
  have w1 := weightsEach_get (i := 1) hsz rfl rfl
  obtain ⟨A11, n11, c11, rfl⟩ := okWide_slice Try.underlying22 ok1
  obtain ⟨y1, A12, n12, c12, hy1, hr1⟩ := arg_get oPers h1 w1
  obtain ⟨rfl, rfl, rfl⟩ : A11 = A12 ∧ n11 = n12 ∧ c11 = c12 := by simpa [Value.cells] using hy1
  have ok2 := hval 2 22 v2 rfl rfl
  have w2 := weightsEach_get (i := 2) hsz rfl rfl
  obtain ⟨A21, n21, c21, rfl⟩ := okWide_slice Try.underlying22 ok2
  obtain ⟨y2, A22, n22, c22, hy2, hr2⟩ := arg_get oPers h2 w2
  obtain ⟨rfl, rfl, rfl⟩ : A21 = A22 ∧ n21 = n22 ∧ c21 = c22 := by simpa [Value.cells] using hy2
  refine (con_true (law5_SetAlgebra hr0 hr1 hr2) (heapOf_snap W)).mono fun e W' ⟨he, hb⟩ => ?_
  subst he
  exact ⟨_, rfl, post_of_below (pa := _) (pv := []) hW' (fun _ _ _ => trodAll_mk1 (shut_bool Try.underlying4 _))
    (fun sp hsp => trodAll_sp sps hA1 (fun z hz => hb.same (hW'.lt z (by simpa using hz))) (fun z hz => hsp z (by simpa using hz))) (fun _ _ => rfl) rfl hb (ok_one (by kernel_rfl) rfl (okWide_bool_mk Try.underlying4 _))⟩
theorem proved : Rows.SetAlgebraSaid :=
  OpenClaim.holds_of_wide 7 Try.f7 rfl rfl rfl rfl rfl rfl rfl ⟨rfl, rfl, rfl, rfl, rfl⟩ rfl rfl rfl rfl rfl (by kernel_rfl) Try.func7 (by kernel_rfl)
    (of_decide_eq_true (by kernel_rfl)) (by unfold Func.isWrapper; first | (rw [if_pos (by decide +kernel)]; kernel_rfl) | (rw [if_neg (by decide +kernel)]; exact ⟨rfl, rfl⟩))
    (fun os started H enc _ => lifted os started H enc)
#print axioms proved
end Go.Proofs.Yticbeaepmnobnaa.setAlgebra
