/- SetOperations: Union, Intersect and Subtract agree with the definition for arbitrary slices. No conditions. -/
import Derived.Test.YticbeaepmnobnaaF5
set_option linter.unusedSectionVars false
set_option linter.unusedSimpArgs false
set_option linter.unusedVariables false
namespace Go.Vc
open Go Go.Proofs Go.Shelf
def an5 : Ann where
  res := fun _ => none
  lend := fun | 7 => true | 9 => true | 10 => true | 18 => true | 27 => true | 36 => true | _ => false
  sch := fun _ => .done
  lt := fun _ => []
  tup := tups

theorem vc5 (P : Program) (H : Heap) (aA : Option Addr) (aN aC : Nat) (bA : Option Addr) (bN bC : Nat) (post : Bool → Heap → Prop) :
  vcFn P tab an5 Try.f5 [.slice aA aN aC, .slice bA bN bC] 0 H ⟨false, [(false, [.bool])]⟩ post =
  (  ∃ (post0 : Bool → Heap → Prop), ConT P 9 [.slice aA aN aC, .slice bA bN bC] H ⟨false, [(false, [.bool])]⟩ post0 ∧ ∀ (H1 : Heap), Heap.le H H1 → ∀ (b3 : Bool), post0 b3 H1 → ((!b3) = true →
  ∃ (post6 : Bool → Heap → Prop), ConT P 10 [] H1 ⟨false, [(false, [.bool])]⟩ post6 ∧ ∀ (H7 : Heap), Heap.le H1 H7 → ∀ (b9 : Bool), post6 b9 H7 → post b9 H7) ∧ ((!b3) = false → ∃ (post12 :
  Bool → Heap → Prop), ConT P 10 [] H1 ⟨false, [(false, [.bool])]⟩ post12 ∧ ∀ (H13 : Heap), Heap.le H1 H13 → ∀ (b15 : Bool), post12 b15 H13 → (b15 = true → ∃ (post18 : Option Addr → Nat → Nat
  → Heap → Prop), ConT P 18 [.slice aA aN aC, .slice bA bN bC] H13 ⟨false, [(false, [.sl])]⟩ post18 ∧ ∀ (H19 : Heap), Heap.le H13 H19 → ∀ (A21 : Option Addr) (n22 c23 : Nat), post18 A21 n22
  c23 H19 → ∃ (post25 : Option Addr → Nat → Nat → Heap → Prop), ConT P 20 [.slice aA aN aC, .slice bA bN bC] H19 ⟨false, [(false, [.sl])]⟩ post25 ∧ ∀ (H26 : Heap), Heap.le H19 H26 → ∀ (A28 :
  Option Addr) (n29 c30 : Nat), post25 A28 n29 c30 H26 → ∃ (post32 : Bool → Heap → Prop), ConT P 13 [.slice A21 n22 c23, .slice A28 n29 c30] H26 ⟨false, [(false, [.bool])]⟩ post32 ∧ ∀ (H33 :
  Heap), Heap.le H26 H33 → ∀ (b35 : Bool), post32 b35 H33 → (b35 = true → ∃ (post38 : Option Addr → Nat → Nat → Heap → Prop), ConT P 19 [.slice aA aN aC, .slice bA bN bC] H33 ⟨false, [(false,
  [.sl])]⟩ post38 ∧ ∀ (H39 : Heap), Heap.le H33 H39 → ∀ (A41 : Option Addr) (n42 c43 : Nat), post38 A41 n42 c43 H39 → ∃ (post45 : Option Addr → Nat → Nat → Heap → Prop), ConT P 21 [.slice aA
  aN aC, .slice bA bN bC] H39 ⟨false, [(false, [.sl])]⟩ post45 ∧ ∀ (H46 : Heap), Heap.le H39 H46 → ∀ (A48 : Option Addr) (n49 c50 : Nat), post45 A48 n49 c50 H46 → ∃ (post52 : Bool → Heap →
  Prop), ConT P 13 [.slice A41 n42 c43, .slice A48 n49 c50] H46 ⟨false, [(false, [.bool])]⟩ post52 ∧ ∀ (H53 : Heap), Heap.le H46 H53 → ∀ (b55 : Bool), post52 b55 H53 → (b55 = true → ∃ (post58
  : Option Addr → Nat → Nat → Heap → Prop), ConT P 22 [.slice aA aN aC, .slice bA bN bC] H53 ⟨false, [(false, [.sl])]⟩ post58 ∧ ∀ (H59 : Heap), Heap.le H53 H59 → ∀ (A61 : Option Addr) (n62
  c63 : Nat), post58 A61 n62 c63 H59 → ∃ (post65 : Option Addr → Nat → Nat → Heap → Prop), ConT P 23 [.slice aA aN aC, .slice bA bN bC] H59 ⟨false, [(false, [.sl])]⟩ post65 ∧ ∀ (H66 : Heap),
  Heap.le H59 H66 → ∀ (A68 : Option Addr) (n69 c70 : Nat), post65 A68 n69 c70 H66 → ∃ (post72 : Bool → Heap → Prop), ConT P 13 [.slice A61 n62 c63, .slice A68 n69 c70] H66 ⟨false, [(false,
  [.bool])]⟩ post72 ∧ ∀ (H73 : Heap), Heap.le H66 H73 → ∀ (b75 : Bool), post72 b75 H73 → post b75 H73) ∧ (b55 = false → post false H53)) ∧ (b35 = false → post false H33)) ∧ (b15 = false →
  post false H13))) := by kernel_rfl
theorem law5_SetOperations {H : Heap} {A B : Option Addr} {n c m d : Nat} {l k : List Per} (hs : Sl H A n c l) (ht : Sl H B m d k) :
    ConT Try.prog 5 [.slice A n c, .slice B m d] H shB (fun r _ => r = true) := by
  refine con_of_vc (an := an5) (fn := Try.f5) mix tabOK Try.func5 (by kernel_rfl) (extra := 0) ?_
  rw [vc5]
  refine ⟨_, law5_few, ?_⟩
  rintro H1 l1 _ rfl
  refine ⟨fun _ => ⟨_, law5_awake, fun _ _ _ h => h⟩, fun hf => ⟨_, law5_awake, ?_⟩⟩
  simp only [Bool.not_eq_false'] at hf
  have hb := few_bound hf
  rintro H2 l2 _ rfl
  have hs := hs.mono (hle_trans l1 l2); have ht := ht.mono (hle_trans l1 l2)
  refine ⟨fun _ => ⟨_, periodset_Union hs ht hb, ?_⟩, fun h => by simp at h⟩
  intro H3 l3 A3 n3 c3 h3
  have hs := hs.mono l3; have ht := ht.mono l3
  refine ⟨_, ref1_UnionSet hs ht hb, ?_⟩
  intro H4 l4 A4 n4 c4 h4
  have hs := hs.mono l4; have ht := ht.mono l4
  refine ⟨_, ref1_SamePeriods (h3.mono l4) h4, ?_⟩
  rintro H5 l5 _ rfl
  have hs := hs.mono l5; have ht := ht.mono l5
  refine ⟨fun _ => ⟨_, periodset_Intersect hs ht, ?_⟩, fun h => by simp at h⟩
  intro H6 l6 A6 n6 c6 h6
  have hs := hs.mono l6; have ht := ht.mono l6
  refine ⟨_, ref1_IntersectSet hs ht, ?_⟩
  intro H7 l7 A7 n7 c7 h7
  have hs := hs.mono l7; have ht := ht.mono l7
  refine ⟨_, ref1_SamePeriods (h6.mono l7) h7, ?_⟩
  rintro H8 l8 _ rfl
  have hs := hs.mono l8; have ht := ht.mono l8
  refine ⟨fun _ => ⟨_, periodset_Subtract hs ht, ?_⟩, fun h => by simp at h⟩
  intro H9 l9 A9 n9 c9 h9
  have hs := hs.mono l9; have ht := ht.mono l9
  refine ⟨_, ref1_SubtractSet hs ht, ?_⟩
  intro H10 l10 A10 n10 c10 h10
  refine ⟨_, ref1_SamePeriods (h9.mono l10) h10, ?_⟩
  rintro H11 l11 _ rfl
  simp
end Go.Vc
namespace Go.Proofs.Yticbeaepmnobnaa.setOperations
open Go Go.Vc Go.RowKit Go.WideShapes Go.ChangeShapes
theorem sps : ∀ t ∈ Try.f5.params.toList, SpOK Try.prog t := by
  rw [Try.params5]
  exact List.forall_mem_cons.2 ⟨oPers.sp, List.forall_mem_cons.2 ⟨oPers.sp, fun _ h => by cases h⟩⟩
theorem own : ownKnob Try.prog.godebug = none := by kernel_rfl
set_option maxRecDepth 100000 in
theorem lifted (os : Os) (started : os.Started) (H : Type) (enc : TypeId × Value → H) :
    ReturnsInHanded {} Try.checked os 5 .any (Rows.setOperationsSpec.pre6 enc Try.prog Try.f5 Rows.setOperationsRow.domain false) (Rows.setOperationsSpec.post enc Try.prog Try.f5 false true false false) := by
  refine returnsInHanded_of_change_sized (C := Try.checked) own started (by kernel_rfl) Try.func5
    (ChangeSpec.witness6 (enc := enc) (C := Try.checked) false ⟨#[], #[.slice none 0 0, .slice none 0 0], []⟩ 8 (by kernel_rfl) (by kernel_rfl) (by kernel_rfl) (by kernel_rfl)) ?_
  intro W base args ds gs before hval0 hW hcnd hsz0 _
  have hval : ∀ (j : Nat) t v, Try.f5.params[j]? = some t → args[j]? = some v → Value.okWide Try.prog W .any base t v := hval0
  have hW' := hW
  obtain ⟨p, q, hA0, hV, rfl, hfz, hnd⟩ := hW
  have hA : DataW.TrodAll enc Try.prog W 0 (fun _ => true) true Try.f5.params.toList args.toList ds p := hA0
  have hsz : (DataW.weightsEach Try.prog (Try.f5.params.toList ++ Rows.setOperationsSpec.plain.varTypes Try.prog) (ds ++ gs)).all (· ≤ reachBytes) = true := hsz0
  have hA1 := hA
  obtain ⟨rfl, rfl⟩ := trodVars_none hV
  rw [Try.params5] at hA hval hsz
  obtain ⟨v0, vs0, d0, ds0, p0, q0, hargs, rfl, rfl, h0, r0⟩ := trodAll_cons hA
  obtain ⟨v1, vs1, d1, ds1, p1, q1, rfl, rfl, rfl, h1, r1⟩ := trodAll_cons r0
  obtain ⟨rfl, rfl, rfl⟩ := trodAll_nil r1
  obtain rfl : args = #[v0, v1] := by cases args; simp_all
  have ok0 := hval 0 22 v0 rfl rfl
  have w0 := weightsEach_get (i := 0) hsz rfl rfl
  obtain ⟨A01, n01, c01, rfl⟩ := okWide_slice Try.underlying22 ok0
  obtain ⟨y0, A02, n02, c02, hy0, hr0⟩ := arg_get oPers h0 w0
  obtain ⟨rfl, rfl, rfl⟩ : A01 = A02 ∧ n01 = n02 ∧ c01 = c02 := by simpa [Value.cells] using hy0
  have ok1 := hval 1 22 v1 rfl rfl
  have w1 := weightsEach_get (i := 1) hsz rfl rfl
  obtain ⟨A11, n11, c11, rfl⟩ := okWide_slice Try.underlying22 ok1
  obtain ⟨y1, A12, n12, c12, hy1, hr1⟩ := arg_get oPers h1 w1
  obtain ⟨rfl, rfl, rfl⟩ : A11 = A12 ∧ n11 = n12 ∧ c11 = c12 := by simpa [Value.cells] using hy1
  refine (con_true (law5_SetOperations hr0 hr1) (heapOf_snap W)).mono fun e W' ⟨he, hb⟩ => ?_
  subst he
  exact ⟨_, rfl, post_of_below (pa := _) (pv := []) hW' (fun _ _ _ => trodAll_mk1 (shut_bool Try.underlying4 _))
    (fun sp hsp => trodAll_sp sps hA1 (fun z hz => hb.same (hW'.lt z (by simpa using hz))) (fun z hz => hsp z (by simpa using hz))) (fun _ _ => rfl) rfl hb (ok_one (by kernel_rfl) rfl (okWide_bool_mk Try.underlying4 _))⟩
theorem proved : Rows.SetOperationsSaid :=
  OpenClaim.holds_of_wide 5 Try.f5 rfl rfl rfl rfl rfl rfl rfl ⟨rfl, rfl, rfl, rfl, rfl⟩ rfl rfl rfl rfl rfl (by kernel_rfl) Try.func5 (by kernel_rfl)
    (of_decide_eq_true (by kernel_rfl)) (by unfold Func.isWrapper; first | (rw [if_pos (by decide +kernel)]; kernel_rfl) | (rw [if_neg (by decide +kernel)]; exact ⟨rfl, rfl⟩))
    (fun os started H enc _ => lifted os started H enc)
#print axioms proved
end Go.Proofs.Yticbeaepmnobnaa.setOperations
