/- SetNormalize: IsNormal, Normalize and Len agree with the definition for arbitrary slices. No conditions. -/
import Derived.Test.YticbeaepmnobnaaF5
set_option linter.unusedSectionVars false
set_option linter.unusedSimpArgs false
set_option linter.unusedVariables false
namespace Go.Vc
open Go Go.Proofs Go.Shelf
def an3 : Ann where
  res := fun _ => none
  lend := fun | 4 => true | 6 => true | 7 => true | 10 => true | 12 => true | 20 => true | 24 => true | 26 => true | _ => false
  sch := fun _ => .done
  lt := fun _ => []
  tup := tups

theorem vc3 (P : Program) (H : Heap) (aA : Option Addr) (aN aC : Nat) (post : Bool → Heap → Prop) :
  vcFn P tab an3 Try.f3 [.slice aA aN aC] 0 H ⟨false, [(false, [.bool])]⟩ post =
  (  ∃ (post0 : Bool → Heap → Prop), ConT P 9 [.slice aA aN aC, .slice none 0 0] H ⟨false, [(false, [.bool])]⟩ post0 ∧ ∀ (H1 : Heap), Heap.le H H1 → ∀ (b3 : Bool), post0 b3 H1 → ((!b3) = true →
  ∃ (post6 : Bool → Heap → Prop), ConT P 10 [] H1 ⟨false, [(false, [.bool])]⟩ post6 ∧ ∀ (H7 : Heap), Heap.le H1 H7 → ∀ (b9 : Bool), post6 b9 H7 → post b9 H7) ∧ ((!b3) = false → ∃ (post12 :
  Bool → Heap → Prop), ConT P 10 [] H1 ⟨false, [(false, [.bool])]⟩ post12 ∧ ∀ (H13 : Heap), Heap.le H1 H13 → ∀ (b15 : Bool), post12 b15 H13 → (b15 = true → ∃ (post18 : Bool → Heap → Prop),
  ConT P 11 [.slice aA aN aC] H13 ⟨false, [(false, [.bool])]⟩ post18 ∧ ∀ (H19 : Heap), Heap.le H13 H19 → ∀ (b21 : Bool), post18 b21 H19 → ∃ (post23 : Bool → Heap → Prop), ConT P 12 [.slice aA
  aN aC] H19 ⟨false, [(false, [.bool])]⟩ post23 ∧ ∀ (H24 : Heap), Heap.le H19 H24 → ∀ (b26 : Bool), post23 b26 H24 → ((b21 == b26) = true → ∃ (post29 : Option Addr → Nat → Nat → Heap → Prop),
  ConT P 14 [.slice aA aN aC] H24 ⟨false, [(false, [.sl])]⟩ post29 ∧ ∀ (H30 : Heap), Heap.le H24 H30 → ∀ (A32 : Option Addr) (n33 c34 : Nat), post29 A32 n33 c34 H30 → ∃ (post36 : Option Addr
  → Nat → Nat → Heap → Prop), ConT P 15 [.slice aA aN aC] H30 ⟨false, [(false, [.sl])]⟩ post36 ∧ ∀ (H37 : Heap), Heap.le H30 H37 → ∀ (A39 : Option Addr) (n40 c41 : Nat), post36 A39 n40 c41
  H37 → ∃ (post43 : Bool → Heap → Prop), ConT P 13 [.slice A32 n33 c34, .slice A39 n40 c41] H37 ⟨false, [(false, [.bool])]⟩ post43 ∧ ∀ (H44 : Heap), Heap.le H37 H44 → ∀ (b46 : Bool), post43
  b46 H44 → (b46 = true → ∃ (post49 : Int → Heap → Prop), ConT P 16 [.slice aA aN aC] H44 ⟨false, [(false, [.int .i64])]⟩ post49 ∧ ∀ (H50 : Heap), Heap.le H44 H50 → ∀ (n52 : Int), post49 n52
  H50 → ∃ (post54 : Int → Heap → Prop), ConT P 17 [.slice aA aN aC] H50 ⟨false, [(false, [.int .i64])]⟩ post54 ∧ ∀ (H55 : Heap), Heap.le H50 H55 → ∀ (n57 : Int), post54 n57 H55 → post (decide
  (n52 = n57)) H55) ∧ (b46 = false → post false H44)) ∧ ((b21 == b26) = false → post false H24)) ∧ (b15 = false → post false H13))) := by kernel_rfl
theorem law5_SetNormalize {H : Heap} {A : Option Addr} {n c : Nat} {l : List Per} (hs : Sl H A n c l) :
    ConT Try.prog 3 [.slice A n c] H shB (fun r _ => r = true) := by
  refine con_of_vc (an := an3) (fn := Try.f3) mix tabOK Try.func3 (by kernel_rfl) (extra := 0) ?_
  rw [vc3]
  refine ⟨_, law5_few, ?_⟩
  rintro H1 l1 _ rfl
  refine ⟨fun _ => ⟨_, law5_awake, fun _ _ _ h => h⟩, fun hf => ⟨_, law5_awake, ?_⟩⟩
  rintro H2 l2 _ rfl
  have hs := hs.mono (hle_trans l1 l2)
  refine ⟨fun _ => ⟨_, periodset_IsNormal hs, ?_⟩, fun h => by simp at h⟩
  rintro H3 l3 _ rfl
  have hs := hs.mono l3
  refine ⟨_, ref1_IsNormal hs, ?_⟩
  rintro H4 l4 _ rfl
  have hs := hs.mono l4
  refine ⟨fun _ => ⟨_, periodset_Normalize hs, ?_⟩, fun h => by simp at h⟩
  intro H5 l5 A5 n5 c5 h5
  have hs := hs.mono l5
  refine ⟨_, ref1_Normalize hs, ?_⟩
  intro H6 l6 A6 n6 c6 h6
  have hs := hs.mono l6
  refine ⟨_, ref1_SamePeriods (h5.mono l6) h6, ?_⟩
  rintro H7 l7 _ rfl
  have hs := hs.mono l7
  refine ⟨fun _ => ⟨_, periodset_Len hs, ?_⟩, fun h => by simp at h⟩
  rintro H8 l8 _ rfl
  have hs := hs.mono l8
  refine ⟨_, ref1_Len hs, ?_⟩
  rintro H9 l9 _ rfl
  simp
end Go.Vc
namespace Go.Proofs.Yticbeaepmnobnaa.setNormalize
open Go Go.Vc Go.RowKit Go.WideShapes Go.ChangeShapes
theorem sps : ∀ t ∈ Try.f3.params.toList, SpOK Try.prog t := by
  rw [Try.params3]
  exact List.forall_mem_cons.2 ⟨oPers.sp, fun _ h => by cases h⟩
theorem own : ownKnob Try.prog.godebug = none := by kernel_rfl
set_option maxRecDepth 100000 in
theorem lifted (os : Os) (started : os.Started) (H : Type) (enc : TypeId × Value → H) :
    ReturnsInHanded {} Try.checked os 3 .any (Rows.setNormalizeSpec.pre6 enc Try.prog Try.f3 Rows.setNormalizeRow.domain false) (Rows.setNormalizeSpec.post enc Try.prog Try.f3 false true false false) := by
  refine returnsInHanded_of_change_sized (C := Try.checked) own started (by kernel_rfl) Try.func3
    (ChangeSpec.witness6 (enc := enc) (C := Try.checked) false ⟨#[], #[.slice none 0 0], []⟩ 8 (by kernel_rfl) (by kernel_rfl) (by kernel_rfl) (by kernel_rfl)) ?_
  intro W base args ds gs before hval0 hW hcnd hsz0 _
  have hval : ∀ (j : Nat) t v, Try.f3.params[j]? = some t → args[j]? = some v → Value.okWide Try.prog W .any base t v := hval0
  have hW' := hW
  obtain ⟨p, q, hA0, hV, rfl, hfz, hnd⟩ := hW
  have hA : DataW.TrodAll enc Try.prog W 0 (fun _ => true) true Try.f3.params.toList args.toList ds p := hA0
  have hsz : (DataW.weightsEach Try.prog (Try.f3.params.toList ++ Rows.setNormalizeSpec.plain.varTypes Try.prog) (ds ++ gs)).all (· ≤ reachBytes) = true := hsz0
  have hA1 := hA
  obtain ⟨rfl, rfl⟩ := trodVars_none hV
  rw [Try.params3] at hA hval hsz
  obtain ⟨v0, vs0, d0, ds0, p0, q0, hargs, rfl, rfl, h0, r0⟩ := trodAll_cons hA
  obtain ⟨rfl, rfl, rfl⟩ := trodAll_nil r0
  obtain rfl : args = #[v0] := by cases args; simp_all
  have ok0 := hval 0 22 v0 rfl rfl
  have w0 := weightsEach_get (i := 0) hsz rfl rfl
  obtain ⟨A01, n01, c01, rfl⟩ := okWide_slice Try.underlying22 ok0
  obtain ⟨y0, A02, n02, c02, hy0, hr0⟩ := arg_get oPers h0 w0
  obtain ⟨rfl, rfl, rfl⟩ : A01 = A02 ∧ n01 = n02 ∧ c01 = c02 := by simpa [Value.cells] using hy0
  refine (con_true (law5_SetNormalize hr0) (heapOf_snap W)).mono fun e W' ⟨he, hb⟩ => ?_
  subst he
  exact ⟨_, rfl, post_of_below (pa := _) (pv := []) hW' (fun _ _ _ => trodAll_mk1 (shut_bool Try.underlying4 _))
    (fun sp hsp => trodAll_sp sps hA1 (fun z hz => hb.same (hW'.lt z (by simpa using hz))) (fun z hz => hsp z (by simpa using hz))) (fun _ _ => rfl) rfl hb (ok_one (by kernel_rfl) rfl (okWide_bool_mk Try.underlying4 _))⟩
theorem proved : Rows.SetNormalizeSaid :=
  OpenClaim.holds_of_wide 3 Try.f3 rfl rfl rfl rfl rfl rfl rfl ⟨rfl, rfl, rfl, rfl, rfl⟩ rfl rfl rfl rfl rfl (by kernel_rfl) Try.func3 (by kernel_rfl)
    (of_decide_eq_true (by kernel_rfl)) (by unfold Func.isWrapper; first | (rw [if_pos (by decide +kernel)]; kernel_rfl) | (rw [if_neg (by decide +kernel)]; exact ⟨rfl, rfl⟩))
    (fun os started H enc _ => lifted os started H enc)
#print axioms proved
end Go.Proofs.Yticbeaepmnobnaa.setNormalize
