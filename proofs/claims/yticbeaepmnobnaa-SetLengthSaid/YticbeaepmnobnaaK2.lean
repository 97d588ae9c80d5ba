/- SetLength: the lengths of a union and an intersection add up to the lengths of both sets. No conditions. -/
import Derived.Test.YticbeaepmnobnaaF5
set_option linter.unusedSectionVars false
set_option linter.unusedSimpArgs false
set_option linter.unusedVariables false
namespace Go.Vc
open Go Go.Proofs Go.Shelf
theorem lenS_rng (l : List Per) : 0 ≤ lenS l ∧ lenS l ≤ 1099511627777 := sumL_rng (norm_nrm l)
def an4 : Ann where
  res := fun _ => none
  lend := fun | 7 => true | 9 => true | 10 => true | 15 => true | 19 => true | 22 => true | 24 => true | _ => false
  sch := fun _ => .done
  lt := fun _ => []
  tup := tups

theorem vc4 (P : Program) (H : Heap) (aA : Option Addr) (aN aC : Nat) (bA : Option Addr) (bN bC : Nat) (post : Bool → Heap → Prop) :
  vcFn P tab an4 Try.f4 [.slice aA aN aC, .slice bA bN bC] 0 H ⟨false, [(false, [.bool])]⟩ post =
  (  ∃ (post0 : Bool → Heap → Prop), ConT P 9 [.slice aA aN aC, .slice bA bN bC] H ⟨false, [(false, [.bool])]⟩ post0 ∧ ∀ (H1 : Heap), Heap.le H H1 → ∀ (b3 : Bool), post0 b3 H1 → ((!b3) = true →
  ∃ (post6 : Bool → Heap → Prop), ConT P 10 [] H1 ⟨false, [(false, [.bool])]⟩ post6 ∧ ∀ (H7 : Heap), Heap.le H1 H7 → ∀ (b9 : Bool), post6 b9 H7 → post b9 H7) ∧ ((!b3) = false → ∃ (post12 :
  Bool → Heap → Prop), ConT P 10 [] H1 ⟨false, [(false, [.bool])]⟩ post12 ∧ ∀ (H13 : Heap), Heap.le H1 H13 → ∀ (b15 : Bool), post12 b15 H13 → (b15 = true → ∃ (post18 : Option Addr → Nat → Nat
  → Heap → Prop), ConT P 18 [.slice aA aN aC, .slice bA bN bC] H13 ⟨false, [(false, [.sl])]⟩ post18 ∧ ∀ (H19 : Heap), Heap.le H13 H19 → ∀ (A21 : Option Addr) (n22 c23 : Nat), post18 A21 n22
  c23 H19 → ∃ (post25 : Int → Heap → Prop), ConT P 16 [.slice A21 n22 c23] H19 ⟨false, [(false, [.int .i64])]⟩ post25 ∧ ∀ (H26 : Heap), Heap.le H19 H26 → ∀ (n28 : Int), post25 n28 H26 → ∃
  (post30 : Option Addr → Nat → Nat → Heap → Prop), ConT P 19 [.slice aA aN aC, .slice bA bN bC] H26 ⟨false, [(false, [.sl])]⟩ post30 ∧ ∀ (H31 : Heap), Heap.le H26 H31 → ∀ (A33 : Option Addr)
  (n34 c35 : Nat), post30 A33 n34 c35 H31 → ∃ (post37 : Int → Heap → Prop), ConT P 16 [.slice A33 n34 c35] H31 ⟨false, [(false, [.int .i64])]⟩ post37 ∧ ∀ (H38 : Heap), Heap.le H31 H38 → ∀
  (n40 : Int), post37 n40 H38 → rng .i64 (n28 + n40) ∧ ∃ (post42 : Int → Heap → Prop), ConT P 16 [.slice aA aN aC] H38 ⟨false, [(false, [.int .i64])]⟩ post42 ∧ ∀ (H43 : Heap), Heap.le H38 H43
  → ∀ (n45 : Int), post42 n45 H43 → ∃ (post47 : Int → Heap → Prop), ConT P 16 [.slice bA bN bC] H43 ⟨false, [(false, [.int .i64])]⟩ post47 ∧ ∀ (H48 : Heap), Heap.le H43 H48 → ∀ (n50 : Int),
  post47 n50 H48 → rng .i64 (n45 + n50) ∧ post (decide (n28 + n40 = n45 + n50)) H48) ∧ (b15 = false → post false H13))) := by kernel_rfl
theorem law5_SetLength {H : Heap} {A B : Option Addr} {n c m d : Nat} {l k : List Per} (hs : Sl H A n c l) (ht : Sl H B m d k) :
    ConT Try.prog 4 [.slice A n c, .slice B m d] H shB (fun r _ => r = true) := by
  refine con_of_vc (an := an4) (fn := Try.f4) mix tabOK Try.func4 (by kernel_rfl) (extra := 0) ?_
  rw [vc4]
  refine ⟨_, law5_few, ?_⟩
  rintro H1 l1 _ rfl
  refine ⟨fun _ => ⟨_, law5_awake, fun _ _ _ h => h⟩, fun hf => ⟨_, law5_awake, ?_⟩⟩
  simp only [Bool.not_eq_false'] at hf
  have hb := few_bound hf
  rintro H2 l2 _ rfl
  have hs := hs.mono (hle_trans l1 l2); have ht := ht.mono (hle_trans l1 l2)
  refine ⟨fun _ => ⟨_, periodset_Union hs ht hb, ?_⟩, fun h => by simp at h⟩
  intro H3 l3 A3 n3 c3 h3
  have hs := hs.mono l3; have ht := ht.mono l3
  refine ⟨_, periodset_Len h3, ?_⟩
  rintro H4 l4 _ rfl
  have hs := hs.mono l4; have ht := ht.mono l4
  refine ⟨_, periodset_Intersect hs ht, ?_⟩
  intro H5 l5 A5 n5 c5 h5
  have hs := hs.mono l5; have ht := ht.mono l5
  refine ⟨_, periodset_Len h5, ?_⟩
  rintro H6 l6 _ rfl
  have hs := hs.mono l6; have ht := ht.mono l6
  have q1 := lenS_rng (union l k); have q2 := lenS_rng (isect l k); have q3 := lenS_rng l; have q4 := lenS_rng k
  refine ⟨by simp only [rng]; omega, _, periodset_Len hs, ?_⟩
  rintro H7 l7 _ rfl
  have ht := ht.mono l7
  refine ⟨_, periodset_Len ht, ?_⟩
  rintro H8 l8 _ rfl
  refine ⟨by simp only [rng]; omega, ?_⟩
  rw [decide_eq_true_eq]
  exact len_law l k
end Go.Vc
namespace Go.Proofs.Yticbeaepmnobnaa.setLength
open Go Go.Vc Go.RowKit Go.WideShapes Go.ChangeShapes
theorem sps : ∀ t ∈ Try.f4.params.toList, SpOK Try.prog t := by
  rw [Try.params4]
  exact List.forall_mem_cons.2 ⟨oPers.sp, List.forall_mem_cons.2 ⟨oPers.sp, fun _ h => by cases h⟩⟩
theorem own : ownKnob Try.prog.godebug = none := by kernel_rfl
set_option maxRecDepth 100000 in
theorem lifted (os : Os) (started : os.Started) (H : Type) (enc : TypeId × Value → H) :
    ReturnsInHanded {} Try.checked os 4 .any (Rows.setLengthSpec.pre6 enc Try.prog Try.f4 Rows.setLengthRow.domain false) (Rows.setLengthSpec.post enc Try.prog Try.f4 false true false false) := by
  refine returnsInHanded_of_change_sized (C := Try.checked) own started (by kernel_rfl) Try.func4
    (ChangeSpec.witness6 (enc := enc) (C := Try.checked) false ⟨#[], #[.slice none 0 0, .slice none 0 0], []⟩ 8 (by kernel_rfl) (by kernel_rfl) (by kernel_rfl) (by kernel_rfl)) ?_
  intro W base args ds gs before hval0 hW hcnd hsz0 _
  have hval : ∀ (j : Nat) t v, Try.f4.params[j]? = some t → args[j]? = some v → Value.okWide Try.prog W .any base t v := hval0
  have hW' := hW
  obtain ⟨p, q, hA0, hV, rfl, hfz, hnd⟩ := hW
  have hA : DataW.TrodAll enc Try.prog W 0 (fun _ => true) true Try.f4.params.toList args.toList ds p := hA0
  have hsz : (DataW.weightsEach Try.prog (Try.f4.params.toList ++ Rows.setLengthSpec.plain.varTypes Try.prog) (ds ++ gs)).all (· ≤ reachBytes) = true := hsz0
  have hA1 := hA
  obtain ⟨rfl, rfl⟩ := trodVars_none hV
  rw [Try.params4] at hA hval hsz
  obtain ⟨v0, vs0, d0, ds0, p0, q0, hargs, rfl, rfl, h0, r0⟩ := trodAll_cons hA
  obtain ⟨v1, vs1, d1, ds1, p1, q1, rfl, rfl, rfl, h1, r1⟩ := trodAll_cons r0
  obtain ⟨rfl, rfl, rfl⟩ := trodAll_nil r1
  obtain rfl : args = #[v0, v1] := by cases args; simp_all
  have ok0 := hval 0 22 v0 rfl rfl
  have w0 := weightsEach_get (i := 0) hsz rfl rfl
  obtain ⟨A01, n01, c01, rfl⟩ := okWide_slice Try.underlying22 ok0
  obtain ⟨y0, A02, n02, c02, hy0, hr0⟩ := arg_get oPers h0 w0
  obtain ⟨rfl, rfl, rfl⟩ : A01 = A02 ∧ n01 = n02 ∧ c01 = c02 := by simpa [Value.cells] using hy0
  have ok1 := hval 1 22 v1 rfl rfl
  have w1 := weightsEach_get (i := 1) hsz rfl rfl
  obtain ⟨A11, n11, c11, rfl⟩ := okWide_slice Try.underlying22 ok1
  obtain ⟨y1, A12, n12, c12, hy1, hr1⟩ := arg_get oPers h1 w1
  obtain ⟨rfl, rfl, rfl⟩ : A11 = A12 ∧ n11 = n12 ∧ c11 = c12 := by simpa [Value.cells] using hy1
  refine (con_true (law5_SetLength hr0 hr1) (heapOf_snap W)).mono fun e W' ⟨he, hb⟩ => ?_
  subst he
  exact ⟨_, rfl, post_of_below (pa := _) (pv := []) hW' (fun _ _ _ => trodAll_mk1 (shut_bool Try.underlying4 _))
    (fun sp hsp => trodAll_sp sps hA1 (fun z hz => hb.same (hW'.lt z (by simpa using hz))) (fun z hz => hsp z (by simpa using hz))) (fun _ _ => rfl) rfl hb (ok_one (by kernel_rfl) rfl (okWide_bool_mk Try.underlying4 _))⟩
theorem proved : Rows.SetLengthSaid :=
  OpenClaim.holds_of_wide 4 Try.f4 rfl rfl rfl rfl rfl rfl rfl ⟨rfl, rfl, rfl, rfl, rfl⟩ rfl rfl rfl rfl rfl (by kernel_rfl) Try.func4 (by kernel_rfl)
    (of_decide_eq_true (by kernel_rfl)) (by unfold Func.isWrapper; first | (rw [if_pos (by decide +kernel)]; kernel_rfl) | (rw [if_neg (by decide +kernel)]; exact ⟨rfl, rfl⟩))
    (fun os started H enc _ => lifted os started H enc)
#print axioms proved
end Go.Proofs.Yticbeaepmnobnaa.setLength
