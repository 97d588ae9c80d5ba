/- TimelineAgrees: At returns exactly the versions whose recorded period includes the instant. No conditions. -/
import Derived.Test.YteogpcpleokfbaaGJAg19
import Derived.Test.YteogpcpleokfbaaGJAg21
import Derived.Test.YteogpcpleokfbaaRows
import Derived.ProofKit
set_option linter.unusedSectionVars false
set_option linter.unusedSimpArgs false
set_option linter.unusedVariables false
namespace Go.Proofs.Yteogpcpleokfbaa.timelineAgrees
open Go Go.Vc Go.RowKit Go.WideShapes Go.ChangeShapes
theorem sps : ∀ t ∈ Try.f9.params.toList, SpOK Try.prog t := by
  rw [Try.params9]
  exact List.forall_mem_cons.2 ⟨oU6s.sp, List.forall_mem_cons.2 ⟨oU16.sp, List.forall_mem_cons.2 ⟨oU16.sp, fun _ h => by cases h⟩⟩⟩
theorem own : ownKnob Try.prog.godebug = none := by kernel_rfl
set_option maxRecDepth 100000 in
theorem lifted (os : Os) (started : os.Started) (H : Type) (enc : TypeId × Value → H) :
    ReturnsInHanded {} Try.checked os 9 .any (Rows.timelineAgreesSpec.pre6 enc Try.prog Try.f9 Rows.timelineAgreesRow.domain false) (Rows.timelineAgreesSpec.post enc Try.prog Try.f9 false true false false) := by
  refine returnsInHanded_of_change_sized (C := Try.checked) own started (by kernel_rfl) Try.func9
    (ChangeSpec.witness6 (enc := enc) (C := Try.checked) false ⟨#[], #[.slice none 0 0, .int .u16 0, .int .u16 0], []⟩ 8 (by kernel_rfl) (by kernel_rfl) (by kernel_rfl) (by kernel_rfl)) ?_
  intro W base args ds gs before hval0 hW hcnd hsz0 _
  have hval : ∀ (j : Nat) t v, Try.f9.params[j]? = some t → args[j]? = some v → Value.okWide Try.prog W .any base t v := hval0
  have hW' := hW
  obtain ⟨p, q, hA0, hV, rfl, hfz, hnd⟩ := hW
  have hA : DataW.TrodAll enc Try.prog W 0 (fun _ => true) true Try.f9.params.toList args.toList ds p := hA0
  have hsz : (DataW.weightsEach Try.prog (Try.f9.params.toList ++ Rows.timelineAgreesSpec.plain.varTypes Try.prog) (ds ++ gs)).all (· ≤ reachBytes) = true := hsz0
  have hA1 := hA
  obtain ⟨rfl, rfl⟩ := trodVars_none hV
  rw [Try.params9] at hA hval hsz
  obtain ⟨v0, vs0, d0, ds0, p0, q0, hargs, rfl, rfl, h0, r0⟩ := trodAll_cons hA
  obtain ⟨v1, vs1, d1, ds1, p1, q1, rfl, rfl, rfl, h1, r1⟩ := trodAll_cons r0
  obtain ⟨v2, vs2, d2, ds2, p2, q2, rfl, rfl, rfl, h2, r2⟩ := trodAll_cons r1
  obtain ⟨rfl, rfl, rfl⟩ := trodAll_nil r2
  obtain rfl : args = #[v0, v1, v2] := by cases args; simp_all
  have ok0 := hval 0 41 v0 rfl rfl
  have w0 := weightsEach_get (i := 0) hsz rfl rfl
  obtain ⟨A01, n01, c01, rfl⟩ := okWide_slice Try.underlying41 ok0
  obtain ⟨y0, A02, n02, c02, hy0, hr0⟩ := arg_get oU6s h0 w0
  obtain ⟨rfl, rfl, rfl⟩ : A01 = A02 ∧ n01 = n02 ∧ c01 = c02 := by simpa [Value.cells] using hy0
  have ok1 := hval 1 38 v1 rfl rfl
  have w1 := weightsEach_get (i := 1) hsz rfl rfl
  obtain ⟨x1, rfl⟩ := okWide_int Try.underlying38 ok1
  obtain ⟨y1, hy1, hr1⟩ := arg_get oU16 h1 w1
  obtain rfl : x1 = y1.n := by simpa [Value.cells] using hy1
  have ok2 := hval 2 38 v2 rfl rfl
  have w2 := weightsEach_get (i := 2) hsz rfl rfl
  obtain ⟨x2, rfl⟩ := okWide_int Try.underlying38 ok2
  obtain ⟨y2, hy2, hr2⟩ := arg_get oU16 h2 w2
  obtain rfl : x2 = y2.n := by simpa [Value.cells] using hy2
  refine (con_true (law26_TimelineAgrees hr0 hr1 hr2) (heapOf_snap W)).mono fun e W' ⟨he, hb⟩ => ?_
  subst he
  exact ⟨_, rfl, post_of_below (pa := _) (pv := []) hW' (fun _ _ _ => trodAll_mk1 (shut_bool Try.underlying4 _))
    (fun sp hsp => trodAll_sp sps hA1 (fun z hz => hb.same (hW'.lt z (by simpa using hz))) (fun z hz => hsp z (by simpa using hz))) (fun _ _ => rfl) rfl hb (ok_one (by kernel_rfl) rfl (okWide_bool_mk Try.underlying4 _))⟩
theorem proved : Rows.TimelineAgreesSaid :=
  OpenClaim.holds_of_wide 9 Try.f9 rfl rfl rfl rfl rfl rfl rfl ⟨rfl, rfl, rfl, rfl, rfl⟩ rfl rfl rfl rfl rfl (by kernel_rfl) Try.func9 (by kernel_rfl)
    (of_decide_eq_true (by kernel_rfl)) (by unfold Func.isWrapper; first | (rw [if_pos (by decide +kernel)]; kernel_rfl) | (rw [if_neg (by decide +kernel)]; exact ⟨rfl, rfl⟩))
    (fun os started H enc _ => lifted os started H enc)
#print axioms proved
end Go.Proofs.Yteogpcpleokfbaa.timelineAgrees
