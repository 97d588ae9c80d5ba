/- ForeignKeyRaw: Covered, Violations and Holds agree with the definition for arguments that hold together at most 1048576 values and letters. Conditions: that bound; the tables of package strconv and math/bits stand as the program's text lays them (tied by the card). -/
import Derived.Test.YtdgcjfnpfpbcfaaGreatDoorGJV23
import Derived.Test.YtdgcjfnpfpbcfaaGreatDoorGJV27
import Derived.Test.YtdgcjfnpfpbcfaaGreatDoorRows
import Derived.Test.YtdgcjfnpfpbcfaaGreatDoorCards
import Derived.Test.YtdgcjfnpfpbcfaaGreatDoorTie
import Derived.ProofKit
import Derived.SevenTiedAt
import Derived.Deep.DeepHandedRow
import Derived.Deep.DeepWitnessRowRef
set_option linter.unusedSectionVars false
set_option linter.unusedSimpArgs false
set_option linter.unusedVariables false
namespace Go.Proofs.YtdgcjfnpfpbcfaaGreatDoor.foreignKeyRaw
open Go Go.Vc Go.RowKit Go.WideShapes Go.ChangeShapes
theorem sps : ∀ t ∈ Tryz.f3.params.toList, SpOK Tryz.prog t := by
  rw [Tryz.params3]
  exact (List.forall_mem_cons.2 ⟨oTups.sp, (List.forall_mem_cons.2 ⟨oTups.sp, (List.forall_mem_cons.2 ⟨oInts.sp, (List.forall_mem_cons.2 ⟨oInts.sp, (List.forall_mem_cons.2 ⟨oVals.sp, fun _ h => by cases h⟩)⟩)⟩)⟩)⟩)
theorem own : ownKnob Tryz.prog.godebug = none := by kernel_rfl
theorem reads (os : Os) {H : Type} (enc : TypeId × Value → H) : ∃ places, DataW.whole enc Tryz.prog ((World.doorLaid Tryz.prog 400 os).forCall (fun _ _ => 0) ⟨#[], #[.slice none 0 0, .slice none 0 0, .slice none 0 0, .slice none 0 0, .slice none 0 0], []⟩).memory Tryz.f3.params.toList Rows.foreignKeyRawSpec.vars false (#[.slice none 0 0, .slice none 0 0, .slice none 0 0, .slice none 0 0, .slice none 0 0] : Array Value).toList 8 = some ([.nil, .nil, .nil, .nil, .nil], [], places) :=
  ⟨[], by kernel_rfl⟩
set_option maxRecDepth 100000 in
theorem lifted (os : Os) (started : os.Started) (H : Type) (enc : TypeId × Value → H) (F : Stop.Interp) :
    ReturnsInHanded {} Tryz.checked os 3 .any ((Rows.OpenSpec.upto Rows.foreignKeyRawSpec).preRow enc Tryz.prog Tryz.f3 Rows.foreignKeyRawUptoRow.domain false Rows.foreignKeyRawUptoRow.laid) (((Rows.OpenSpec.upto Rows.foreignKeyRawSpec).at F).post enc Tryz.prog Tryz.f3 false true false false) := by
  obtain ⟨places, hx⟩ := reads os enc
  refine returnsInHanded_of_row (C := Tryz.checked) (s := Rows.OpenSpec.upto Rows.foreignKeyRawSpec) own started (by kernel_rfl) Tryz.func3
    (witness_row_atRef (enc := enc) (C := Tryz.checked) false (World.doorLaid Tryz.prog 400 os) #[.slice none 0 0, .slice none 0 0, .slice none 0 0, .slice none 0 0, .slice none 0 0] rfl (by kernel_rfl) (by kernel_rfl) (by kernel_rfl)
      (OpenSpec.preRow_of_cond 8 hx (by kernel_rfl) (fun k hk => by cases hk; kernel_rfl) (by kernel_rfl) (door_met os _))) ?_
  intro W base args ds gs before hval0 hW hcnd hcond hsz0 hL _ _
  have hTab := tabH_of (tabW_of (show laidMetH Tryz.prog laidL W from hL))
  have hval : ∀ (j : Nat) t v, Tryz.f3.params[j]? = some t → args[j]? = some v → Value.okWide Tryz.prog W .any base t v := hval0
  have hW' := hW
  obtain ⟨p, q, hA0, hV, rfl, hfz, hnd⟩ := hW
  have hA : DataW.TrodAll enc Tryz.prog W 0 (fun _ => true) true Tryz.f3.params.toList args.toList ds p := hA0
  have hsz : (DataW.weightsEach Tryz.prog (Tryz.f3.params.toList ++ Rows.foreignKeyRawSpec.plain.varTypes Tryz.prog) (ds ++ gs)).all (· ≤ reachBytes) = true := hsz0
  have hA1 := hA
  obtain ⟨rfl, rfl⟩ := trodVars_none hV
  have hbk : bulks (ds ++ []) ≤ 1048576 := of_decide_eq_true (hcond _ rfl)
  rw [Tryz.params3] at hA hval hsz
  obtain ⟨v0, vs0, d0, ds0, p0, q0, hargs, rfl, rfl, h0, r0⟩ := trodAll_cons hA
  obtain ⟨v1, vs1, d1, ds1, p1, q1, rfl, rfl, rfl, h1, r1⟩ := trodAll_cons r0
  obtain ⟨v2, vs2, d2, ds2, p2, q2, rfl, rfl, rfl, h2, r2⟩ := trodAll_cons r1
  obtain ⟨v3, vs3, d3, ds3, p3, q3, rfl, rfl, rfl, h3, r3⟩ := trodAll_cons r2
  obtain ⟨v4, vs4, d4, ds4, p4, q4, rfl, rfl, rfl, h4, r4⟩ := trodAll_cons r3
  obtain ⟨rfl, rfl, rfl⟩ := trodAll_nil r4
  obtain rfl : args = #[v0, v1, v2, v3, v4] := by cases args; simp_all
  have ok0 := hval 0 22 v0 rfl rfl
  have w0 := weightsEach_get (i := 0) hsz rfl rfl
  obtain ⟨A01, n01, c01, rfl⟩ := okWide_slice Tryz.underlying22 ok0
  obtain ⟨y0, ⟨A02, n02, c02, hy0, hr0⟩, hm0⟩ := arg_getB bTups h0 w0
  obtain ⟨rfl, rfl, rfl⟩ : A01 = A02 ∧ n01 = n02 ∧ c01 = c02 := by simpa [Value.cells] using hy0
  have hb0 : bulk d0 ≤ 1048576 := Nat.le_trans (bulk_part (by simp)) hbk
  have ok1 := hval 1 22 v1 rfl rfl
  have w1 := weightsEach_get (i := 1) hsz rfl rfl
  obtain ⟨A11, n11, c11, rfl⟩ := okWide_slice Tryz.underlying22 ok1
  obtain ⟨y1, ⟨A12, n12, c12, hy1, hr1⟩, hm1⟩ := arg_getB bTups h1 w1
  obtain ⟨rfl, rfl, rfl⟩ : A11 = A12 ∧ n11 = n12 ∧ c11 = c12 := by simpa [Value.cells] using hy1
  have hb1 : bulk d1 ≤ 1048576 := Nat.le_trans (bulk_part (by simp)) hbk
  have ok2 := hval 2 23 v2 rfl rfl
  have w2 := weightsEach_get (i := 2) hsz rfl rfl
  obtain ⟨A21, n21, c21, rfl⟩ := okWide_slice Tryz.underlying23 ok2
  obtain ⟨y2, A22, n22, c22, hy2, hr2⟩ := arg_get oInts h2 w2
  obtain ⟨rfl, rfl, rfl⟩ : A21 = A22 ∧ n21 = n22 ∧ c21 = c22 := by simpa [Value.cells] using hy2
  have ok3 := hval 3 23 v3 rfl rfl
  have w3 := weightsEach_get (i := 3) hsz rfl rfl
  obtain ⟨A31, n31, c31, rfl⟩ := okWide_slice Tryz.underlying23 ok3
  obtain ⟨y3, A32, n32, c32, hy3, hr3⟩ := arg_get oInts h3 w3
  obtain ⟨rfl, rfl, rfl⟩ : A31 = A32 ∧ n31 = n32 ∧ c31 = c32 := by simpa [Value.cells] using hy3
  have ok4 := hval 4 24 v4 rfl rfl
  have w4 := weightsEach_get (i := 4) hsz rfl rfl
  obtain ⟨A41, n41, c41, rfl⟩ := okWide_slice Tryz.underlying24 ok4
  obtain ⟨y4, A42, n42, c42, hy4, hr4⟩ := arg_get oVals h4 w4
  obtain ⟨rfl, rfl, rfl⟩ : A41 = A42 ∧ n41 = n42 ∧ c41 = c42 := by simpa [Value.cells] using hy4
  refine (con_true (law23_ForeignKeyRaw hTab hr0 hr1 hr2 hr3 hr4 (fun hm => keyFit_bulk hr0 hb0 hm0 (by have := hr2.len; omega)) (fun hm => keyFit_bulk hr1 hb1 hm1 (by have := hr3.len; omega))) (heapOf_snap W)).mono fun e W' ⟨he, hb⟩ => ?_
  subst he
  exact ⟨_, rfl, post_of_below (pa := _) (pv := []) hW' (fun _ _ _ => trodAll_mk1 (shut_bool Tryz.underlying4 _))
    (fun sp hsp => trodAll_sp sps hA1 (fun z hz => hb.same (hW'.lt z (by simpa using hz))) (fun z hz => hsp z (by simpa using hz))) (fun _ _ => rfl) rfl hb (ok_one (by kernel_rfl) rfl (okWide_bool_mk Tryz.underlying4 _))⟩
theorem said : Rows.ForeignKeyRawUptoSaid :=
  OpenClaim.holds_of_cond 3 Tryz.f3 rfl rfl rfl rfl rfl rfl rfl ⟨rfl, rfl, rfl, rfl, rfl⟩ rfl rfl rfl rfl rfl (by kernel_rfl) Tryz.func3 (by kernel_rfl)
    (of_decide_eq_true (by kernel_rfl)) (by unfold Func.isWrapper; first | (rw [if_pos (by decide +kernel)]; kernel_rfl) | (rw [if_neg (by decide +kernel)]; exact ⟨rfl, rfl⟩))
    (fun os started H enc _ F => by rw [OpenClaim.pre_eq_preRow]; exact lifted os started H enc F)
theorem proved : Rows.ForeignKeyRawUptoCardSaid :=
  Claim7.holds_tied_plain_at .later [] [.data, .data, .data] true Rows.foreignKeyRawUptoCard.stood.harness Rows.foreignKeyRawUptoCard.stood.looks
    said (fun _ h => by cases h) (by kernel_rfl) (fun _ h => by cases h) foreignKeyRawUpto_row_tie rfl ⟨rfl, rfl⟩ (by kernel_rfl) rfl
    (fun f fn hf hfn => by
      obtain rfl : f = 3 := Option.some.inj ((show Tryz.prog.funcNamed "annalist/annalistlaw23.ForeignKeyRaw" = some 3 by kernel_rfl).symm.trans hf) |>.symm
      obtain rfl : fn = Tryz.f3 := (Option.some.inj (Tryz.func3.symm.trans hfn)).symm
      exact ⟨by kernel_rfl, fun j t ht => by
        rw [Tryz.params3] at ht
        have hm : t ∈ [22, 22, 23, 23, 24] := by simpa using Array.mem_of_getElem? ht
        have hall : (([22, 22, 23, 23, 24] : List TypeId).all fun u => !Tryz.prog.wantsStandIn u) = true := by kernel_rfl
        exact (show Tryz.prog.wantsStandIn t = false by simpa using List.all_eq_true.1 hall t hm)⟩)
    (by kernel_rfl)
#print axioms proved
end Go.Proofs.YtdgcjfnpfpbcfaaGreatDoor.foreignKeyRaw
