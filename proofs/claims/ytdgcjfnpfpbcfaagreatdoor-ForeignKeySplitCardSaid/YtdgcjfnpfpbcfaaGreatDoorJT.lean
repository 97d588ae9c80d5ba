/- ForeignKeySplit: splitting the parents or the children does not change the violations of a key. Conditions: the tables of package strconv and math/bits stand as the text of the program lays them (tied by the card). -/
import Derived.Test.YtdgcjfnpfpbcfaaGreatDoorGJT26
import Derived.Test.YtdgcjfnpfpbcfaaGreatDoorGJT30
import Derived.Test.YtdgcjfnpfpbcfaaGreatDoorRows
import Derived.Test.YtdgcjfnpfpbcfaaGreatDoorCards
import Derived.Test.YtdgcjfnpfpbcfaaGreatDoorTie
import Derived.ProofKit
import Derived.SevenTiedAt
set_option linter.unusedSectionVars false
set_option linter.unusedSimpArgs false
set_option linter.unusedVariables false
namespace Go.Proofs.YtdgcjfnpfpbcfaaGreatDoor.foreignKeySplit
open Go Go.Vc Go.RowKit Go.WideShapes Go.ChangeShapes
theorem sps : ∀ t ∈ Tryz.f7.params.toList, SpOK Tryz.prog t := by
  rw [Tryz.params7]
  exact (List.forall_mem_cons.2 ⟨oU5s.sp, (List.forall_mem_cons.2 ⟨oU5s.sp, (List.forall_mem_cons.2 ⟨oU16.sp, (List.forall_mem_cons.2 ⟨oInts.sp, fun _ h => by cases h⟩)⟩)⟩)⟩)
theorem own : ownKnob Tryz.prog.godebug = none := by kernel_rfl
set_option maxRecDepth 100000 in
theorem lifted (os : Os) (started : os.Started) (H : Type) (enc : TypeId × Value → H) :
    ReturnsInHanded {} Tryz.checked os 7 .any (fun w args => (Rows.foreignKeySplitSpec.pre enc Tryz.prog Tryz.f7 Rows.foreignKeySplitRow.domain false w args ∧ laidMetH Tryz.prog laidL w) ∧ sizedMet enc Tryz.prog Tryz.f7 (OpenSpec.ofChange Rows.foreignKeySplitSpec) false w args)
      (Rows.foreignKeySplitSpec.post enc Tryz.prog Tryz.f7 false true false false) := by
  refine returnsInHanded_of_change_and (C := Tryz.checked) (X := fun w _ => laidMetH Tryz.prog laidL w) (fun _ _ _ hh h => h.of_heap hh) own started (by kernel_rfl) Tryz.func7
    (ChangeSpec.witness_shaped (enc := enc) (C := Tryz.checked) (os := os) (X := fun w _ => laidMetH Tryz.prog laidL w) false (World.doorLaid Tryz.prog 400 os) #[.slice none 0 0, .slice none 0 0, .int .u16 0, .slice none 0 0] 8 rfl (World.shaped_of_RefB (by kernel_rfl) (by kernel_rfl)) (by kernel_rfl) (by kernel_rfl) (by kernel_rfl) (door_met os _)) ?_
  intro W base args ds gs before hval0 hW hcnd hsz0 hL _
  have hTab := tabH_of (tabW_of hL)
  have hval : ∀ (j : Nat) t v, Tryz.f7.params[j]? = some t → args[j]? = some v → Value.okWide Tryz.prog W .any base t v := hval0
  have hW' := hW
  obtain ⟨p, q, hA0, hV, rfl, hfz, hnd⟩ := hW
  have hA : DataW.TrodAll enc Tryz.prog W 0 (fun _ => true) true Tryz.f7.params.toList args.toList ds p := hA0
  have hsz : (DataW.weightsEach Tryz.prog (Tryz.f7.params.toList ++ Rows.foreignKeySplitSpec.plain.varTypes Tryz.prog) (ds ++ gs)).all (· ≤ reachBytes) = true := hsz0
  have hA1 := hA
  obtain ⟨rfl, rfl⟩ := trodVars_none hV
  rw [Tryz.params7] at hA hval hsz
  obtain ⟨v0, vs0, d0, ds0, p0, q0, hargs, rfl, rfl, h0, r0⟩ := trodAll_cons hA
  obtain ⟨v1, vs1, d1, ds1, p1, q1, rfl, rfl, rfl, h1, r1⟩ := trodAll_cons r0
  obtain ⟨v2, vs2, d2, ds2, p2, q2, rfl, rfl, rfl, h2, r2⟩ := trodAll_cons r1
  obtain ⟨v3, vs3, d3, ds3, p3, q3, rfl, rfl, rfl, h3, r3⟩ := trodAll_cons r2
  obtain ⟨rfl, rfl, rfl⟩ := trodAll_nil r3
  obtain rfl : args = #[v0, v1, v2, v3] := by cases args; simp_all
  have ok0 := hval 0 35 v0 rfl rfl
  have w0 := weightsEach_get (i := 0) hsz rfl rfl
  obtain ⟨A01, n01, c01, rfl⟩ := okWide_slice Tryz.underlying35 ok0
  obtain ⟨y0, A02, n02, c02, hy0, hr0⟩ := arg_get oU5s h0 w0
  obtain ⟨rfl, rfl, rfl⟩ : A01 = A02 ∧ n01 = n02 ∧ c01 = c02 := by simpa [Value.cells] using hy0
  have ok1 := hval 1 35 v1 rfl rfl
  have w1 := weightsEach_get (i := 1) hsz rfl rfl
  obtain ⟨A11, n11, c11, rfl⟩ := okWide_slice Tryz.underlying35 ok1
  obtain ⟨y1, A12, n12, c12, hy1, hr1⟩ := arg_get oU5s h1 w1
  obtain ⟨rfl, rfl, rfl⟩ : A11 = A12 ∧ n11 = n12 ∧ c11 = c12 := by simpa [Value.cells] using hy1
  have ok2 := hval 2 36 v2 rfl rfl
  have w2 := weightsEach_get (i := 2) hsz rfl rfl
  obtain ⟨x2, rfl⟩ := okWide_int Tryz.underlying36 ok2
  obtain ⟨y2, hy2, hr2⟩ := arg_get oU16 h2 w2
  obtain rfl : x2 = y2.n := by simpa [Value.cells] using hy2
  have ok3 := hval 3 23 v3 rfl rfl
  have w3 := weightsEach_get (i := 3) hsz rfl rfl
  obtain ⟨A31, n31, c31, rfl⟩ := okWide_slice Tryz.underlying23 ok3
  obtain ⟨y3, A32, n32, c32, hy3, hr3⟩ := arg_get oInts h3 w3
  obtain ⟨rfl, rfl, rfl⟩ : A31 = A32 ∧ n31 = n32 ∧ c31 = c32 := by simpa [Value.cells] using hy3
  refine (con_true (law23_ForeignKeySplit hTab hr0 hr1 hr2 hr3) (heapOf_snap W)).mono fun e W' ⟨he, hb⟩ => ?_
  subst he
  exact ⟨_, rfl, post_of_below (pa := _) (pv := []) hW' (fun _ _ _ => trodAll_mk1 (shut_bool Tryz.underlying4 _))
    (fun sp hsp => trodAll_sp sps hA1 (fun z hz => hb.same (hW'.lt z (by simpa using hz))) (fun z hz => hsp z (by simpa using hz))) (fun _ _ => rfl) rfl hb (ok_one (by kernel_rfl) rfl (okWide_bool_mk Tryz.underlying4 _))⟩
theorem said : Rows.ForeignKeySplitSaid :=
  OpenClaim.holds_of_wide 7 Tryz.f7 rfl rfl rfl rfl rfl rfl rfl ⟨rfl, rfl, rfl, rfl, rfl⟩ rfl rfl rfl rfl rfl (by kernel_rfl) Tryz.func7 (by kernel_rfl)
    (of_decide_eq_true (by kernel_rfl)) (by unfold Func.isWrapper; first | (rw [if_pos (by decide +kernel)]; kernel_rfl) | (rw [if_neg (by decide +kernel)]; exact ⟨rfl, rfl⟩))
    (fun os started H enc _ => lifted os started H enc)
theorem proved : Rows.ForeignKeySplitCardSaid :=
  Claim7.holds_tied_plain_at .later [] [.data, .data, .data] true Rows.foreignKeySplitCard.stood.harness Rows.foreignKeySplitCard.stood.looks
    said (fun _ h => by cases h) (by kernel_rfl) (fun _ h => by cases h) foreignKeySplit_row_tie rfl ⟨rfl, rfl⟩ (by kernel_rfl) rfl
    (fun f fn hf hfn => by
      obtain rfl : f = 7 := Option.some.inj ((show Tryz.prog.funcNamed "annalist/annalistlaw23.ForeignKeySplit" = some 7 by kernel_rfl).symm.trans hf) |>.symm
      obtain rfl : fn = Tryz.f7 := (Option.some.inj (Tryz.func7.symm.trans hfn)).symm
      exact ⟨by kernel_rfl, fun j t ht => by
        rw [Tryz.params7] at ht
        have hm : t ∈ [35, 35, 36, 23] := by simpa using Array.mem_of_getElem? ht
        have hall : (([35, 35, 36, 23] : List TypeId).all fun u => !Tryz.prog.wantsStandIn u) = true := by kernel_rfl
        exact (show Tryz.prog.wantsStandIn t = false by simpa using List.all_eq_true.1 hall t hm)⟩)
    (by kernel_rfl)
#print axioms proved
end Go.Proofs.YtdgcjfnpfpbcfaaGreatDoor.foreignKeySplit
