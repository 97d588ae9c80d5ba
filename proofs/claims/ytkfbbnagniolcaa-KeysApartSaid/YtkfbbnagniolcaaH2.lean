/- KeysApart: the violations of one list of key values are maximal: in ascending order and either separated or different in their IDs. No conditions. -/
import Derived.Test.YtkfbbnagniolcaaB12
import Derived.Test.YtkfbbnagniolcaaBr
import Derived.Test.YtkfbbnagniolcaaRows
import Derived.ProofKit
set_option linter.unusedSectionVars false
set_option linter.unusedSimpArgs false
set_option linter.unusedVariables false
namespace Go.Vc
open Go Go.Proofs Go.Shelf
theorem opn_U5 {P : Program} {t e : TypeId} (ht : P.underlying t = some (.array 5 e)) (he : P.underlying e = some (.int .u16)) (hce : P.cellsOf e = 1) (hc : P.cellsOf t = 5) (hb : P.bytesOf t = 10) : Opn P t U5 := by
  refine ⟨hc, hb, sp_array ht (sp_int he), fun {H enc w base fuel cs x} h hw => ?_⟩
  obtain ⟨xs, n, rfl, rfl, hl, hxl, hat⟩ := DataW.trod_array ht h
  rw [hc] at hl
  simp only [hce] at hat
  have hg : ∀ j, j < 5 → ∃ y, cs[j]? = some (.int .u16 y) ∧ rng .u16 y := by
    intro j hj
    have h1 := hat j hj
    obtain ⟨y, hy, -, hwf⟩ := DataW.trod_int he (h1.trans (List.getElem?_eq_getElem (by omega : j < xs.length)))
    refine ⟨y, ?_, wf_rng hwf⟩
    have : ((cs.drop (j * 1)).take 1)[0]? = some (.int .u16 y) := by rw [hy]; rfl
    rw [List.getElem?_take_of_lt (by omega), List.getElem?_drop] at this
    simpa using this
  obtain ⟨y0, h0, r0⟩ := hg 0 (by omega)
  obtain ⟨y1, h1, r1⟩ := hg 1 (by omega)
  obtain ⟨y2, h2, r2⟩ := hg 2 (by omega)
  obtain ⟨y3, h3, r3⟩ := hg 3 (by omega)
  obtain ⟨y4, h4, r4⟩ := hg 4 (by omega)
  clear hat hg h hw
  match cs, hl, h0, h1, h2, h3, h4 with
  | [c0, c1, c2, c3, c4], _, h0, h1, h2, h3, h4 =>
    simp only [List.getElem?_cons_zero, List.getElem?_cons_succ, Option.some.injEq] at h0 h1 h2 h3 h4
    subst h0 h1 h2 h3 h4
    exact ⟨⟨y0, y1, y2, y3, y4⟩, rfl, r0, r1, r2, r3, r4⟩
theorem oU5 : Opn Try.prog 71 U5 := opn_U5 Try.underlying71 Try.underlying35 (by kernel_rfl) (by kernel_rfl) (by kernel_rfl)
theorem oU5s : Opn Try.prog 34 (List U5) := opn_slice Try.underlying34 (by kernel_rfl) (by kernel_rfl) oU5
end Go.Vc
namespace Go.Proofs.Ytkfbbnagniolcaa.keysApart
open Go Go.Vc Go.RowKit Go.WideShapes Go.ChangeShapes
theorem sps : ∀ t ∈ Try.f6.params.toList, SpOK Try.prog t := by
  rw [Try.params6]
  exact List.forall_mem_cons.2 ⟨oU5s.sp, fun _ h => by cases h⟩
theorem own : ownKnob Try.prog.godebug = none := by kernel_rfl
set_option maxRecDepth 100000 in
theorem lifted (os : Os) (started : os.Started) (H : Type) (enc : TypeId × Value → H) :
    ReturnsInHanded {} Try.checked os 6 .any (Rows.keysApartSpec.pre6 enc Try.prog Try.f6 Rows.keysApartRow.domain false) (Rows.keysApartSpec.post enc Try.prog Try.f6 false true false false) := by
  refine returnsInHanded_of_change_sized (C := Try.checked) own started (by kernel_rfl) Try.func6
    (ChangeSpec.witness6 (enc := enc) (C := Try.checked) false ⟨#[], #[.slice none 0 0], []⟩ 8 (by kernel_rfl) (by kernel_rfl) (by kernel_rfl) (by kernel_rfl)) ?_
  intro W base args ds gs before hval0 hW hcnd hsz0 _
  have hval : ∀ (j : Nat) t v, Try.f6.params[j]? = some t → args[j]? = some v → Value.okWide Try.prog W .any base t v := hval0
  have hW' := hW
  obtain ⟨p, q, hA0, hV, rfl, hfz, hnd⟩ := hW
  have hA : DataW.TrodAll enc Try.prog W 0 (fun _ => true) true Try.f6.params.toList args.toList ds p := hA0
  have hsz : (DataW.weightsEach Try.prog (Try.f6.params.toList ++ Rows.keysApartSpec.plain.varTypes Try.prog) (ds ++ gs)).all (· ≤ reachBytes) = true := hsz0
  have hA1 := hA
  obtain ⟨rfl, rfl⟩ := trodVars_none hV
  rw [Try.params6] at hA hval hsz
  obtain ⟨v0, vs0, d0, ds0, p0, q0, hargs, rfl, rfl, h0, r0⟩ := trodAll_cons hA
  obtain ⟨rfl, rfl, rfl⟩ := trodAll_nil r0
  obtain rfl : args = #[v0] := by cases args; simp_all
  have ok0 := hval 0 34 v0 rfl rfl
  have w0 := weightsEach_get (i := 0) hsz rfl rfl
  obtain ⟨A01, n01, c01, rfl⟩ := okWide_slice Try.underlying34 ok0
  obtain ⟨y0, A02, n02, c02, hy0, hr0⟩ := arg_get oU5s h0 w0
  obtain ⟨rfl, rfl, rfl⟩ : A01 = A02 ∧ n01 = n02 ∧ c01 = c02 := by simpa [Value.cells] using hy0
  refine (con_true (law22_KeysApart hr0) (heapOf_snap W)).mono fun e W' ⟨he, hb⟩ => ?_
  subst he
  exact ⟨_, rfl, post_of_below (pa := _) (pv := []) hW' (fun _ _ _ => trodAll_mk1 (shut_bool Try.underlying4 _))
    (fun sp hsp => trodAll_sp sps hA1 (fun z hz => hb.same (hW'.lt z (by simpa using hz))) (fun z hz => hsp z (by simpa using hz))) (fun _ _ => rfl) rfl hb (ok_one (by kernel_rfl) rfl (okWide_bool_mk Try.underlying4 _))⟩
theorem proved : Rows.KeysApartSaid :=
  OpenClaim.holds_of_wide 6 Try.f6 rfl rfl rfl rfl rfl rfl rfl ⟨rfl, rfl, rfl, rfl, rfl⟩ rfl rfl rfl rfl rfl (by kernel_rfl) Try.func6 (by kernel_rfl)
    (of_decide_eq_true (by kernel_rfl)) (by unfold Func.isWrapper; first | (rw [if_pos (by decide +kernel)]; kernel_rfl) | (rw [if_neg (by decide +kernel)]; exact ⟨rfl, rfl⟩))
    (fun os started H enc _ => lifted os started H enc)
#print axioms proved
end Go.Proofs.Ytkfbbnagniolcaa.keysApart
