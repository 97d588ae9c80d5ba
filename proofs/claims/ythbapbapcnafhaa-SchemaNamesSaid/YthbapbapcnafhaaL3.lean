/- SchemaNames: ValidName agrees with the definition, for arbitrary strings. No conditions. -/
import Derived.Test.YthbapbapcnafhaaC7
import Derived.Test.YthbapbapcnafhaaBr
import Derived.Test.YthbapbapcnafhaaRows
import Derived.ProofKit
set_option linter.unusedSectionVars false
set_option linter.unusedSimpArgs false
set_option linter.unusedVariables false
namespace Go.Vc
open Go Go.Proofs
def an3 : Ann where
  res := fun _ => none
  lend := fun | 3 => true | 10 => true | 12 => true | _ => false
  sch := fun _ => .done
  lt := fun _ => []
  tup := tups

theorem vc3 (P : Program) (H : Heap) (s : ByteArray) (post : Bool → Heap → Prop) :
  vcFn P tab an3 Try.f3 [.string s] 0 H ⟨false, [(false, [.bool])]⟩ post =
  (  ∃ (post0 : Bool → Heap → Prop), ConT P 9 [] H ⟨false, [(false, [.bool])]⟩ post0 ∧ ∀ (H1 : Heap), Heap.le H H1 → ∀ (b3 : Bool), post0 b3 H1 → (b3 = true → (decide ((1000 : Int) <
  (↑(ByteArray.size s) : Int)) = true → post true H1) ∧ (decide ((1000 : Int) < (↑(ByteArray.size s) : Int)) = false → ∃ (post8 : Bool → Heap → Prop), ConT P 10 [.string s] H1 ⟨false,
  [(false, [.bool])]⟩ post8 ∧ ∀ (H9 : Heap), Heap.le H1 H9 → ∀ (b11 : Bool), post8 b11 H9 → ∃ (post13 : Bool → Heap → Prop), ConT P 11 [.string s] H9 ⟨false, [(false, [.bool])]⟩ post13 ∧ ∀
  (H14 : Heap), Heap.le H9 H14 → ∀ (b16 : Bool), post13 b16 H14 → post (b11 == b16) H14)) ∧ (b3 = false → post false H1)) := by kernel_rfl
theorem law21_SchemaNames {H : Heap} {s : ByteArray} : ConT Try.prog 3 [.string s] H shB (fun b _ => b = true) := by
  refine con_of_vc (an := an3) (fn := Try.f3) mix tabOK Try.func3 (by kernel_rfl) (extra := 0) ?_
  rw [vc3]
  refine ⟨_, law21_awake, ?_⟩
  rintro H1 l1 _ rfl
  refine ⟨fun _ => ⟨fun _ => rfl, fun _ => ⟨_, schema_ValidName, ?_⟩⟩, fun h => absurd h (by decide)⟩
  rintro H2 l2 _ rfl
  refine ⟨_, ref21_ValidName, ?_⟩
  rintro H3 l3 _ rfl
  exact beq_self_eq_true _
end Go.Vc
namespace Go.Proofs.Ythbapbapcnafhaa.schemaNames
open Go Go.Vc Go.RowKit Go.WideShapes Go.ChangeShapes
theorem sps : ∀ t ∈ Try.f3.params.toList, SpOK Try.prog t := by
  rw [Try.params3]
  exact List.forall_mem_cons.2 ⟨sp_string Try.underlying9, fun _ h => by cases h⟩
theorem own : ownKnob Try.prog.godebug = none := by kernel_rfl
set_option maxRecDepth 100000 in
theorem lifted (os : Os) (started : os.Started) (H : Type) (enc : TypeId × Value → H) :
    ReturnsInHanded {} Try.checked os 3 .any (Rows.schemaNamesSpec.pre6 enc Try.prog Try.f3 Rows.schemaNamesRow.domain false) (Rows.schemaNamesSpec.post enc Try.prog Try.f3 false true false false) := by
  refine returnsInHanded_of_change_sized (C := Try.checked) own started (by kernel_rfl) Try.func3
    (ChangeSpec.witness6 (enc := enc) (C := Try.checked) false ⟨#[], #[.string ⟨#[]⟩], []⟩ 8 (by kernel_rfl) (by kernel_rfl) (by kernel_rfl) (by kernel_rfl)) ?_
  intro W base args ds gs before hval0 hW hcnd hsz0 _
  have hval : ∀ (j : Nat) t v, Try.f3.params[j]? = some t → args[j]? = some v → Value.okWide Try.prog W .any base t v := hval0
  have hW' := hW
  obtain ⟨p, q, hA0, hV, rfl, hfz, hnd⟩ := hW
  have hA : DataW.TrodAll enc Try.prog W 0 (fun _ => true) true Try.f3.params.toList args.toList ds p := hA0
  have hsz : (DataW.weightsEach Try.prog (Try.f3.params.toList ++ Rows.schemaNamesSpec.plain.varTypes Try.prog) (ds ++ gs)).all (· ≤ reachBytes) = true := hsz0
  have hA1 := hA
  obtain ⟨rfl, rfl⟩ := trodVars_none hV
  rw [Try.params3] at hA hval hsz
  obtain ⟨v0, vs0, d0, ds0, p0, q0, hargs, rfl, rfl, h0, r0⟩ := trodAll_cons hA
  obtain ⟨rfl, rfl, rfl⟩ := trodAll_nil r0
  obtain rfl : args = #[v0] := by cases args; simp_all
  have ok0 := hval 0 9 v0 rfl rfl
  have w0 := weightsEach_get (i := 0) hsz rfl rfl
  obtain ⟨x0, rfl⟩ := okWide_string Try.underlying9 ok0
  refine (con_true (law21_SchemaNames) (heapOf_snap W)).mono fun e W' ⟨he, hb⟩ => ?_
  subst he
  exact ⟨_, rfl, post_of_below (pa := _) (pv := []) hW' (fun _ _ _ => trodAll_mk1 (shut_bool Try.underlying4 _))
    (fun sp hsp => trodAll_sp sps hA1 (fun z hz => hb.same (hW'.lt z (by simpa using hz))) (fun z hz => hsp z (by simpa using hz))) (fun _ _ => rfl) rfl hb (ok_one (by kernel_rfl) rfl (okWide_bool_mk Try.underlying4 _))⟩
theorem proved : Rows.SchemaNamesSaid :=
  OpenClaim.holds_of_wide 3 Try.f3 rfl rfl rfl rfl rfl rfl rfl ⟨rfl, rfl, rfl, rfl, rfl⟩ rfl rfl rfl rfl rfl (by kernel_rfl) Try.func3 (by kernel_rfl)
    (of_decide_eq_true (by kernel_rfl)) (by unfold Func.isWrapper; first | (rw [if_pos (by decide +kernel)]; kernel_rfl) | (rw [if_neg (by decide +kernel)]; exact ⟨rfl, rfl⟩))
    (fun os started H enc _ => lifted os started H enc)
#print axioms proved
end Go.Proofs.Ythbapbapcnafhaa.schemaNames
