/- The arguments of the laws on timelines: how they are read. -/
import Derived.Test.YteogpcpleokfbaaGJAp19
import Derived.Test.YteogpcpleokfbaaGJAp21
set_option linter.unusedSectionVars false
set_option linter.unusedSimpArgs false
set_option linter.unusedVariables false
namespace Go.Vc
open Go Go.Proofs Go.Shelf
theorem opn_Ev {P : Program} {t ti tb : TypeId} (hf : FldsOf P t [(ti, 0), (ti, 1), (tb, 2)]) (hi : Opn P ti Int) (ho : Opn P tb Bool) (hc : P.cellsOf t = 3) (hb : P.bytesOf t = 24) : Opn P t Ev := by
  refine ⟨hc, hb, sp_flds hf (List.forall_mem_cons.2 ⟨hi.sp, (List.forall_mem_cons.2 ⟨hi.sp, (List.forall_mem_cons.2 ⟨ho.sp, (fun _ h => by cases h)⟩)⟩)⟩), fun {H enc w base fuel cs x} h hw => ?_⟩
  obtain ⟨a, ha⟩ := fld hf (i := 0) rfl hi h hw
  obtain ⟨b, hb⟩ := fld hf (i := 1) rfl hi h hw
  obtain ⟨c, hc'⟩ := fld hf (i := 2) rfl ho h hw
  have hl := (trod_len hf h).trans hc
  match cs, hl with
  | [u, v, z], _ => exact ⟨⟨a, b, c⟩, by have := ha.1; have := hb.1; have : _ = _ := hc'; simp_all [Rep.sz], ha.2, hb.2⟩
theorem oInt : Opn Try.prog 3 Int := opn_int Try.underlying3 (by kernel_rfl) (by kernel_rfl)
theorem oEv : Opn Try.prog 33 Ev := opn_Ev ⟨_, Try.underlying33, rfl⟩ oInt (opn_bool Try.underlying4 (by kernel_rfl) (by kernel_rfl)) (by kernel_rfl) (by kernel_rfl)
end Go.Vc
/- The arguments of the laws on timelines: versions, events. -/
namespace Go.Vc
open Go Go.Proofs Go.Shelf
theorem oEvs : Opn Try.prog 27 (List Ev) := opn_slice Try.underlying27 (by kernel_rfl) (by kernel_rfl) oEv
end Go.Vc
