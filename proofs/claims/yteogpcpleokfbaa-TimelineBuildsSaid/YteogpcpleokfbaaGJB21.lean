/- The arguments of the laws on timelines: how they are read. -/
import Derived.Test.YteogpcpleokfbaaGJB19
import Derived.Test.YteogpcpleokfbaaGJB20
set_option linter.unusedSectionVars false
set_option linter.unusedSimpArgs false
set_option linter.unusedVariables false
namespace Go.Vc
open Go Go.Proofs Go.Shelf
theorem oInt : Opn Try.prog 3 Int := opn_int Try.underlying3 (by kernel_rfl) (by kernel_rfl)
end Go.Vc
/- The arguments of the laws on timelines: versions, events. -/
namespace Go.Vc
open Go Go.Proofs Go.Shelf
theorem opn_Vsn {P : Program} {t ti tv tp : TypeId} (hf : FldsOf P t [(ti, 0), (tv, 1), (tp, 2), (tp, 4)]) (hi : Opn P ti Int) (hv : Opn P tv (List Val)) (hp : Opn P tp Per) (hc : P.cellsOf t = 6) (hb : P.bytesOf t = 64) : Opn P t Vsn := by
  refine ⟨hc, hb, sp_flds hf (List.forall_mem_cons.2 ⟨hi.sp, (List.forall_mem_cons.2 ⟨hv.sp, (List.forall_mem_cons.2 ⟨hp.sp, (List.forall_mem_cons.2 ⟨hp.sp, (fun _ h => by cases h)⟩)⟩)⟩)⟩), fun {H enc w base fuel cs x} h hw => ?_⟩
  obtain ⟨a, ha⟩ := fld hf (i := 0) rfl hi h hw
  obtain ⟨b, B, m, e, hb, hsl⟩ := fld hf (i := 1) rfl hv h hw
  obtain ⟨p, hp1⟩ := fld hf (i := 2) rfl hp h hw
  obtain ⟨q, hq⟩ := fld hf (i := 3) rfl hp h hw
  have hl := (trod_len hf h).trans hc
  match cs, hl with
  | [u, v, z, y, s, r], _ => exact ⟨⟨a, b, p, q⟩, B, m, e, by have := ha.1; have := hp1.1; have := hq.1; simp_all [Rep.sz], ha.2, hsl, hp1.2.1, hp1.2.2, hq.2.1, hq.2.2⟩
theorem oStr : Opn Try.prog 9 ByteArray := opn_string Try.underlying9 (by kernel_rfl) (by kernel_rfl)
theorem oVal : Opn Try.prog 93 Val := opn_Val ⟨_, Try.underlying93, rfl⟩ oInt (opn_int Try.underlying2 (by kernel_rfl) (by kernel_rfl)) oStr (by kernel_rfl) (by kernel_rfl)
theorem oVals : Opn Try.prog 57 (List Val) := opn_slice Try.underlying57 (by kernel_rfl) (by kernel_rfl) oVal
theorem oPer : Opn Try.prog 59 Per := opn_Per ⟨_, Try.underlying59, rfl⟩ oInt (by kernel_rfl) (by kernel_rfl)
theorem oVsn : Opn Try.prog 64 Vsn := opn_Vsn ⟨_, Try.underlying64, rfl⟩ oInt oVals oPer (by kernel_rfl) (by kernel_rfl)
theorem oVsns : Opn Try.prog 22 (List Vsn) := opn_slice Try.underlying22 (by kernel_rfl) (by kernel_rfl) oVsn
end Go.Vc
