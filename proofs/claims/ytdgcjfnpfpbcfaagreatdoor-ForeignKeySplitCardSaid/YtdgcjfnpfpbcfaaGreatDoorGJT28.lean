/- The tables that the program's text lays, as the rows list them. -/
import Derived.Test.YtdgcjfnpfpbcfaaGreatDoorGJT20
import Derived.Test.YtdgcjfnpfpbcfaaGreatDoorGJT27
import Derived.Test.YtdgcjfnpfpbcfaaGreatDoorRows
import Derived.ProofKit
import Derived.LaidMore
import Derived.Stop.Joined
import Derived.Lib.LaidTab
import Derived.MakeChecks
set_option linter.unusedSectionVars false
set_option linter.unusedSimpArgs false
set_option linter.unusedVariables false
namespace Go.Vc
open Go Go.Proofs
abbrev laidL : List (String × DataW Unit) := [("math/bits.deBruijn32tab", YtdgcjfnpfpbcfaaGreatDoor.Rows.laid_math_bits_deBruijn32tab), ("math/bits.deBruijn64tab", YtdgcjfnpfpbcfaaGreatDoor.Rows.laid_math_bits_deBruijn64tab), ("internal/strconv.uint64pow10", YtdgcjfnpfpbcfaaGreatDoor.Rows.laid_internal_strconv_uint64pow10)]
theorem door_met (os : Os) (args : Array Value) : laidMetH Tryz.prog laidL ((World.doorLaid Tryz.prog 400 os).forCall (fun _ _ => 0) ⟨#[], args, []⟩).memory :=
  laidMetH_of_parts3 (fuel := 80) (laidMet_of_run' 80 (by kernel_rfl) (by kernel_rfl)) (by kernel_rfl) (by kernel_rfl)
theorem tabW_of {W : World} (h : laidMetH Tryz.prog laidL W) : TabW W := by
  rw [MakeChecks.laidMetH_plain _ _ _ (by kernel_rfl)] at h
  obtain ⟨ps, ⟨g0, t0, cs0, f0, p0, q0, hg0, ht0, hv0, hd0, ⟨g1, t1, cs1, f1, p1, q1, hg1, ht1, hv1, hd1, ⟨g2, t2, cs2, f2, p2, q2, hg2, ht2, hv2, hd2, _, _⟩, _⟩, _⟩, _, _⟩ := h
  have hg : Tryz.prog.globalNamed "internal/strconv.uint64pow10" = some 1 := by kernel_rfl
  have ht : (Tryz.prog.globals[1]?).map (·.type) = some 197 := by kernel_rfl
  obtain rfl := Option.some.inj (hg.symm.trans hg2)
  obtain rfl := Option.some.inj (ht.symm.trans ht2)
  unfold TabW Lib.TabIs
  rw [hv2]
  have e : YtdgcjfnpfpbcfaaGreatDoor.Rows.laid_internal_strconv_uint64pow10 = (Lib.tabData .u64 Lib.pow10Tab : DataW Unit) := rfl
  rw [e] at hd2
  rw [← Lib.cells_of_tab Tryz.underlying197 Tryz.underlying162 (by kernel_rfl) (by kernel_rfl) hd2]
theorem tabH_of {W : World} (h : TabW W) : TabH (heapOf W) := by
  unfold TabW Lib.TabIs World.var? at h
  rcases hg : Tryz.prog.globalNamed "internal/strconv.uint64pow10" with _ | g
  · rw [hg] at h; simp at h
  · rw [hg] at h
    simp only [Option.bind_some] at h
    split at h
    · rename_i cs t fz hh
      have h := Option.some.inj h
      have hsz : cs.size = Lib.pow10Tab.length := by rw [h]; simp
      refine ⟨g, hg, fun i hi => ?_, endV, rfl, ?_⟩
      · refine heapOf_cell ?_ (by simp [Value.oneCell'])
        rw [Lib.cell_of_heap hh]
        simp [h, hi]
      · have hc : W.cell? ⟨g, Lib.pow10Tab.length, none⟩ = none := by
          rw [Lib.cell_of_heap hh]
          exact Array.getElem?_eq_none (by rw [hsz]; exact Nat.le_refl _)
        unfold heapOf
        rw [hc, hh]
        simp [hsz]
    · cases h
end Go.Vc
