/- Which types are read as which data. -/
import Derived.Test.YthbapbapcnafhaaBr
import Derived.Test.YthbapbapcnafhaaRows
import Derived.ProofKit
set_option linter.unusedSectionVars false
set_option linter.unusedSimpArgs false
set_option linter.unusedVariables false
namespace Go.Vc
open Go Go.Proofs
theorem oInt : Opn Try.prog 3 Int := opn_int Try.underlying3 (by kernel_rfl) (by kernel_rfl)
theorem oStr : Opn Try.prog 9 ByteArray := opn_string Try.underlying9 (by kernel_rfl) (by kernel_rfl)
theorem oInts : Opn Try.prog 25 (List Int) := opn_slice Try.underlying25 (by kernel_rfl) (by kernel_rfl) oInt
theorem oPer : Opn Try.prog 32 Per := opn_Per ⟨_, Try.underlying32, rfl⟩ oInt (by kernel_rfl) (by kernel_rfl)
theorem oCol : Opn Try.prog 51 Col := opn_Col ⟨_, Try.underlying51, rfl⟩ oInt oStr (by kernel_rfl) (by kernel_rfl)
theorem oCols : Opn Try.prog 33 (List Col) := opn_slice Try.underlying33 (by kernel_rfl) (by kernel_rfl) oCol
theorem oVer : Opn Try.prog 35 Ver := opn_Ver ⟨_, Try.underlying35, rfl⟩ oPer oCols (by kernel_rfl) (by kernel_rfl)
theorem oVers : Opn Try.prog 24 (List Ver) := opn_slice Try.underlying24 (by kernel_rfl) (by kernel_rfl) oVer
theorem oFk : Opn Try.prog 75 FKey := opn_FKey ⟨_, Try.underlying75, rfl⟩ oInts oStr (by kernel_rfl) (by kernel_rfl)
theorem oFks : Opn Try.prog 26 (List FKey) := opn_slice Try.underlying26 (by kernel_rfl) (by kernel_rfl) oFk
theorem oCst : Opn Try.prog 77 Cst := opn_Cst ⟨_, Try.underlying77, rfl⟩ oInt oInts (by kernel_rfl) (by kernel_rfl)
theorem oCsts : Opn Try.prog 27 (List Cst) := opn_slice Try.underlying27 (by kernel_rfl) (by kernel_rfl) oCst
theorem oTSch : Opn Try.prog 29 TSch := opn_TSch ⟨_, Try.underlying29, rfl⟩ oStr oVers oInts oFks oCsts (by kernel_rfl) (by kernel_rfl)
end Go.Vc
