/- slices.Delete at the columns. -/
import Derived.Test.YthbapbapcnafhaaC7
import Derived.Test.YthbapbapcnafhaaVcM
set_option linter.unusedSectionVars false
set_option linter.unusedSimpArgs false
set_option linter.unusedVariables false
namespace Go.Vc
open Go Go.Proofs
def delCol_ren : Go.Shelf.Ren := ⟨fun | 45 => 68 | n => n, fun | 22 => 33 | 23 => 51 | n => n, fun n => n⟩
theorem delCol_l : DelL Try.prog delCol_ren 3 (.agg #[.int .i64 0, .string ⟨#[]⟩, .int .i64 0]) where
  mixed := by kernel_rfl
  f45 := ⟨Try.f68.name, by kernel_rfl, Try.func68.trans (congrArg some (by kernel_rfl))⟩
  t0 := Try.underlying0
  a0 := Try.isAgg0
  z0 := Try.sizeOf0
  v0 := Try.zeroValue0
  t3 := Try.underlying3
  a3 := Try.isAgg3
  z3 := Try.sizeOf3
  v3 := Try.zeroValue3
  t4 := Try.underlying4
  a4 := Try.isAgg4
  z4 := Try.sizeOf4
  v4 := Try.zeroValue4
  t22 := Try.underlying33
  a22 := Try.isAgg33
  z22 := Try.sizeOf33
  v22 := Try.zeroValue33
  z23 := Try.sizeOf51
  v23 := Try.zeroValue51
  i23 := by
    have h : ((Try.prog.info? 51).map (·.size)) = some 3 := by kernel_rfl
    cases hi : Try.prog.info? 51 with
    | none => rw [hi] at h; cases h
    | some i => rw [hi] at h; exact ⟨i, hi, Option.some.inj h⟩
  zc := rfl
  zo := by decide
  pos := by decide
end Go.Vc
