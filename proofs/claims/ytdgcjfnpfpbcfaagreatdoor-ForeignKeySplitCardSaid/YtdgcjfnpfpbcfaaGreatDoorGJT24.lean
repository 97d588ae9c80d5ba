/- ConstraintSplit: splitting does not change the violations of a constraint. -/
import Derived.Test.YtdgcjfnpfpbcfaaGreatDoorGJT17
import Derived.Test.YtdgcjfnpfpbcfaaGreatDoorGJT23
set_option linter.unusedSectionVars false
set_option linter.unusedSimpArgs false
set_option linter.unusedVariables false
namespace Go.Vc
open Go Go.Proofs Go.Shelf
theorem split_fit {l l' : List Tup} {cols : List Int} (h : SplitR l l') (hf : Fit l cols) (h1 : l'.length < 300) (h2 : (tlins l').length ≤ 100000) : Fit l' cols :=
  ⟨h1, hf.clen, by omega, fun t ht => by
    obtain ⟨s, hs, e, -⟩ := split_mem h t ht
    rw [e]; exact hf.keys s hs⟩
end Go.Vc
