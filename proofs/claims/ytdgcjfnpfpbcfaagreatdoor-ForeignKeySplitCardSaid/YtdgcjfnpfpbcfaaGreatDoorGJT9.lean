/- slices.Delete on a row of the caller's own, at whatever element type. -/
import Derived.Test.YtdgcjfnpfpbcfaaGreatDoorGJT7
import Derived.Shelf.SlLaysN
import Derived.Shelf.RegionOpenPlain
import Derived.WalkKit
import Derived.Deep.RegionLaw
import Derived.Lib.SliceRun
import Derived.Lib.Walk
import Derived.Deep.LoopGhost
set_option linter.unusedSectionVars false
set_option linter.unusedSimpArgs false
set_option linter.unusedVariables false
namespace Go.Vc
open Go Go.RowKit Go.Shelf Go.Proofs
theorem GrowsX.same {w : World} {H : Heap} {g : Option Nat} (hs : Snap H w) : GrowsX w w H H g :=
  ⟨⟨rfl, rfl, rfl, Nat.le_refl _, fun _ _ _ => rfl, Nat.le_refl _⟩, Heap.le_refl _, fun _ _ _ _ => rfl, hs⟩
theorem FnOK.of_bears {P : Program} {f : FuncId} {B : Func} (h : Bears P f B) (hb : B.body.isSome = true) : FnOK P f := by
  obtain ⟨nm, h1, h2⟩ := h
  exact ⟨_, h2, hb, h1⟩
end Go.Vc
