/-
  No cell of these rows narrows 'for every input' (looked for: loops, veiled, ifaces, maps, wideKeys, modest, calm, conditions, laid).
  DERIVED. THE GIVEN ROWS OF THIS SEAT. 6 by the template 'for every input the law returns true; each argument reads behind the call as it read before'; 0 by the template 'total and deterministic' (their statements: YticbeaepmnobnaaTotals.lean).
  GIVEN WITH THE SEED: the statements are not yours to turn. If you find one false, say at which input.
  Laid BY PROGRAM, IN A SANDBOX (cutbox-rows.mjs): the forced cells as the released guide's own fill.sh prints them over the translation f1b8880d8fa87d06… (all of the seat's roots in one cut). By AI agents, Wed Nov 11 2026. No macro, syntax, notation, axiom, sorry.
-/
import Derived.Test.YticbeaepmnobnaaChecked
import GoSem.Claim
import GoSem.ClaimJoined
import GoSem.ClaimMapViews
import Derived.JoinedTies
import Derived.KernelRfl
namespace Go.Proofs.Yticbeaepmnobnaa
/- THE CELL 'sum', in the pinned program and in every row, IS THE sha256 OF THE DUMP (.gsa) THAT YticbeaepmnobnaaProg.lean LOADS. Nothing in Lean hashes anything: it is a label: what it is worth is what the hold of that sum in a sandbox is worth. -/
noncomputable def Try.pinned : Pinned := { name := "yticbeaepmnobnaa", sum := "f1b8880d8fa87d06645c00d5271bdcc42861d67065ce80a4f6e57f85a441a624", checked := Try.checked }
namespace Rows
def none {H : Type} : Left H := { results := [], args := [] }

/-- 'annalistlaw5.SetNormalize': WHATEVER THE INPUT: true; the input reads as it did. -/
def setNormalizeSpec : ChangeSpec := { name := "setNormalize", fn := fun _ => fun
  | [d] => { results := [.lit (.bool true)], args := [d] }
  | _ => none }
def setNormalizeRow : OpenClaim := { program := "yticbeaepmnobnaa", sum := "f1b8880d8fa87d06645c00d5271bdcc42861d67065ce80a4f6e57f85a441a624", func := "annalist/annalistlaw5.SetNormalize", spec := "setNormalize", unfollowed := true, recurses := true, apart := false }
def SetNormalizeSaid : Prop := setNormalizeRow.holds Try.pinned (OpenSpec.ofChange setNormalizeSpec)

/-- ITS FALSE NEIGHBOUR: 'it returns false'. Refute it at one input. -/
def setNormalizeWrong : ChangeSpec := { name := "setNormalize", fn := fun _ => fun
  | [d] => { results := [.lit (.bool false)], args := [d] }
  | _ => none }
def SetNormalizeWrongFalsely : Prop := setNormalizeRow.holds Try.pinned (OpenSpec.ofChange setNormalizeWrong)

/-- 'annalistlaw5.SetLength': WHATEVER THE INPUT: true; the input reads as it did. -/
def setLengthSpec : ChangeSpec := { name := "setLength", fn := fun _ => fun
  | [d1, d2] => { results := [.lit (.bool true)], args := [d1, d2] }
  | _ => none }
def setLengthRow : OpenClaim := { program := "yticbeaepmnobnaa", sum := "f1b8880d8fa87d06645c00d5271bdcc42861d67065ce80a4f6e57f85a441a624", func := "annalist/annalistlaw5.SetLength", spec := "setLength", unfollowed := true, recurses := true, apart := false }
def SetLengthSaid : Prop := setLengthRow.holds Try.pinned (OpenSpec.ofChange setLengthSpec)

/-- ITS FALSE NEIGHBOUR: 'it returns false'. Refute it at one input. -/
def setLengthWrong : ChangeSpec := { name := "setLength", fn := fun _ => fun
  | [d1, d2] => { results := [.lit (.bool false)], args := [d1, d2] }
  | _ => none }
def SetLengthWrongFalsely : Prop := setLengthRow.holds Try.pinned (OpenSpec.ofChange setLengthWrong)

/-- 'annalistlaw5.SetOperations': WHATEVER THE INPUT: true; the input reads as it did. -/
def setOperationsSpec : ChangeSpec := { name := "setOperations", fn := fun _ => fun
  | [d1, d2] => { results := [.lit (.bool true)], args := [d1, d2] }
  | _ => none }
def setOperationsRow : OpenClaim := { program := "yticbeaepmnobnaa", sum := "f1b8880d8fa87d06645c00d5271bdcc42861d67065ce80a4f6e57f85a441a624", func := "annalist/annalistlaw5.SetOperations", spec := "setOperations", unfollowed := true, recurses := true, apart := false }
def SetOperationsSaid : Prop := setOperationsRow.holds Try.pinned (OpenSpec.ofChange setOperationsSpec)

/-- ITS FALSE NEIGHBOUR: 'it returns false'. Refute it at one input. -/
def setOperationsWrong : ChangeSpec := { name := "setOperations", fn := fun _ => fun
  | [d1, d2] => { results := [.lit (.bool false)], args := [d1, d2] }
  | _ => none }
def SetOperationsWrongFalsely : Prop := setOperationsRow.holds Try.pinned (OpenSpec.ofChange setOperationsWrong)

/-- 'annalistlaw5.SetCanonical': WHATEVER THE INPUT: true; the input reads as it did. -/
def setCanonicalSpec : ChangeSpec := { name := "setCanonical", fn := fun _ => fun
  | [d1, d2, d3] => { results := [.lit (.bool true)], args := [d1, d2, d3] }
  | _ => none }
def setCanonicalRow : OpenClaim := { program := "yticbeaepmnobnaa", sum := "f1b8880d8fa87d06645c00d5271bdcc42861d67065ce80a4f6e57f85a441a624", func := "annalist/annalistlaw5.SetCanonical", spec := "setCanonical", unfollowed := true, recurses := true, apart := false }
def SetCanonicalSaid : Prop := setCanonicalRow.holds Try.pinned (OpenSpec.ofChange setCanonicalSpec)

/-- ITS FALSE NEIGHBOUR: 'it returns false'. Refute it at one input. -/
def setCanonicalWrong : ChangeSpec := { name := "setCanonical", fn := fun _ => fun
  | [d1, d2, d3] => { results := [.lit (.bool false)], args := [d1, d2, d3] }
  | _ => none }
def SetCanonicalWrongFalsely : Prop := setCanonicalRow.holds Try.pinned (OpenSpec.ofChange setCanonicalWrong)

/-- 'annalistlaw5.SetAlgebra': WHATEVER THE INPUT: true; the input reads as it did. -/
def setAlgebraSpec : ChangeSpec := { name := "setAlgebra", fn := fun _ => fun
  | [d1, d2, d3] => { results := [.lit (.bool true)], args := [d1, d2, d3] }
  | _ => none }
def setAlgebraRow : OpenClaim := { program := "yticbeaepmnobnaa", sum := "f1b8880d8fa87d06645c00d5271bdcc42861d67065ce80a4f6e57f85a441a624", func := "annalist/annalistlaw5.SetAlgebra", spec := "setAlgebra", unfollowed := true, recurses := true, apart := false }
def SetAlgebraSaid : Prop := setAlgebraRow.holds Try.pinned (OpenSpec.ofChange setAlgebraSpec)

/-- ITS FALSE NEIGHBOUR: 'it returns false'. Refute it at one input. -/
def setAlgebraWrong : ChangeSpec := { name := "setAlgebra", fn := fun _ => fun
  | [d1, d2, d3] => { results := [.lit (.bool false)], args := [d1, d2, d3] }
  | _ => none }
def SetAlgebraWrongFalsely : Prop := setAlgebraRow.holds Try.pinned (OpenSpec.ofChange setAlgebraWrong)

/-- 'annalistlaw5.SetPoints': WHATEVER THE INPUT: true; the input reads as it did. -/
def setPointsSpec : ChangeSpec := { name := "setPoints", fn := fun _ => fun
  | [d1, d2, d3] => { results := [.lit (.bool true)], args := [d1, d2, d3] }
  | _ => none }
def setPointsRow : OpenClaim := { program := "yticbeaepmnobnaa", sum := "f1b8880d8fa87d06645c00d5271bdcc42861d67065ce80a4f6e57f85a441a624", func := "annalist/annalistlaw5.SetPoints", spec := "setPoints", unfollowed := true, recurses := true, apart := false }
def SetPointsSaid : Prop := setPointsRow.holds Try.pinned (OpenSpec.ofChange setPointsSpec)

/-- ITS FALSE NEIGHBOUR: 'it returns false'. Refute it at one input. -/
def setPointsWrong : ChangeSpec := { name := "setPoints", fn := fun _ => fun
  | [d1, d2, d3] => { results := [.lit (.bool false)], args := [d1, d2, d3] }
  | _ => none }
def SetPointsWrongFalsely : Prop := setPointsRow.holds Try.pinned (OpenSpec.ofChange setPointsWrong)

/- THE SECOND FORM. 'bulk': how many values and letters a reading holds, each counted each time it is reached (what is shared counts as often as it is met; a slice's spare places count too). A statement '..UptoSaid' is the law's where the arguments, and the package variables that the reading takes, are together of bulk at most 1048576: NARROWER than '..Said'. Prove '..Said' where nothing that the law and all that it calls make is longer than what came in: it says more and counts as full. Else prove '..UptoSaid'. A law counts once. -/
mutual
def uptoBulk {H : Type} : DataW H → Nat
  | .lit (.string bytes) => bytes.length + 1
  | .lit _ => 1
  | .nil => 1
  | .ptr d => uptoBulk d + 1
  | .slice elems spare => uptoBulkAll elems + uptoBulkAll spare + 1
  | .agg parts => uptoBulkAll parts + 1
  | .iface _ d => uptoBulk d + 1
  | .map entries => uptoBulkEntries entries + 1
  | .held _ => 1
def uptoBulkAll {H : Type} : List (DataW H) → Nat
  | [] => 0
  | d :: r => uptoBulk d + uptoBulkAll r
def uptoBulkEntries {H : Type} : List (Lit × DataW H) → Nat
  | [] => 0
  | x :: r => uptoBulkEntry x + uptoBulkEntries r
def uptoBulkEntry {H : Type} : Lit × DataW H → Nat
  | (.string bytes, d) => bytes.length + uptoBulk d + 1
  | (_, d) => uptoBulk d + 1
 end
def uptoSmall : (H : Type) → List (DataW H) → Bool := fun _ ds => decide (uptoBulkAll ds ≤ 1048576)
def OpenSpec.upto (s : _root_.Go.ChangeSpec) : _root_.Go.OpenSpec := { _root_.Go.OpenSpec.ofChange s with cond := some uptoSmall }

/-- 'annalistlaw5.SetNormalize', WHERE WHAT IT READS IS OF BULK AT MOST 1048576: true; the input reads as it did. -/
def setNormalizeUptoRow : OpenClaim := { program := "yticbeaepmnobnaa", sum := "f1b8880d8fa87d06645c00d5271bdcc42861d67065ce80a4f6e57f85a441a624", func := "annalist/annalistlaw5.SetNormalize", spec := "setNormalize", unfollowed := true, recurses := true, apart := false, narrowed := true }
def SetNormalizeUptoSaid : Prop := setNormalizeUptoRow.holds Try.pinned (OpenSpec.upto setNormalizeSpec)

/-- 'annalistlaw5.SetLength', WHERE WHAT IT READS IS OF BULK AT MOST 1048576: true; the input reads as it did. -/
def setLengthUptoRow : OpenClaim := { program := "yticbeaepmnobnaa", sum := "f1b8880d8fa87d06645c00d5271bdcc42861d67065ce80a4f6e57f85a441a624", func := "annalist/annalistlaw5.SetLength", spec := "setLength", unfollowed := true, recurses := true, apart := false, narrowed := true }
def SetLengthUptoSaid : Prop := setLengthUptoRow.holds Try.pinned (OpenSpec.upto setLengthSpec)

/-- 'annalistlaw5.SetOperations', WHERE WHAT IT READS IS OF BULK AT MOST 1048576: true; the input reads as it did. -/
def setOperationsUptoRow : OpenClaim := { program := "yticbeaepmnobnaa", sum := "f1b8880d8fa87d06645c00d5271bdcc42861d67065ce80a4f6e57f85a441a624", func := "annalist/annalistlaw5.SetOperations", spec := "setOperations", unfollowed := true, recurses := true, apart := false, narrowed := true }
def SetOperationsUptoSaid : Prop := setOperationsUptoRow.holds Try.pinned (OpenSpec.upto setOperationsSpec)

/-- 'annalistlaw5.SetCanonical', WHERE WHAT IT READS IS OF BULK AT MOST 1048576: true; the input reads as it did. -/
def setCanonicalUptoRow : OpenClaim := { program := "yticbeaepmnobnaa", sum := "f1b8880d8fa87d06645c00d5271bdcc42861d67065ce80a4f6e57f85a441a624", func := "annalist/annalistlaw5.SetCanonical", spec := "setCanonical", unfollowed := true, recurses := true, apart := false, narrowed := true }
def SetCanonicalUptoSaid : Prop := setCanonicalUptoRow.holds Try.pinned (OpenSpec.upto setCanonicalSpec)

/-- 'annalistlaw5.SetAlgebra', WHERE WHAT IT READS IS OF BULK AT MOST 1048576: true; the input reads as it did. -/
def setAlgebraUptoRow : OpenClaim := { program := "yticbeaepmnobnaa", sum := "f1b8880d8fa87d06645c00d5271bdcc42861d67065ce80a4f6e57f85a441a624", func := "annalist/annalistlaw5.SetAlgebra", spec := "setAlgebra", unfollowed := true, recurses := true, apart := false, narrowed := true }
def SetAlgebraUptoSaid : Prop := setAlgebraUptoRow.holds Try.pinned (OpenSpec.upto setAlgebraSpec)

/-- 'annalistlaw5.SetPoints', WHERE WHAT IT READS IS OF BULK AT MOST 1048576: true; the input reads as it did. -/
def setPointsUptoRow : OpenClaim := { program := "yticbeaepmnobnaa", sum := "f1b8880d8fa87d06645c00d5271bdcc42861d67065ce80a4f6e57f85a441a624", func := "annalist/annalistlaw5.SetPoints", spec := "setPoints", unfollowed := true, recurses := true, apart := false, narrowed := true }
def SetPointsUptoSaid : Prop := setPointsUptoRow.holds Try.pinned (OpenSpec.upto setPointsSpec)

end Rows
end Go.Proofs.Yticbeaepmnobnaa
