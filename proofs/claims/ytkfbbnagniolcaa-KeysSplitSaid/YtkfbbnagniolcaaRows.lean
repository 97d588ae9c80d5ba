/-
  No cell of these rows narrows 'for every input' (looked for: loops, veiled, ifaces, maps, wideKeys, modest, calm, conditions, laid).
  DERIVED. THE GIVEN ROWS OF THIS SEAT. 6 by the template 'for every input the law returns true; each argument reads behind the call as it read before'; 0 by the template 'total and deterministic' (their statements: YtkfbbnagniolcaaTotals.lean).
  GIVEN WITH THE SEED: the statements are not yours to turn. If you find one false, say at which input.
  Laid BY PROGRAM, IN A SANDBOX (cutbox-rows.mjs): the forced cells as the released guide's own fill.sh prints them over the translation b377b3dac2aa2f7b… (all of the seat's roots in one cut). By AI agents, Wed Nov 11 2026. No macro, syntax, notation, axiom, sorry.
-/
import Derived.Test.YtkfbbnagniolcaaChecked
import GoSem.Claim
import GoSem.ClaimJoined
import GoSem.ClaimMapViews
import Derived.JoinedTies
import Derived.KernelRfl
namespace Go.Proofs.Ytkfbbnagniolcaa
/- THE CELL 'sum', in the pinned program and in every row, IS THE sha256 OF THE DUMP (.gsa) THAT YtkfbbnagniolcaaProg.lean LOADS. Nothing in Lean hashes anything: it is a label: what it is worth is what the hold of that sum in a sandbox is worth. -/
noncomputable def Try.pinned : Pinned := { name := "ytkfbbnagniolcaa", sum := "b377b3dac2aa2f7bfb300426bdf42fbaa67e3133b2d67b74d144c0d3b5ceb19c", checked := Try.checked }
namespace Rows
def none {H : Type} : Left H := { results := [], args := [] }

/-- 'annalistlaw22.KeysValues': WHATEVER THE INPUT: true; the input reads as it did. -/
def keysValuesSpec : ChangeSpec := { name := "keysValues", fn := fun _ => fun
  | [d1, d2] => { results := [.lit (.bool true)], args := [d1, d2] }
  | _ => none }
def keysValuesRow : OpenClaim := { program := "ytkfbbnagniolcaa", sum := "b377b3dac2aa2f7bfb300426bdf42fbaa67e3133b2d67b74d144c0d3b5ceb19c", func := "annalist/annalistlaw22.KeysValues", spec := "keysValues", inPlace := ["internal/bytealg.abigen_runtime_cmpstring"], unfollowed := true, recurses := true, apart := false }
def KeysValuesSaid : Prop := keysValuesRow.holds Try.pinned (OpenSpec.ofChange keysValuesSpec)

/-- ITS FALSE NEIGHBOUR: 'it returns false'. Refute it at one input. -/
def keysValuesWrong : ChangeSpec := { name := "keysValues", fn := fun _ => fun
  | [d1, d2] => { results := [.lit (.bool false)], args := [d1, d2] }
  | _ => none }
def KeysValuesWrongFalsely : Prop := keysValuesRow.holds Try.pinned (OpenSpec.ofChange keysValuesWrong)

/-- 'annalistlaw22.KeysRaw': WHATEVER THE INPUT: true; the input reads as it did. -/
def keysRawSpec : ChangeSpec := { name := "keysRaw", fn := fun _ => fun
  | [d1, d2] => { results := [.lit (.bool true)], args := [d1, d2] }
  | _ => none }
def keysRawRow : OpenClaim := { program := "ytkfbbnagniolcaa", sum := "b377b3dac2aa2f7bfb300426bdf42fbaa67e3133b2d67b74d144c0d3b5ceb19c", func := "annalist/annalistlaw22.KeysRaw", spec := "keysRaw", inPlace := ["internal/bytealg.abigen_runtime_cmpstring"], unfollowed := true, recurses := true, apart := false }
def KeysRawSaid : Prop := keysRawRow.holds Try.pinned (OpenSpec.ofChange keysRawSpec)

/-- ITS FALSE NEIGHBOUR: 'it returns false'. Refute it at one input. -/
def keysRawWrong : ChangeSpec := { name := "keysRaw", fn := fun _ => fun
  | [d1, d2] => { results := [.lit (.bool false)], args := [d1, d2] }
  | _ => none }
def KeysRawWrongFalsely : Prop := keysRawRow.holds Try.pinned (OpenSpec.ofChange keysRawWrong)

/-- 'annalistlaw22.KeysViolations': WHATEVER THE INPUT: true; the input reads as it did. -/
def keysViolationsSpec : ChangeSpec := { name := "keysViolations", fn := fun _ => fun
  | [d1, d2] => { results := [.lit (.bool true)], args := [d1, d2] }
  | _ => none }
def keysViolationsRow : OpenClaim := { program := "ytkfbbnagniolcaa", sum := "b377b3dac2aa2f7bfb300426bdf42fbaa67e3133b2d67b74d144c0d3b5ceb19c", func := "annalist/annalistlaw22.KeysViolations", spec := "keysViolations", inPlace := ["internal/bytealg.abigen_runtime_cmpstring"], unfollowed := true, recurses := true, apart := false }
def KeysViolationsSaid : Prop := keysViolationsRow.holds Try.pinned (OpenSpec.ofChange keysViolationsSpec)

/-- ITS FALSE NEIGHBOUR: 'it returns false'. Refute it at one input. -/
def keysViolationsWrong : ChangeSpec := { name := "keysViolations", fn := fun _ => fun
  | [d1, d2] => { results := [.lit (.bool false)], args := [d1, d2] }
  | _ => none }
def KeysViolationsWrongFalsely : Prop := keysViolationsRow.holds Try.pinned (OpenSpec.ofChange keysViolationsWrong)

/-- 'annalistlaw22.KeysApart': WHATEVER THE INPUT: true; the input reads as it did. -/
def keysApartSpec : ChangeSpec := { name := "keysApart", fn := fun _ => fun
  | [d] => { results := [.lit (.bool true)], args := [d] }
  | _ => none }
def keysApartRow : OpenClaim := { program := "ytkfbbnagniolcaa", sum := "b377b3dac2aa2f7bfb300426bdf42fbaa67e3133b2d67b74d144c0d3b5ceb19c", func := "annalist/annalistlaw22.KeysApart", spec := "keysApart", inPlace := ["internal/bytealg.abigen_runtime_cmpstring"], unfollowed := true, recurses := true, apart := false }
def KeysApartSaid : Prop := keysApartRow.holds Try.pinned (OpenSpec.ofChange keysApartSpec)

/-- ITS FALSE NEIGHBOUR: 'it returns false'. Refute it at one input. -/
def keysApartWrong : ChangeSpec := { name := "keysApart", fn := fun _ => fun
  | [d] => { results := [.lit (.bool false)], args := [d] }
  | _ => none }
def KeysApartWrongFalsely : Prop := keysApartRow.holds Try.pinned (OpenSpec.ofChange keysApartWrong)

/-- 'annalistlaw22.KeysSplit': WHATEVER THE INPUT: true; the input reads as it did. -/
def keysSplitSpec : ChangeSpec := { name := "keysSplit", fn := fun _ => fun
  | [d1, d2, d3] => { results := [.lit (.bool true)], args := [d1, d2, d3] }
  | _ => none }
def keysSplitRow : OpenClaim := { program := "ytkfbbnagniolcaa", sum := "b377b3dac2aa2f7bfb300426bdf42fbaa67e3133b2d67b74d144c0d3b5ceb19c", func := "annalist/annalistlaw22.KeysSplit", spec := "keysSplit", inPlace := ["internal/bytealg.abigen_runtime_cmpstring"], unfollowed := true, recurses := true, apart := false }
def KeysSplitSaid : Prop := keysSplitRow.holds Try.pinned (OpenSpec.ofChange keysSplitSpec)

/-- ITS FALSE NEIGHBOUR: 'it returns false'. Refute it at one input. -/
def keysSplitWrong : ChangeSpec := { name := "keysSplit", fn := fun _ => fun
  | [d1, d2, d3] => { results := [.lit (.bool false)], args := [d1, d2, d3] }
  | _ => none }
def KeysSplitWrongFalsely : Prop := keysSplitRow.holds Try.pinned (OpenSpec.ofChange keysSplitWrong)

/-- 'annalistlaw22.KeysDaily': WHATEVER THE INPUT: true; the input reads as it did. -/
def keysDailySpec : ChangeSpec := { name := "keysDaily", fn := fun _ => fun
  | [d1, d2, d3] => { results := [.lit (.bool true)], args := [d1, d2, d3] }
  | _ => none }
def keysDailyRow : OpenClaim := { program := "ytkfbbnagniolcaa", sum := "b377b3dac2aa2f7bfb300426bdf42fbaa67e3133b2d67b74d144c0d3b5ceb19c", func := "annalist/annalistlaw22.KeysDaily", spec := "keysDaily", inPlace := ["internal/bytealg.abigen_runtime_cmpstring"], unfollowed := true, recurses := true, apart := false }
def KeysDailySaid : Prop := keysDailyRow.holds Try.pinned (OpenSpec.ofChange keysDailySpec)

/-- ITS FALSE NEIGHBOUR: 'it returns false'. Refute it at one input. -/
def keysDailyWrong : ChangeSpec := { name := "keysDaily", fn := fun _ => fun
  | [d1, d2, d3] => { results := [.lit (.bool false)], args := [d1, d2, d3] }
  | _ => none }
def KeysDailyWrongFalsely : Prop := keysDailyRow.holds Try.pinned (OpenSpec.ofChange keysDailyWrong)

/- THE SECOND FORM. 'bulk': how many values and letters a reading holds, each counted each time it is reached (what is shared counts as often as it is met; a slice's spare places count too). A statement '..UptoSaid' is the law's where the arguments, and the package variables that the reading takes, are together of bulk at most 1048576: NARROWER than '..Said'. Prove '..Said' where nothing that the law and all that it calls make is longer than what came in: it says more and counts as full. Else prove '..UptoSaid'. A law counts once. -/
mutual
def uptoBulk {H : Type} : DataW H → Nat
  | .lit (.string bytes) => bytes.length + 1
  | .lit _ => 1
  | .nil => 1
  | .ptr d => uptoBulk d + 1
  | .slice elems spare => uptoBulkAll elems + uptoBulkAll spare + 1
  | .agg parts => uptoBulkAll parts + 1
  | .iface _ d => uptoBulk d + 1
  | .map entries => uptoBulkEntries entries + 1
  | .held _ => 1
def uptoBulkAll {H : Type} : List (DataW H) → Nat
  | [] => 0
  | d :: r => uptoBulk d + uptoBulkAll r
def uptoBulkEntries {H : Type} : List (Lit × DataW H) → Nat
  | [] => 0
  | x :: r => uptoBulkEntry x + uptoBulkEntries r
def uptoBulkEntry {H : Type} : Lit × DataW H → Nat
  | (.string bytes, d) => bytes.length + uptoBulk d + 1
  | (_, d) => uptoBulk d + 1
 end
def uptoSmall : (H : Type) → List (DataW H) → Bool := fun _ ds => decide (uptoBulkAll ds ≤ 1048576)
def OpenSpec.upto (s : _root_.Go.ChangeSpec) : _root_.Go.OpenSpec := { _root_.Go.OpenSpec.ofChange s with cond := some uptoSmall }

/-- 'annalistlaw22.KeysValues', WHERE WHAT IT READS IS OF BULK AT MOST 1048576: true; the input reads as it did. -/
def keysValuesUptoRow : OpenClaim := { program := "ytkfbbnagniolcaa", sum := "b377b3dac2aa2f7bfb300426bdf42fbaa67e3133b2d67b74d144c0d3b5ceb19c", func := "annalist/annalistlaw22.KeysValues", spec := "keysValues", inPlace := ["internal/bytealg.abigen_runtime_cmpstring"], unfollowed := true, recurses := true, apart := false, narrowed := true }
def KeysValuesUptoSaid : Prop := keysValuesUptoRow.holds Try.pinned (OpenSpec.upto keysValuesSpec)

/-- 'annalistlaw22.KeysRaw', WHERE WHAT IT READS IS OF BULK AT MOST 1048576: true; the input reads as it did. -/
def keysRawUptoRow : OpenClaim := { program := "ytkfbbnagniolcaa", sum := "b377b3dac2aa2f7bfb300426bdf42fbaa67e3133b2d67b74d144c0d3b5ceb19c", func := "annalist/annalistlaw22.KeysRaw", spec := "keysRaw", inPlace := ["internal/bytealg.abigen_runtime_cmpstring"], unfollowed := true, recurses := true, apart := false, narrowed := true }
def KeysRawUptoSaid : Prop := keysRawUptoRow.holds Try.pinned (OpenSpec.upto keysRawSpec)

/-- 'annalistlaw22.KeysViolations', WHERE WHAT IT READS IS OF BULK AT MOST 1048576: true; the input reads as it did. -/
def keysViolationsUptoRow : OpenClaim := { program := "ytkfbbnagniolcaa", sum := "b377b3dac2aa2f7bfb300426bdf42fbaa67e3133b2d67b74d144c0d3b5ceb19c", func := "annalist/annalistlaw22.KeysViolations", spec := "keysViolations", inPlace := ["internal/bytealg.abigen_runtime_cmpstring"], unfollowed := true, recurses := true, apart := false, narrowed := true }
def KeysViolationsUptoSaid : Prop := keysViolationsUptoRow.holds Try.pinned (OpenSpec.upto keysViolationsSpec)

/-- 'annalistlaw22.KeysApart', WHERE WHAT IT READS IS OF BULK AT MOST 1048576: true; the input reads as it did. -/
def keysApartUptoRow : OpenClaim := { program := "ytkfbbnagniolcaa", sum := "b377b3dac2aa2f7bfb300426bdf42fbaa67e3133b2d67b74d144c0d3b5ceb19c", func := "annalist/annalistlaw22.KeysApart", spec := "keysApart", inPlace := ["internal/bytealg.abigen_runtime_cmpstring"], unfollowed := true, recurses := true, apart := false, narrowed := true }
def KeysApartUptoSaid : Prop := keysApartUptoRow.holds Try.pinned (OpenSpec.upto keysApartSpec)

/-- 'annalistlaw22.KeysSplit', WHERE WHAT IT READS IS OF BULK AT MOST 1048576: true; the input reads as it did. -/
def keysSplitUptoRow : OpenClaim := { program := "ytkfbbnagniolcaa", sum := "b377b3dac2aa2f7bfb300426bdf42fbaa67e3133b2d67b74d144c0d3b5ceb19c", func := "annalist/annalistlaw22.KeysSplit", spec := "keysSplit", inPlace := ["internal/bytealg.abigen_runtime_cmpstring"], unfollowed := true, recurses := true, apart := false, narrowed := true }
def KeysSplitUptoSaid : Prop := keysSplitUptoRow.holds Try.pinned (OpenSpec.upto keysSplitSpec)

/-- 'annalistlaw22.KeysDaily', WHERE WHAT IT READS IS OF BULK AT MOST 1048576: true; the input reads as it did. -/
def keysDailyUptoRow : OpenClaim := { program := "ytkfbbnagniolcaa", sum := "b377b3dac2aa2f7bfb300426bdf42fbaa67e3133b2d67b74d144c0d3b5ceb19c", func := "annalist/annalistlaw22.KeysDaily", spec := "keysDaily", inPlace := ["internal/bytealg.abigen_runtime_cmpstring"], unfollowed := true, recurses := true, apart := false, narrowed := true }
def KeysDailyUptoSaid : Prop := keysDailyUptoRow.holds Try.pinned (OpenSpec.upto keysDailySpec)

end Rows
end Go.Proofs.Ytkfbbnagniolcaa
