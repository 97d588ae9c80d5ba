/-
  No cell of these rows narrows 'for every input' (looked for: loops, veiled, ifaces, maps, wideKeys, modest, calm, conditions, laid).
  DERIVED. THE GIVEN ROWS OF THIS SEAT. 7 by the template 'for every input the law returns true; each argument reads behind the call as it read before'; 0 by the template 'total and deterministic' (their statements: YteogpcpleokfbaaTotals.lean).
  GIVEN WITH THE SEED: the statements are not yours to turn. If you find one false, say at which input.
  Laid BY PROGRAM, IN A SANDBOX (cutbox-rows.mjs): the forced cells as the released guide's own fill.sh prints them over the translation 2c08a125207856ce… (all of the seat's roots in one cut). By AI agents, Wed Nov 11 2026. No macro, syntax, notation, axiom, sorry.
-/
import Derived.Test.YteogpcpleokfbaaChecked
import GoSem.Claim
import GoSem.ClaimJoined
import GoSem.ClaimMapViews
import Derived.JoinedTies
import Derived.KernelRfl
namespace Go.Proofs.Yteogpcpleokfbaa
/- THE CELL 'sum', in the pinned program and in every row, IS THE sha256 OF THE DUMP (.gsa) THAT YteogpcpleokfbaaProg.lean LOADS. Nothing in Lean hashes anything: it is a label: what it is worth is what the hold of that sum in a sandbox is worth. -/
noncomputable def Try.pinned : Pinned := { name := "yteogpcpleokfbaa", sum := "2c08a125207856ce7bc244528ca3e8480430b9c6394c1a57c834b476585c6787", checked := Try.checked }
namespace Rows
def none {H : Type} : Left H := { results := [], args := [] }

/-- 'annalistlaw26.TimelineBuilds': WHATEVER THE INPUT: true; the input reads as it did. -/
def timelineBuildsSpec : ChangeSpec := { name := "timelineBuilds", fn := fun _ => fun
  | [d1, d2, d3, d4] => { results := [.lit (.bool true)], args := [d1, d2, d3, d4] }
  | _ => none }
def timelineBuildsRow : OpenClaim := { program := "yteogpcpleokfbaa", sum := "2c08a125207856ce7bc244528ca3e8480430b9c6394c1a57c834b476585c6787", func := "annalist/annalistlaw26.TimelineBuilds", spec := "timelineBuilds", inPlace := ["slices.overlaps[int]", "slices.overlaps[annalist/api.TimelineEvent]"], unfollowed := true, recurses := true, apart := false }
def TimelineBuildsSaid : Prop := timelineBuildsRow.holds Try.pinned (OpenSpec.ofChange timelineBuildsSpec)

/-- ITS FALSE NEIGHBOUR: 'it returns false'. Refute it at one input. -/
def timelineBuildsWrong : ChangeSpec := { name := "timelineBuilds", fn := fun _ => fun
  | [d1, d2, d3, d4] => { results := [.lit (.bool false)], args := [d1, d2, d3, d4] }
  | _ => none }
def TimelineBuildsWrongFalsely : Prop := timelineBuildsRow.holds Try.pinned (OpenSpec.ofChange timelineBuildsWrong)

/-- 'annalistlaw26.TimelineAppends': WHATEVER THE INPUT: true; the input reads as it did. -/
def timelineAppendsSpec : ChangeSpec := { name := "timelineAppends", fn := fun _ => fun
  | [d1, d2, d3, d4] => { results := [.lit (.bool true)], args := [d1, d2, d3, d4] }
  | _ => none }
def timelineAppendsRow : OpenClaim := { program := "yteogpcpleokfbaa", sum := "2c08a125207856ce7bc244528ca3e8480430b9c6394c1a57c834b476585c6787", func := "annalist/annalistlaw26.TimelineAppends", spec := "timelineAppends", inPlace := ["slices.overlaps[int]", "slices.overlaps[annalist/api.TimelineEvent]"], unfollowed := true, recurses := true, apart := false }
def TimelineAppendsSaid : Prop := timelineAppendsRow.holds Try.pinned (OpenSpec.ofChange timelineAppendsSpec)

/-- ITS FALSE NEIGHBOUR: 'it returns false'. Refute it at one input. -/
def timelineAppendsWrong : ChangeSpec := { name := "timelineAppends", fn := fun _ => fun
  | [d1, d2, d3, d4] => { results := [.lit (.bool false)], args := [d1, d2, d3, d4] }
  | _ => none }
def TimelineAppendsWrongFalsely : Prop := timelineAppendsRow.holds Try.pinned (OpenSpec.ofChange timelineAppendsWrong)

/-- 'annalistlaw26.TimelineGrows': WHATEVER THE INPUT: true; the input reads as it did. -/
def timelineGrowsSpec : ChangeSpec := { name := "timelineGrows", fn := fun _ => fun
  | [d1, d2, d3, d4] => { results := [.lit (.bool true)], args := [d1, d2, d3, d4] }
  | _ => none }
def timelineGrowsRow : OpenClaim := { program := "yteogpcpleokfbaa", sum := "2c08a125207856ce7bc244528ca3e8480430b9c6394c1a57c834b476585c6787", func := "annalist/annalistlaw26.TimelineGrows", spec := "timelineGrows", inPlace := ["slices.overlaps[int]", "slices.overlaps[annalist/api.TimelineEvent]"], unfollowed := true, recurses := true, apart := false }
def TimelineGrowsSaid : Prop := timelineGrowsRow.holds Try.pinned (OpenSpec.ofChange timelineGrowsSpec)

/-- ITS FALSE NEIGHBOUR: 'it returns false'. Refute it at one input. -/
def timelineGrowsWrong : ChangeSpec := { name := "timelineGrows", fn := fun _ => fun
  | [d1, d2, d3, d4] => { results := [.lit (.bool false)], args := [d1, d2, d3, d4] }
  | _ => none }
def TimelineGrowsWrongFalsely : Prop := timelineGrowsRow.holds Try.pinned (OpenSpec.ofChange timelineGrowsWrong)

/-- 'annalistlaw26.TimelineSame': WHATEVER THE INPUT: true; the input reads as it did. -/
def timelineSameSpec : ChangeSpec := { name := "timelineSame", fn := fun _ => fun
  | [d1, d2, d3, d4] => { results := [.lit (.bool true)], args := [d1, d2, d3, d4] }
  | _ => none }
def timelineSameRow : OpenClaim := { program := "yteogpcpleokfbaa", sum := "2c08a125207856ce7bc244528ca3e8480430b9c6394c1a57c834b476585c6787", func := "annalist/annalistlaw26.TimelineSame", spec := "timelineSame", inPlace := ["slices.overlaps[int]", "slices.overlaps[annalist/api.TimelineEvent]"], unfollowed := true, recurses := true, apart := false }
def TimelineSameSaid : Prop := timelineSameRow.holds Try.pinned (OpenSpec.ofChange timelineSameSpec)

/-- ITS FALSE NEIGHBOUR: 'it returns false'. Refute it at one input. -/
def timelineSameWrong : ChangeSpec := { name := "timelineSame", fn := fun _ => fun
  | [d1, d2, d3, d4] => { results := [.lit (.bool false)], args := [d1, d2, d3, d4] }
  | _ => none }
def TimelineSameWrongFalsely : Prop := timelineSameRow.holds Try.pinned (OpenSpec.ofChange timelineSameWrong)

/-- 'annalistlaw26.TimelineExamined': WHATEVER THE INPUT: true; the input reads as it did. -/
def timelineExaminedSpec : ChangeSpec := { name := "timelineExamined", fn := fun _ => fun
  | [d1, d2, d3] => { results := [.lit (.bool true)], args := [d1, d2, d3] }
  | _ => none }
def timelineExaminedRow : OpenClaim := { program := "yteogpcpleokfbaa", sum := "2c08a125207856ce7bc244528ca3e8480430b9c6394c1a57c834b476585c6787", func := "annalist/annalistlaw26.TimelineExamined", spec := "timelineExamined", inPlace := ["slices.overlaps[int]", "slices.overlaps[annalist/api.TimelineEvent]"], unfollowed := true, recurses := true, apart := false }
def TimelineExaminedSaid : Prop := timelineExaminedRow.holds Try.pinned (OpenSpec.ofChange timelineExaminedSpec)

/-- ITS FALSE NEIGHBOUR: 'it returns false'. Refute it at one input. -/
def timelineExaminedWrong : ChangeSpec := { name := "timelineExamined", fn := fun _ => fun
  | [d1, d2, d3] => { results := [.lit (.bool false)], args := [d1, d2, d3] }
  | _ => none }
def TimelineExaminedWrongFalsely : Prop := timelineExaminedRow.holds Try.pinned (OpenSpec.ofChange timelineExaminedWrong)

/-- 'annalistlaw26.TimelineNil': WHATEVER THE INPUT: true; the input reads as it did. -/
def timelineNilSpec : ChangeSpec := { name := "timelineNil", fn := fun _ => fun
  | [d1, d2, d3] => { results := [.lit (.bool true)], args := [d1, d2, d3] }
  | _ => none }
def timelineNilRow : OpenClaim := { program := "yteogpcpleokfbaa", sum := "2c08a125207856ce7bc244528ca3e8480430b9c6394c1a57c834b476585c6787", func := "annalist/annalistlaw26.TimelineNil", spec := "timelineNil", inPlace := ["slices.overlaps[int]", "slices.overlaps[annalist/api.TimelineEvent]"], unfollowed := true, recurses := true, apart := false }
def TimelineNilSaid : Prop := timelineNilRow.holds Try.pinned (OpenSpec.ofChange timelineNilSpec)

/-- ITS FALSE NEIGHBOUR: 'it returns false'. Refute it at one input. -/
def timelineNilWrong : ChangeSpec := { name := "timelineNil", fn := fun _ => fun
  | [d1, d2, d3] => { results := [.lit (.bool false)], args := [d1, d2, d3] }
  | _ => none }
def TimelineNilWrongFalsely : Prop := timelineNilRow.holds Try.pinned (OpenSpec.ofChange timelineNilWrong)

/-- 'annalistlaw26.TimelineAgrees': WHATEVER THE INPUT: true; the input reads as it did. -/
def timelineAgreesSpec : ChangeSpec := { name := "timelineAgrees", fn := fun _ => fun
  | [d1, d2, d3] => { results := [.lit (.bool true)], args := [d1, d2, d3] }
  | _ => none }
def timelineAgreesRow : OpenClaim := { program := "yteogpcpleokfbaa", sum := "2c08a125207856ce7bc244528ca3e8480430b9c6394c1a57c834b476585c6787", func := "annalist/annalistlaw26.TimelineAgrees", spec := "timelineAgrees", inPlace := ["slices.overlaps[int]", "slices.overlaps[annalist/api.TimelineEvent]"], unfollowed := true, recurses := true, apart := false }
def TimelineAgreesSaid : Prop := timelineAgreesRow.holds Try.pinned (OpenSpec.ofChange timelineAgreesSpec)

/-- ITS FALSE NEIGHBOUR: 'it returns false'. Refute it at one input. -/
def timelineAgreesWrong : ChangeSpec := { name := "timelineAgrees", fn := fun _ => fun
  | [d1, d2, d3] => { results := [.lit (.bool false)], args := [d1, d2, d3] }
  | _ => none }
def TimelineAgreesWrongFalsely : Prop := timelineAgreesRow.holds Try.pinned (OpenSpec.ofChange timelineAgreesWrong)

/- THE SECOND FORM. 'bulk': how many values and letters a reading holds, each counted each time it is reached (what is shared counts as often as it is met; a slice's spare places count too). A statement '..UptoSaid' is the law's where the arguments, and the package variables that the reading takes, are together of bulk at most 1048576: NARROWER than '..Said'. Prove '..Said' where nothing that the law and all that it calls make is longer than what came in: it says more and counts as full. Else prove '..UptoSaid'. A law counts once. -/
mutual
def uptoBulk {H : Type} : DataW H → Nat
  | .lit (.string bytes) => bytes.length + 1
  | .lit _ => 1
  | .nil => 1
  | .ptr d => uptoBulk d + 1
  | .slice elems spare => uptoBulkAll elems + uptoBulkAll spare + 1
  | .agg parts => uptoBulkAll parts + 1
  | .iface _ d => uptoBulk d + 1
  | .map entries => uptoBulkEntries entries + 1
  | .held _ => 1
def uptoBulkAll {H : Type} : List (DataW H) → Nat
  | [] => 0
  | d :: r => uptoBulk d + uptoBulkAll r
def uptoBulkEntries {H : Type} : List (Lit × DataW H) → Nat
  | [] => 0
  | x :: r => uptoBulkEntry x + uptoBulkEntries r
def uptoBulkEntry {H : Type} : Lit × DataW H → Nat
  | (.string bytes, d) => bytes.length + uptoBulk d + 1
  | (_, d) => uptoBulk d + 1
 end
def uptoSmall : (H : Type) → List (DataW H) → Bool := fun _ ds => decide (uptoBulkAll ds ≤ 1048576)
def OpenSpec.upto (s : _root_.Go.ChangeSpec) : _root_.Go.OpenSpec := { _root_.Go.OpenSpec.ofChange s with cond := some uptoSmall }

/-- 'annalistlaw26.TimelineBuilds', WHERE WHAT IT READS IS OF BULK AT MOST 1048576: true; the input reads as it did. -/
def timelineBuildsUptoRow : OpenClaim := { program := "yteogpcpleokfbaa", sum := "2c08a125207856ce7bc244528ca3e8480430b9c6394c1a57c834b476585c6787", func := "annalist/annalistlaw26.TimelineBuilds", spec := "timelineBuilds", inPlace := ["slices.overlaps[int]", "slices.overlaps[annalist/api.TimelineEvent]"], unfollowed := true, recurses := true, apart := false, narrowed := true }
def TimelineBuildsUptoSaid : Prop := timelineBuildsUptoRow.holds Try.pinned (OpenSpec.upto timelineBuildsSpec)

/-- 'annalistlaw26.TimelineAppends', WHERE WHAT IT READS IS OF BULK AT MOST 1048576: true; the input reads as it did. -/
def timelineAppendsUptoRow : OpenClaim := { program := "yteogpcpleokfbaa", sum := "2c08a125207856ce7bc244528ca3e8480430b9c6394c1a57c834b476585c6787", func := "annalist/annalistlaw26.TimelineAppends", spec := "timelineAppends", inPlace := ["slices.overlaps[int]", "slices.overlaps[annalist/api.TimelineEvent]"], unfollowed := true, recurses := true, apart := false, narrowed := true }
def TimelineAppendsUptoSaid : Prop := timelineAppendsUptoRow.holds Try.pinned (OpenSpec.upto timelineAppendsSpec)

/-- 'annalistlaw26.TimelineGrows', WHERE WHAT IT READS IS OF BULK AT MOST 1048576: true; the input reads as it did. -/
def timelineGrowsUptoRow : OpenClaim := { program := "yteogpcpleokfbaa", sum := "2c08a125207856ce7bc244528ca3e8480430b9c6394c1a57c834b476585c6787", func := "annalist/annalistlaw26.TimelineGrows", spec := "timelineGrows", inPlace := ["slices.overlaps[int]", "slices.overlaps[annalist/api.TimelineEvent]"], unfollowed := true, recurses := true, apart := false, narrowed := true }
def TimelineGrowsUptoSaid : Prop := timelineGrowsUptoRow.holds Try.pinned (OpenSpec.upto timelineGrowsSpec)

/-- 'annalistlaw26.TimelineSame', WHERE WHAT IT READS IS OF BULK AT MOST 1048576: true; the input reads as it did. -/
def timelineSameUptoRow : OpenClaim := { program := "yteogpcpleokfbaa", sum := "2c08a125207856ce7bc244528ca3e8480430b9c6394c1a57c834b476585c6787", func := "annalist/annalistlaw26.TimelineSame", spec := "timelineSame", inPlace := ["slices.overlaps[int]", "slices.overlaps[annalist/api.TimelineEvent]"], unfollowed := true, recurses := true, apart := false, narrowed := true }
def TimelineSameUptoSaid : Prop := timelineSameUptoRow.holds Try.pinned (OpenSpec.upto timelineSameSpec)

/-- 'annalistlaw26.TimelineExamined', WHERE WHAT IT READS IS OF BULK AT MOST 1048576: true; the input reads as it did. -/
def timelineExaminedUptoRow : OpenClaim := { program := "yteogpcpleokfbaa", sum := "2c08a125207856ce7bc244528ca3e8480430b9c6394c1a57c834b476585c6787", func := "annalist/annalistlaw26.TimelineExamined", spec := "timelineExamined", inPlace := ["slices.overlaps[int]", "slices.overlaps[annalist/api.TimelineEvent]"], unfollowed := true, recurses := true, apart := false, narrowed := true }
def TimelineExaminedUptoSaid : Prop := timelineExaminedUptoRow.holds Try.pinned (OpenSpec.upto timelineExaminedSpec)

/-- 'annalistlaw26.TimelineNil', WHERE WHAT IT READS IS OF BULK AT MOST 1048576: true; the input reads as it did. -/
def timelineNilUptoRow : OpenClaim := { program := "yteogpcpleokfbaa", sum := "2c08a125207856ce7bc244528ca3e8480430b9c6394c1a57c834b476585c6787", func := "annalist/annalistlaw26.TimelineNil", spec := "timelineNil", inPlace := ["slices.overlaps[int]", "slices.overlaps[annalist/api.TimelineEvent]"], unfollowed := true, recurses := true, apart := false, narrowed := true }
def TimelineNilUptoSaid : Prop := timelineNilUptoRow.holds Try.pinned (OpenSpec.upto timelineNilSpec)

/-- 'annalistlaw26.TimelineAgrees', WHERE WHAT IT READS IS OF BULK AT MOST 1048576: true; the input reads as it did. -/
def timelineAgreesUptoRow : OpenClaim := { program := "yteogpcpleokfbaa", sum := "2c08a125207856ce7bc244528ca3e8480430b9c6394c1a57c834b476585c6787", func := "annalist/annalistlaw26.TimelineAgrees", spec := "timelineAgrees", inPlace := ["slices.overlaps[int]", "slices.overlaps[annalist/api.TimelineEvent]"], unfollowed := true, recurses := true, apart := false, narrowed := true }
def TimelineAgreesUptoSaid : Prop := timelineAgreesUptoRow.holds Try.pinned (OpenSpec.upto timelineAgreesSpec)

end Rows
end Go.Proofs.Yteogpcpleokfbaa
