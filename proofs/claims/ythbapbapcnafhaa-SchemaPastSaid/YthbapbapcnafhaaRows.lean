/-
  No cell of these rows narrows 'for every input' (looked for: loops, veiled, ifaces, maps, wideKeys, modest, calm, conditions, laid).
  DERIVED. THE GIVEN ROWS OF THIS SEAT. 6 by the template 'for every input the law returns true; each argument reads behind the call as it read before'; 0 by the template 'total and deterministic' (their statements: YthbapbapcnafhaaTotals.lean).
  GIVEN WITH THE SEED: the statements are not yours to turn. If you find one false, say at which input.
  Laid BY PROGRAM, IN A SANDBOX (cutbox-rows.mjs): the forced cells as the released guide's own fill.sh prints them over the translation 93a611b2e03ccf01… (all of the seat's roots in one cut). By AI agents, Wed Nov 11 2026. No macro, syntax, notation, axiom, sorry.
-/
import Derived.Test.YthbapbapcnafhaaChecked
import GoSem.Claim
import GoSem.ClaimJoined
import GoSem.ClaimMapViews
import Derived.JoinedTies
import Derived.KernelRfl
namespace Go.Proofs.Ythbapbapcnafhaa
/- THE CELL 'sum', in the pinned program and in every row, IS THE sha256 OF THE DUMP (.gsa) THAT YthbapbapcnafhaaProg.lean LOADS. Nothing in Lean hashes anything: it is a label: what it is worth is what the hold of that sum in a sandbox is worth. -/
noncomputable def Try.pinned : Pinned := { name := "ythbapbapcnafhaa", sum := "93a611b2e03ccf01bbe3dc226152e0608d8131c280e7f0c0b620d4222b58df19", checked := Try.checked }
namespace Rows
def none {H : Type} : Left H := { results := [], args := [] }

/-- 'annalistlaw21.SchemaNames': WHATEVER THE INPUT: true; the input reads as it did. -/
def schemaNamesSpec : ChangeSpec := { name := "schemaNames", fn := fun _ => fun
  | [d] => { results := [.lit (.bool true)], args := [d] }
  | _ => none }
def schemaNamesRow : OpenClaim := { program := "ythbapbapcnafhaa", sum := "93a611b2e03ccf01bbe3dc226152e0608d8131c280e7f0c0b620d4222b58df19", func := "annalist/annalistlaw21.SchemaNames", spec := "schemaNames", unfollowed := true, recurses := true, apart := false }
def SchemaNamesSaid : Prop := schemaNamesRow.holds Try.pinned (OpenSpec.ofChange schemaNamesSpec)

/-- ITS FALSE NEIGHBOUR: 'it returns false'. Refute it at one input. -/
def schemaNamesWrong : ChangeSpec := { name := "schemaNames", fn := fun _ => fun
  | [d] => { results := [.lit (.bool false)], args := [d] }
  | _ => none }
def SchemaNamesWrongFalsely : Prop := schemaNamesRow.holds Try.pinned (OpenSpec.ofChange schemaNamesWrong)

/-- 'annalistlaw21.SchemaValidates': WHATEVER THE INPUT: true; the input reads as it did. -/
def schemaValidatesSpec : ChangeSpec := { name := "schemaValidates", fn := fun _ => fun
  | [d1, d2, d3, d4] => { results := [.lit (.bool true)], args := [d1, d2, d3, d4] }
  | _ => none }
def schemaValidatesRow : OpenClaim := { program := "ythbapbapcnafhaa", sum := "93a611b2e03ccf01bbe3dc226152e0608d8131c280e7f0c0b620d4222b58df19", func := "annalist/annalistlaw21.SchemaValidates", spec := "schemaValidates", unfollowed := true, recurses := true, apart := false }
def SchemaValidatesSaid : Prop := schemaValidatesRow.holds Try.pinned (OpenSpec.ofChange schemaValidatesSpec)

/-- ITS FALSE NEIGHBOUR: 'it returns false'. Refute it at one input. -/
def schemaValidatesWrong : ChangeSpec := { name := "schemaValidates", fn := fun _ => fun
  | [d1, d2, d3, d4] => { results := [.lit (.bool false)], args := [d1, d2, d3, d4] }
  | _ => none }
def SchemaValidatesWrongFalsely : Prop := schemaValidatesRow.holds Try.pinned (OpenSpec.ofChange schemaValidatesWrong)

/-- 'annalistlaw21.SchemaRows': WHATEVER THE INPUT: true; the input reads as it did. -/
def schemaRowsSpec : ChangeSpec := { name := "schemaRows", fn := fun _ => fun
  | [d1, d2, d3] => { results := [.lit (.bool true)], args := [d1, d2, d3] }
  | _ => none }
def schemaRowsRow : OpenClaim := { program := "ythbapbapcnafhaa", sum := "93a611b2e03ccf01bbe3dc226152e0608d8131c280e7f0c0b620d4222b58df19", func := "annalist/annalistlaw21.SchemaRows", spec := "schemaRows", unfollowed := true, recurses := true, apart := false }
def SchemaRowsSaid : Prop := schemaRowsRow.holds Try.pinned (OpenSpec.ofChange schemaRowsSpec)

/-- ITS FALSE NEIGHBOUR: 'it returns false'. Refute it at one input. -/
def schemaRowsWrong : ChangeSpec := { name := "schemaRows", fn := fun _ => fun
  | [d1, d2, d3] => { results := [.lit (.bool false)], args := [d1, d2, d3] }
  | _ => none }
def SchemaRowsWrongFalsely : Prop := schemaRowsRow.holds Try.pinned (OpenSpec.ofChange schemaRowsWrong)

/-- 'annalistlaw21.SchemaRaw': WHATEVER THE INPUT: true; the input reads as it did. -/
def schemaRawSpec : ChangeSpec := { name := "schemaRaw", fn := fun _ => fun
  | [d1, d2, d3, d4] => { results := [.lit (.bool true)], args := [d1, d2, d3, d4] }
  | _ => none }
def schemaRawRow : OpenClaim := { program := "ythbapbapcnafhaa", sum := "93a611b2e03ccf01bbe3dc226152e0608d8131c280e7f0c0b620d4222b58df19", func := "annalist/annalistlaw21.SchemaRaw", spec := "schemaRaw", unfollowed := true, recurses := true, apart := false }
def SchemaRawSaid : Prop := schemaRawRow.holds Try.pinned (OpenSpec.ofChange schemaRawSpec)

/-- ITS FALSE NEIGHBOUR: 'it returns false'. Refute it at one input. -/
def schemaRawWrong : ChangeSpec := { name := "schemaRaw", fn := fun _ => fun
  | [d1, d2, d3, d4] => { results := [.lit (.bool false)], args := [d1, d2, d3, d4] }
  | _ => none }
def SchemaRawWrongFalsely : Prop := schemaRawRow.holds Try.pinned (OpenSpec.ofChange schemaRawWrong)

/-- 'annalistlaw21.SchemaChanges': WHATEVER THE INPUT: true; the input reads as it did. -/
def schemaChangesSpec : ChangeSpec := { name := "schemaChanges", fn := fun _ => fun
  | [d1, d2] => { results := [.lit (.bool true)], args := [d1, d2] }
  | _ => none }
def schemaChangesRow : OpenClaim := { program := "ythbapbapcnafhaa", sum := "93a611b2e03ccf01bbe3dc226152e0608d8131c280e7f0c0b620d4222b58df19", func := "annalist/annalistlaw21.SchemaChanges", spec := "schemaChanges", unfollowed := true, recurses := true, apart := false }
def SchemaChangesSaid : Prop := schemaChangesRow.holds Try.pinned (OpenSpec.ofChange schemaChangesSpec)

/-- ITS FALSE NEIGHBOUR: 'it returns false'. Refute it at one input. -/
def schemaChangesWrong : ChangeSpec := { name := "schemaChanges", fn := fun _ => fun
  | [d1, d2] => { results := [.lit (.bool false)], args := [d1, d2] }
  | _ => none }
def SchemaChangesWrongFalsely : Prop := schemaChangesRow.holds Try.pinned (OpenSpec.ofChange schemaChangesWrong)

/-- 'annalistlaw21.SchemaPast': WHATEVER THE INPUT: true; the input reads as it did. -/
def schemaPastSpec : ChangeSpec := { name := "schemaPast", fn := fun _ => fun
  | [d1, d2, d3] => { results := [.lit (.bool true)], args := [d1, d2, d3] }
  | _ => none }
def schemaPastRow : OpenClaim := { program := "ythbapbapcnafhaa", sum := "93a611b2e03ccf01bbe3dc226152e0608d8131c280e7f0c0b620d4222b58df19", func := "annalist/annalistlaw21.SchemaPast", spec := "schemaPast", unfollowed := true, recurses := true, apart := false }
def SchemaPastSaid : Prop := schemaPastRow.holds Try.pinned (OpenSpec.ofChange schemaPastSpec)

/-- ITS FALSE NEIGHBOUR: 'it returns false'. Refute it at one input. -/
def schemaPastWrong : ChangeSpec := { name := "schemaPast", fn := fun _ => fun
  | [d1, d2, d3] => { results := [.lit (.bool false)], args := [d1, d2, d3] }
  | _ => none }
def SchemaPastWrongFalsely : Prop := schemaPastRow.holds Try.pinned (OpenSpec.ofChange schemaPastWrong)

/- THE SECOND FORM. 'bulk': how many values and letters a reading holds, each counted each time it is reached (what is shared counts as often as it is met; a slice's spare places count too). A statement '..UptoSaid' is the law's where the arguments, and the package variables that the reading takes, are together of bulk at most 1048576: NARROWER than '..Said'. Prove '..Said' where nothing that the law and all that it calls make is longer than what came in: it says more and counts as full. Else prove '..UptoSaid'. A law counts once. -/
mutual
def uptoBulk {H : Type} : DataW H → Nat
  | .lit (.string bytes) => bytes.length + 1
  | .lit _ => 1
  | .nil => 1
  | .ptr d => uptoBulk d + 1
  | .slice elems spare => uptoBulkAll elems + uptoBulkAll spare + 1
  | .agg parts => uptoBulkAll parts + 1
  | .iface _ d => uptoBulk d + 1
  | .map entries => uptoBulkEntries entries + 1
  | .held _ => 1
def uptoBulkAll {H : Type} : List (DataW H) → Nat
  | [] => 0
  | d :: r => uptoBulk d + uptoBulkAll r
def uptoBulkEntries {H : Type} : List (Lit × DataW H) → Nat
  | [] => 0
  | x :: r => uptoBulkEntry x + uptoBulkEntries r
def uptoBulkEntry {H : Type} : Lit × DataW H → Nat
  | (.string bytes, d) => bytes.length + uptoBulk d + 1
  | (_, d) => uptoBulk d + 1
 end
def uptoSmall : (H : Type) → List (DataW H) → Bool := fun _ ds => decide (uptoBulkAll ds ≤ 1048576)
def OpenSpec.upto (s : _root_.Go.ChangeSpec) : _root_.Go.OpenSpec := { _root_.Go.OpenSpec.ofChange s with cond := some uptoSmall }

/-- 'annalistlaw21.SchemaNames', WHERE WHAT IT READS IS OF BULK AT MOST 1048576: true; the input reads as it did. -/
def schemaNamesUptoRow : OpenClaim := { program := "ythbapbapcnafhaa", sum := "93a611b2e03ccf01bbe3dc226152e0608d8131c280e7f0c0b620d4222b58df19", func := "annalist/annalistlaw21.SchemaNames", spec := "schemaNames", unfollowed := true, recurses := true, apart := false, narrowed := true }
def SchemaNamesUptoSaid : Prop := schemaNamesUptoRow.holds Try.pinned (OpenSpec.upto schemaNamesSpec)

/-- 'annalistlaw21.SchemaValidates', WHERE WHAT IT READS IS OF BULK AT MOST 1048576: true; the input reads as it did. -/
def schemaValidatesUptoRow : OpenClaim := { program := "ythbapbapcnafhaa", sum := "93a611b2e03ccf01bbe3dc226152e0608d8131c280e7f0c0b620d4222b58df19", func := "annalist/annalistlaw21.SchemaValidates", spec := "schemaValidates", unfollowed := true, recurses := true, apart := false, narrowed := true }
def SchemaValidatesUptoSaid : Prop := schemaValidatesUptoRow.holds Try.pinned (OpenSpec.upto schemaValidatesSpec)

/-- 'annalistlaw21.SchemaRows', WHERE WHAT IT READS IS OF BULK AT MOST 1048576: true; the input reads as it did. -/
def schemaRowsUptoRow : OpenClaim := { program := "ythbapbapcnafhaa", sum := "93a611b2e03ccf01bbe3dc226152e0608d8131c280e7f0c0b620d4222b58df19", func := "annalist/annalistlaw21.SchemaRows", spec := "schemaRows", unfollowed := true, recurses := true, apart := false, narrowed := true }
def SchemaRowsUptoSaid : Prop := schemaRowsUptoRow.holds Try.pinned (OpenSpec.upto schemaRowsSpec)

/-- 'annalistlaw21.SchemaRaw', WHERE WHAT IT READS IS OF BULK AT MOST 1048576: true; the input reads as it did. -/
def schemaRawUptoRow : OpenClaim := { program := "ythbapbapcnafhaa", sum := "93a611b2e03ccf01bbe3dc226152e0608d8131c280e7f0c0b620d4222b58df19", func := "annalist/annalistlaw21.SchemaRaw", spec := "schemaRaw", unfollowed := true, recurses := true, apart := false, narrowed := true }
def SchemaRawUptoSaid : Prop := schemaRawUptoRow.holds Try.pinned (OpenSpec.upto schemaRawSpec)

/-- 'annalistlaw21.SchemaChanges', WHERE WHAT IT READS IS OF BULK AT MOST 1048576: true; the input reads as it did. -/
def schemaChangesUptoRow : OpenClaim := { program := "ythbapbapcnafhaa", sum := "93a611b2e03ccf01bbe3dc226152e0608d8131c280e7f0c0b620d4222b58df19", func := "annalist/annalistlaw21.SchemaChanges", spec := "schemaChanges", unfollowed := true, recurses := true, apart := false, narrowed := true }
def SchemaChangesUptoSaid : Prop := schemaChangesUptoRow.holds Try.pinned (OpenSpec.upto schemaChangesSpec)

/-- 'annalistlaw21.SchemaPast', WHERE WHAT IT READS IS OF BULK AT MOST 1048576: true; the input reads as it did. -/
def schemaPastUptoRow : OpenClaim := { program := "ythbapbapcnafhaa", sum := "93a611b2e03ccf01bbe3dc226152e0608d8131c280e7f0c0b620d4222b58df19", func := "annalist/annalistlaw21.SchemaPast", spec := "schemaPast", unfollowed := true, recurses := true, apart := false, narrowed := true }
def SchemaPastUptoSaid : Prop := schemaPastUptoRow.holds Try.pinned (OpenSpec.upto schemaPastSpec)

end Rows
end Go.Proofs.Ythbapbapcnafhaa
