/-
  NARROWER THAN 'FOR EVERY INPUT', by the rows' own cells (each row's printed sentence says how): TransactionViews: laid · TransactionKeeps: laid · TransactionIDs: laid · TransactionSteps: laid · TransactionParts: laid · TransactionPast: laid · TransactionPortion: laid.
  DERIVED. THE GIVEN ROWS OF THIS SEAT. 7 by the template 'for every input the law returns true; each argument reads behind the call as it read before'; 0 by the template 'total and deterministic' (their statements: YtnkineaffgkicaaGreatDoorTotals.lean).
  GIVEN WITH THE SEED: the statements are not yours to turn. If you find one false, say at which input.
  Laid BY PROGRAM, IN A SANDBOX (cutbox-rows.mjs): the forced cells as the released guide's own fill.sh prints them over the translation 291535ea57d532c8… (all of the seat's roots in one cut). By AI agents, Wed Nov 11 2026. No macro, syntax, notation, axiom, sorry.
-/
import Derived.Test.YtnkineaffgkicaaGreatDoorChecked
import GoSem.Claim
import GoSem.ClaimJoined
import GoSem.ClaimMapViews
import Derived.JoinedTies
import Derived.KernelRfl
namespace Go.Proofs.YtnkineaffgkicaaGreatDoor
/- THE CELL 'sum', in the pinned program and in every row, IS THE sha256 OF THE DUMP (.gsa) THAT YtnkineaffgkicaaGreatDoorProg.lean LOADS. Nothing in Lean hashes anything: it is a label: what it is worth is what the hold of that sum in a sandbox is worth. -/
noncomputable def Tryz.pinned : Pinned := { name := "ytnkineaffgkicaagreatdoor", sum := "291535ea57d532c8de8c69b7db450ba635eb3b8fe81c0778737d0263cbb73217", checked := Tryz.checked }
namespace Rows
def none {H : Type} : Left H := { results := [], args := [] }

/- WHAT THE LISTED PACKAGE-LEVEL VARIABLES READ AS WHEN THE CALL BEGINS. Each datum BY PROGRAM (the guide's laid-datum.mjs) off the statement by which the dump's own 'gosem.cut.vars' lays the variable. In a bare row this is a premise. The card (YtnkineaffgkicaaGreatDoorCards.lean) ties it to the program's text. -/
def laid_math_bits_deBruijn32tab {H : Type} : DataW H := .agg [.lit (.int .u8 0), .lit (.int .u8 1), .lit (.int .u8 28), .lit (.int .u8 2), .lit (.int .u8 29), .lit (.int .u8 14), .lit (.int .u8 24), .lit (.int .u8 3), .lit (.int .u8 30), .lit (.int .u8 22), .lit (.int .u8 20), .lit (.int .u8 15), .lit (.int .u8 25), .lit (.int .u8 17), .lit (.int .u8 4), .lit (.int .u8 8), .lit (.int .u8 31), .lit (.int .u8 27), .lit (.int .u8 13), .lit (.int .u8 23), .lit (.int .u8 21), .lit (.int .u8 19), .lit (.int .u8 16), .lit (.int .u8 7), .lit (.int .u8 26), .lit (.int .u8 12), .lit (.int .u8 18), .lit (.int .u8 6), .lit (.int .u8 11), .lit (.int .u8 5), .lit (.int .u8 10), .lit (.int .u8 9)]
def laid_math_bits_deBruijn64tab {H : Type} : DataW H := .agg [.lit (.int .u8 0), .lit (.int .u8 1), .lit (.int .u8 56), .lit (.int .u8 2), .lit (.int .u8 57), .lit (.int .u8 49), .lit (.int .u8 28), .lit (.int .u8 3), .lit (.int .u8 61), .lit (.int .u8 58), .lit (.int .u8 42), .lit (.int .u8 50), .lit (.int .u8 38), .lit (.int .u8 29), .lit (.int .u8 17), .lit (.int .u8 4), .lit (.int .u8 62), .lit (.int .u8 47), .lit (.int .u8 59), .lit (.int .u8 36), .lit (.int .u8 45), .lit (.int .u8 43), .lit (.int .u8 51), .lit (.int .u8 22), .lit (.int .u8 53), .lit (.int .u8 39), .lit (.int .u8 33), .lit (.int .u8 30), .lit (.int .u8 24), .lit (.int .u8 18), .lit (.int .u8 12), .lit (.int .u8 5), .lit (.int .u8 63), .lit (.int .u8 55), .lit (.int .u8 48), .lit (.int .u8 27), .lit (.int .u8 60), .lit (.int .u8 41), .lit (.int .u8 37), .lit (.int .u8 16), .lit (.int .u8 46), .lit (.int .u8 35), .lit (.int .u8 44), .lit (.int .u8 21), .lit (.int .u8 52), .lit (.int .u8 32), .lit (.int .u8 23), .lit (.int .u8 11), .lit (.int .u8 54), .lit (.int .u8 26), .lit (.int .u8 40), .lit (.int .u8 15), .lit (.int .u8 34), .lit (.int .u8 20), .lit (.int .u8 31), .lit (.int .u8 10), .lit (.int .u8 25), .lit (.int .u8 14), .lit (.int .u8 19), .lit (.int .u8 9), .lit (.int .u8 13), .lit (.int .u8 8), .lit (.int .u8 7), .lit (.int .u8 6)]
def laid_internal_strconv_uint64pow10 {H : Type} : DataW H := .agg [.lit (.int .u64 1), .lit (.int .u64 10), .lit (.int .u64 100), .lit (.int .u64 1000), .lit (.int .u64 10000), .lit (.int .u64 100000), .lit (.int .u64 1000000), .lit (.int .u64 10000000), .lit (.int .u64 100000000), .lit (.int .u64 1000000000), .lit (.int .u64 10000000000), .lit (.int .u64 100000000000), .lit (.int .u64 1000000000000), .lit (.int .u64 10000000000000), .lit (.int .u64 100000000000000), .lit (.int .u64 1000000000000000), .lit (.int .u64 10000000000000000), .lit (.int .u64 100000000000000000), .lit (.int .u64 1000000000000000000), .lit (.int .u64 10000000000000000000)]

/-- 'annalistlaw25.TransactionViews': WHATEVER THE INPUT: true; the input reads as it did. -/
def transactionViewsSpec : ChangeSpec := { name := "transactionViews", fn := fun _ => fun
  | [d1, d2, d3, d4] => { results := [.lit (.bool true)], args := [d1, d2, d3, d4] }
  | _ => none }
def transactionViewsRow : OpenClaim := { program := "ytnkineaffgkicaagreatdoor", sum := "291535ea57d532c8de8c69b7db450ba635eb3b8fe81c0778737d0263cbb73217", func := "annalist/annalistlaw25.TransactionViews", spec := "transactionViews", inPlace := ["slices.overlaps[annalist/api.StoredTable]", "internal/bytealg.abigen_runtime_cmpstring", "internal/abi.NoEscape"], unfollowed := true, recurses := true, named := ["internal/strconv.uint64pow10", "math/bits.deBruijn32tab", "math/bits.deBruijn64tab"], apart := false, laid := [("math/bits.deBruijn32tab", laid_math_bits_deBruijn32tab), ("math/bits.deBruijn64tab", laid_math_bits_deBruijn64tab), ("internal/strconv.uint64pow10", laid_internal_strconv_uint64pow10)] }
def TransactionViewsSaid : Prop := transactionViewsRow.holds Tryz.pinned (OpenSpec.ofChange transactionViewsSpec)

/-- ITS FALSE NEIGHBOUR: 'it returns false'. Refute it at one input. -/
def transactionViewsWrong : ChangeSpec := { name := "transactionViews", fn := fun _ => fun
  | [d1, d2, d3, d4] => { results := [.lit (.bool false)], args := [d1, d2, d3, d4] }
  | _ => none }
def TransactionViewsWrongFalsely : Prop := transactionViewsRow.holds Tryz.pinned (OpenSpec.ofChange transactionViewsWrong)

/-- 'annalistlaw25.TransactionKeeps': WHATEVER THE INPUT: true; the input reads as it did. -/
def transactionKeepsSpec : ChangeSpec := { name := "transactionKeeps", fn := fun _ => fun
  | [d1, d2, d3] => { results := [.lit (.bool true)], args := [d1, d2, d3] }
  | _ => none }
def transactionKeepsRow : OpenClaim := { program := "ytnkineaffgkicaagreatdoor", sum := "291535ea57d532c8de8c69b7db450ba635eb3b8fe81c0778737d0263cbb73217", func := "annalist/annalistlaw25.TransactionKeeps", spec := "transactionKeeps", inPlace := ["slices.overlaps[annalist/api.StoredTable]", "internal/bytealg.abigen_runtime_cmpstring", "internal/abi.NoEscape"], unfollowed := true, recurses := true, named := ["internal/strconv.uint64pow10", "math/bits.deBruijn32tab", "math/bits.deBruijn64tab"], apart := false, laid := [("math/bits.deBruijn32tab", laid_math_bits_deBruijn32tab), ("math/bits.deBruijn64tab", laid_math_bits_deBruijn64tab), ("internal/strconv.uint64pow10", laid_internal_strconv_uint64pow10)] }
def TransactionKeepsSaid : Prop := transactionKeepsRow.holds Tryz.pinned (OpenSpec.ofChange transactionKeepsSpec)

/-- ITS FALSE NEIGHBOUR: 'it returns false'. Refute it at one input. -/
def transactionKeepsWrong : ChangeSpec := { name := "transactionKeeps", fn := fun _ => fun
  | [d1, d2, d3] => { results := [.lit (.bool false)], args := [d1, d2, d3] }
  | _ => none }
def TransactionKeepsWrongFalsely : Prop := transactionKeepsRow.holds Tryz.pinned (OpenSpec.ofChange transactionKeepsWrong)

/-- 'annalistlaw25.TransactionIDs': WHATEVER THE INPUT: true; the input reads as it did. -/
def transactionIDsSpec : ChangeSpec := { name := "transactionIDs", fn := fun _ => fun
  | [d1, d2, d3] => { results := [.lit (.bool true)], args := [d1, d2, d3] }
  | _ => none }
def transactionIDsRow : OpenClaim := { program := "ytnkineaffgkicaagreatdoor", sum := "291535ea57d532c8de8c69b7db450ba635eb3b8fe81c0778737d0263cbb73217", func := "annalist/annalistlaw25.TransactionIDs", spec := "transactionIDs", inPlace := ["slices.overlaps[annalist/api.StoredTable]", "internal/bytealg.abigen_runtime_cmpstring", "internal/abi.NoEscape"], unfollowed := true, recurses := true, named := ["internal/strconv.uint64pow10", "math/bits.deBruijn32tab", "math/bits.deBruijn64tab"], apart := false, laid := [("math/bits.deBruijn32tab", laid_math_bits_deBruijn32tab), ("math/bits.deBruijn64tab", laid_math_bits_deBruijn64tab), ("internal/strconv.uint64pow10", laid_internal_strconv_uint64pow10)] }
def TransactionIDsSaid : Prop := transactionIDsRow.holds Tryz.pinned (OpenSpec.ofChange transactionIDsSpec)

/-- ITS FALSE NEIGHBOUR: 'it returns false'. Refute it at one input. -/
def transactionIDsWrong : ChangeSpec := { name := "transactionIDs", fn := fun _ => fun
  | [d1, d2, d3] => { results := [.lit (.bool false)], args := [d1, d2, d3] }
  | _ => none }
def TransactionIDsWrongFalsely : Prop := transactionIDsRow.holds Tryz.pinned (OpenSpec.ofChange transactionIDsWrong)

/-- 'annalistlaw25.TransactionSteps': WHATEVER THE INPUT: true; the input reads as it did. -/
def transactionStepsSpec : ChangeSpec := { name := "transactionSteps", fn := fun _ => fun
  | [d1, d2, d3] => { results := [.lit (.bool true)], args := [d1, d2, d3] }
  | _ => none }
def transactionStepsRow : OpenClaim := { program := "ytnkineaffgkicaagreatdoor", sum := "291535ea57d532c8de8c69b7db450ba635eb3b8fe81c0778737d0263cbb73217", func := "annalist/annalistlaw25.TransactionSteps", spec := "transactionSteps", inPlace := ["slices.overlaps[annalist/api.StoredTable]", "internal/bytealg.abigen_runtime_cmpstring", "internal/abi.NoEscape"], unfollowed := true, recurses := true, named := ["internal/strconv.uint64pow10", "math/bits.deBruijn32tab", "math/bits.deBruijn64tab"], apart := false, laid := [("math/bits.deBruijn32tab", laid_math_bits_deBruijn32tab), ("math/bits.deBruijn64tab", laid_math_bits_deBruijn64tab), ("internal/strconv.uint64pow10", laid_internal_strconv_uint64pow10)] }
def TransactionStepsSaid : Prop := transactionStepsRow.holds Tryz.pinned (OpenSpec.ofChange transactionStepsSpec)

/-- ITS FALSE NEIGHBOUR: 'it returns false'. Refute it at one input. -/
def transactionStepsWrong : ChangeSpec := { name := "transactionSteps", fn := fun _ => fun
  | [d1, d2, d3] => { results := [.lit (.bool false)], args := [d1, d2, d3] }
  | _ => none }
def TransactionStepsWrongFalsely : Prop := transactionStepsRow.holds Tryz.pinned (OpenSpec.ofChange transactionStepsWrong)

/-- 'annalistlaw25.TransactionParts': WHATEVER THE INPUT: true; the input reads as it did. -/
def transactionPartsSpec : ChangeSpec := { name := "transactionParts", fn := fun _ => fun
  | [d1, d2, d3] => { results := [.lit (.bool true)], args := [d1, d2, d3] }
  | _ => none }
def transactionPartsRow : OpenClaim := { program := "ytnkineaffgkicaagreatdoor", sum := "291535ea57d532c8de8c69b7db450ba635eb3b8fe81c0778737d0263cbb73217", func := "annalist/annalistlaw25.TransactionParts", spec := "transactionParts", inPlace := ["slices.overlaps[annalist/api.StoredTable]", "internal/bytealg.abigen_runtime_cmpstring", "internal/abi.NoEscape"], unfollowed := true, recurses := true, named := ["internal/strconv.uint64pow10", "math/bits.deBruijn32tab", "math/bits.deBruijn64tab"], apart := false, laid := [("math/bits.deBruijn32tab", laid_math_bits_deBruijn32tab), ("math/bits.deBruijn64tab", laid_math_bits_deBruijn64tab), ("internal/strconv.uint64pow10", laid_internal_strconv_uint64pow10)] }
def TransactionPartsSaid : Prop := transactionPartsRow.holds Tryz.pinned (OpenSpec.ofChange transactionPartsSpec)

/-- ITS FALSE NEIGHBOUR: 'it returns false'. Refute it at one input. -/
def transactionPartsWrong : ChangeSpec := { name := "transactionParts", fn := fun _ => fun
  | [d1, d2, d3] => { results := [.lit (.bool false)], args := [d1, d2, d3] }
  | _ => none }
def TransactionPartsWrongFalsely : Prop := transactionPartsRow.holds Tryz.pinned (OpenSpec.ofChange transactionPartsWrong)

/-- 'annalistlaw25.TransactionPast': WHATEVER THE INPUT: true; the input reads as it did. -/
def transactionPastSpec : ChangeSpec := { name := "transactionPast", fn := fun _ => fun
  | [d1, d2, d3, d4] => { results := [.lit (.bool true)], args := [d1, d2, d3, d4] }
  | _ => none }
def transactionPastRow : OpenClaim := { program := "ytnkineaffgkicaagreatdoor", sum := "291535ea57d532c8de8c69b7db450ba635eb3b8fe81c0778737d0263cbb73217", func := "annalist/annalistlaw25.TransactionPast", spec := "transactionPast", inPlace := ["slices.overlaps[annalist/api.StoredTable]", "internal/bytealg.abigen_runtime_cmpstring", "internal/abi.NoEscape"], unfollowed := true, recurses := true, named := ["internal/strconv.uint64pow10", "math/bits.deBruijn32tab", "math/bits.deBruijn64tab"], apart := false, laid := [("math/bits.deBruijn32tab", laid_math_bits_deBruijn32tab), ("math/bits.deBruijn64tab", laid_math_bits_deBruijn64tab), ("internal/strconv.uint64pow10", laid_internal_strconv_uint64pow10)] }
def TransactionPastSaid : Prop := transactionPastRow.holds Tryz.pinned (OpenSpec.ofChange transactionPastSpec)

/-- ITS FALSE NEIGHBOUR: 'it returns false'. Refute it at one input. -/
def transactionPastWrong : ChangeSpec := { name := "transactionPast", fn := fun _ => fun
  | [d1, d2, d3, d4] => { results := [.lit (.bool false)], args := [d1, d2, d3, d4] }
  | _ => none }
def TransactionPastWrongFalsely : Prop := transactionPastRow.holds Tryz.pinned (OpenSpec.ofChange transactionPastWrong)

/-- 'annalistlaw25.TransactionPortion': WHATEVER THE INPUT: true; the input reads as it did. -/
def transactionPortionSpec : ChangeSpec := { name := "transactionPortion", fn := fun _ => fun
  | [d1, d2, d3, d4] => { results := [.lit (.bool true)], args := [d1, d2, d3, d4] }
  | _ => none }
def transactionPortionRow : OpenClaim := { program := "ytnkineaffgkicaagreatdoor", sum := "291535ea57d532c8de8c69b7db450ba635eb3b8fe81c0778737d0263cbb73217", func := "annalist/annalistlaw25.TransactionPortion", spec := "transactionPortion", inPlace := ["slices.overlaps[annalist/api.StoredTable]", "internal/bytealg.abigen_runtime_cmpstring", "internal/abi.NoEscape"], unfollowed := true, recurses := true, named := ["internal/strconv.uint64pow10", "math/bits.deBruijn32tab", "math/bits.deBruijn64tab"], apart := false, laid := [("math/bits.deBruijn32tab", laid_math_bits_deBruijn32tab), ("math/bits.deBruijn64tab", laid_math_bits_deBruijn64tab), ("internal/strconv.uint64pow10", laid_internal_strconv_uint64pow10)] }
def TransactionPortionSaid : Prop := transactionPortionRow.holds Tryz.pinned (OpenSpec.ofChange transactionPortionSpec)

/-- ITS FALSE NEIGHBOUR: 'it returns false'. Refute it at one input. -/
def transactionPortionWrong : ChangeSpec := { name := "transactionPortion", fn := fun _ => fun
  | [d1, d2, d3, d4] => { results := [.lit (.bool false)], args := [d1, d2, d3, d4] }
  | _ => none }
def TransactionPortionWrongFalsely : Prop := transactionPortionRow.holds Tryz.pinned (OpenSpec.ofChange transactionPortionWrong)

/- THE SECOND FORM. 'bulk': how many values and letters a reading holds, each counted each time it is reached (what is shared counts as often as it is met; a slice's spare places count too). A statement '..UptoSaid' is the law's where the arguments, and the package variables that the reading takes, are together of bulk at most 1048576: NARROWER than '..Said'. Prove '..Said' where nothing that the law and all that it calls make is longer than what came in: it says more and counts as full. Else prove '..UptoSaid'. A law counts once. -/
mutual
def uptoBulk {H : Type} : DataW H → Nat
  | .lit (.string bytes) => bytes.length + 1
  | .lit _ => 1
  | .nil => 1
  | .ptr d => uptoBulk d + 1
  | .slice elems spare => uptoBulkAll elems + uptoBulkAll spare + 1
  | .agg parts => uptoBulkAll parts + 1
  | .iface _ d => uptoBulk d + 1
  | .map entries => uptoBulkEntries entries + 1
  | .held _ => 1
def uptoBulkAll {H : Type} : List (DataW H) → Nat
  | [] => 0
  | d :: r => uptoBulk d + uptoBulkAll r
def uptoBulkEntries {H : Type} : List (Lit × DataW H) → Nat
  | [] => 0
  | x :: r => uptoBulkEntry x + uptoBulkEntries r
def uptoBulkEntry {H : Type} : Lit × DataW H → Nat
  | (.string bytes, d) => bytes.length + uptoBulk d + 1
  | (_, d) => uptoBulk d + 1
 end
def uptoSmall : (H : Type) → List (DataW H) → Bool := fun _ ds => decide (uptoBulkAll ds ≤ 1048576)
def OpenSpec.upto (s : _root_.Go.ChangeSpec) : _root_.Go.OpenSpec := { _root_.Go.OpenSpec.ofChange s with cond := some uptoSmall }

/-- 'annalistlaw25.TransactionViews', WHERE WHAT IT READS IS OF BULK AT MOST 1048576: true; the input reads as it did. -/
def transactionViewsUptoRow : OpenClaim := { program := "ytnkineaffgkicaagreatdoor", sum := "291535ea57d532c8de8c69b7db450ba635eb3b8fe81c0778737d0263cbb73217", func := "annalist/annalistlaw25.TransactionViews", spec := "transactionViews", inPlace := ["slices.overlaps[annalist/api.StoredTable]", "internal/bytealg.abigen_runtime_cmpstring", "internal/abi.NoEscape"], unfollowed := true, recurses := true, named := ["internal/strconv.uint64pow10", "math/bits.deBruijn32tab", "math/bits.deBruijn64tab"], apart := false, laid := [("math/bits.deBruijn32tab", laid_math_bits_deBruijn32tab), ("math/bits.deBruijn64tab", laid_math_bits_deBruijn64tab), ("internal/strconv.uint64pow10", laid_internal_strconv_uint64pow10)], narrowed := true }
def TransactionViewsUptoSaid : Prop := transactionViewsUptoRow.holds Tryz.pinned (OpenSpec.upto transactionViewsSpec)

/-- 'annalistlaw25.TransactionKeeps', WHERE WHAT IT READS IS OF BULK AT MOST 1048576: true; the input reads as it did. -/
def transactionKeepsUptoRow : OpenClaim := { program := "ytnkineaffgkicaagreatdoor", sum := "291535ea57d532c8de8c69b7db450ba635eb3b8fe81c0778737d0263cbb73217", func := "annalist/annalistlaw25.TransactionKeeps", spec := "transactionKeeps", inPlace := ["slices.overlaps[annalist/api.StoredTable]", "internal/bytealg.abigen_runtime_cmpstring", "internal/abi.NoEscape"], unfollowed := true, recurses := true, named := ["internal/strconv.uint64pow10", "math/bits.deBruijn32tab", "math/bits.deBruijn64tab"], apart := false, laid := [("math/bits.deBruijn32tab", laid_math_bits_deBruijn32tab), ("math/bits.deBruijn64tab", laid_math_bits_deBruijn64tab), ("internal/strconv.uint64pow10", laid_internal_strconv_uint64pow10)], narrowed := true }
def TransactionKeepsUptoSaid : Prop := transactionKeepsUptoRow.holds Tryz.pinned (OpenSpec.upto transactionKeepsSpec)

/-- 'annalistlaw25.TransactionIDs', WHERE WHAT IT READS IS OF BULK AT MOST 1048576: true; the input reads as it did. -/
def transactionIDsUptoRow : OpenClaim := { program := "ytnkineaffgkicaagreatdoor", sum := "291535ea57d532c8de8c69b7db450ba635eb3b8fe81c0778737d0263cbb73217", func := "annalist/annalistlaw25.TransactionIDs", spec := "transactionIDs", inPlace := ["slices.overlaps[annalist/api.StoredTable]", "internal/bytealg.abigen_runtime_cmpstring", "internal/abi.NoEscape"], unfollowed := true, recurses := true, named := ["internal/strconv.uint64pow10", "math/bits.deBruijn32tab", "math/bits.deBruijn64tab"], apart := false, laid := [("math/bits.deBruijn32tab", laid_math_bits_deBruijn32tab), ("math/bits.deBruijn64tab", laid_math_bits_deBruijn64tab), ("internal/strconv.uint64pow10", laid_internal_strconv_uint64pow10)], narrowed := true }
def TransactionIDsUptoSaid : Prop := transactionIDsUptoRow.holds Tryz.pinned (OpenSpec.upto transactionIDsSpec)

/-- 'annalistlaw25.TransactionSteps', WHERE WHAT IT READS IS OF BULK AT MOST 1048576: true; the input reads as it did. -/
def transactionStepsUptoRow : OpenClaim := { program := "ytnkineaffgkicaagreatdoor", sum := "291535ea57d532c8de8c69b7db450ba635eb3b8fe81c0778737d0263cbb73217", func := "annalist/annalistlaw25.TransactionSteps", spec := "transactionSteps", inPlace := ["slices.overlaps[annalist/api.StoredTable]", "internal/bytealg.abigen_runtime_cmpstring", "internal/abi.NoEscape"], unfollowed := true, recurses := true, named := ["internal/strconv.uint64pow10", "math/bits.deBruijn32tab", "math/bits.deBruijn64tab"], apart := false, laid := [("math/bits.deBruijn32tab", laid_math_bits_deBruijn32tab), ("math/bits.deBruijn64tab", laid_math_bits_deBruijn64tab), ("internal/strconv.uint64pow10", laid_internal_strconv_uint64pow10)], narrowed := true }
def TransactionStepsUptoSaid : Prop := transactionStepsUptoRow.holds Tryz.pinned (OpenSpec.upto transactionStepsSpec)

/-- 'annalistlaw25.TransactionParts', WHERE WHAT IT READS IS OF BULK AT MOST 1048576: true; the input reads as it did. -/
def transactionPartsUptoRow : OpenClaim := { program := "ytnkineaffgkicaagreatdoor", sum := "291535ea57d532c8de8c69b7db450ba635eb3b8fe81c0778737d0263cbb73217", func := "annalist/annalistlaw25.TransactionParts", spec := "transactionParts", inPlace := ["slices.overlaps[annalist/api.StoredTable]", "internal/bytealg.abigen_runtime_cmpstring", "internal/abi.NoEscape"], unfollowed := true, recurses := true, named := ["internal/strconv.uint64pow10", "math/bits.deBruijn32tab", "math/bits.deBruijn64tab"], apart := false, laid := [("math/bits.deBruijn32tab", laid_math_bits_deBruijn32tab), ("math/bits.deBruijn64tab", laid_math_bits_deBruijn64tab), ("internal/strconv.uint64pow10", laid_internal_strconv_uint64pow10)], narrowed := true }
def TransactionPartsUptoSaid : Prop := transactionPartsUptoRow.holds Tryz.pinned (OpenSpec.upto transactionPartsSpec)

/-- 'annalistlaw25.TransactionPast', WHERE WHAT IT READS IS OF BULK AT MOST 1048576: true; the input reads as it did. -/
def transactionPastUptoRow : OpenClaim := { program := "ytnkineaffgkicaagreatdoor", sum := "291535ea57d532c8de8c69b7db450ba635eb3b8fe81c0778737d0263cbb73217", func := "annalist/annalistlaw25.TransactionPast", spec := "transactionPast", inPlace := ["slices.overlaps[annalist/api.StoredTable]", "internal/bytealg.abigen_runtime_cmpstring", "internal/abi.NoEscape"], unfollowed := true, recurses := true, named := ["internal/strconv.uint64pow10", "math/bits.deBruijn32tab", "math/bits.deBruijn64tab"], apart := false, laid := [("math/bits.deBruijn32tab", laid_math_bits_deBruijn32tab), ("math/bits.deBruijn64tab", laid_math_bits_deBruijn64tab), ("internal/strconv.uint64pow10", laid_internal_strconv_uint64pow10)], narrowed := true }
def TransactionPastUptoSaid : Prop := transactionPastUptoRow.holds Tryz.pinned (OpenSpec.upto transactionPastSpec)

/-- 'annalistlaw25.TransactionPortion', WHERE WHAT IT READS IS OF BULK AT MOST 1048576: true; the input reads as it did. -/
def transactionPortionUptoRow : OpenClaim := { program := "ytnkineaffgkicaagreatdoor", sum := "291535ea57d532c8de8c69b7db450ba635eb3b8fe81c0778737d0263cbb73217", func := "annalist/annalistlaw25.TransactionPortion", spec := "transactionPortion", inPlace := ["slices.overlaps[annalist/api.StoredTable]", "internal/bytealg.abigen_runtime_cmpstring", "internal/abi.NoEscape"], unfollowed := true, recurses := true, named := ["internal/strconv.uint64pow10", "math/bits.deBruijn32tab", "math/bits.deBruijn64tab"], apart := false, laid := [("math/bits.deBruijn32tab", laid_math_bits_deBruijn32tab), ("math/bits.deBruijn64tab", laid_math_bits_deBruijn64tab), ("internal/strconv.uint64pow10", laid_internal_strconv_uint64pow10)], narrowed := true }
def TransactionPortionUptoSaid : Prop := transactionPortionUptoRow.holds Tryz.pinned (OpenSpec.upto transactionPortionSpec)

end Rows
end Go.Proofs.YtnkineaffgkicaaGreatDoor
