/-
  DERIVED. GIVEN WITH THE SEED: THE CARDS: each row of YtnnbddmfhconiaaGreatDoorRows.lean that lists a variable, with what it lists TIED to the program's text (the seventh form; the later family's looks); each row that meets fmt, with fmt's text TOLD by the authors' own Lean function (tested against real Go, not proved from fmt's source: count such statements apart). THE CARD IS WHAT COUNTS. Prove the row's statement (the work); the ties are given (YtnnbddmfhconiaaGreatDoorTie.lean); close each card by the builder's one call (the guide's Derived/Test/ToyasCard.lean, 'card_holds'). Laid BY PROGRAM, IN A SANDBOX (cutbox-door.mjs). By AI agents, Wed Nov 11 2026. No macro, syntax, notation, axiom, sorry.
-/
import Derived.Test.YtnnbddmfhconiaaGreatDoorRows
import GoSem.ClaimSeven
namespace Go.Proofs.YtnnbddmfhconiaaGreatDoor
namespace Rows

/-- THE TIED CARD OF 'annalistlaw25.TransactionCommits'. -/
def transactionCommitsCard : Claim7 := { stood := { row := transactionCommitsRow, standIns := [], harness := (true, "c25686bc725f8a850f20af39c2fc23ac3e05a3164f0e00a143155eba51915809"), looks := false }, kinds := [], alts := [], laidByText := true, laidKinds := [.data, .data, .data], laidTests := true, laidLooks := .later }
def TransactionCommitsCardSaid : Prop := Claim7.holds Tryz.pinned (.plain (OpenSpec.ofChange transactionCommitsSpec)) transactionCommitsCard

/-- THE SECOND FORM's CARD OF 'annalistlaw25.TransactionCommits'. -/
def transactionCommitsUptoCard : Claim7 := { stood := { row := transactionCommitsUptoRow, standIns := [], harness := (true, "c25686bc725f8a850f20af39c2fc23ac3e05a3164f0e00a143155eba51915809"), looks := false }, kinds := [], alts := [], laidByText := true, laidKinds := [.data, .data, .data], laidTests := true, laidLooks := .later }
def TransactionCommitsUptoCardSaid : Prop := Claim7.holds Tryz.pinned (.plain (OpenSpec.upto transactionCommitsSpec)) transactionCommitsUptoCard
end Rows
end Go.Proofs.YtnnbddmfhconiaaGreatDoor
