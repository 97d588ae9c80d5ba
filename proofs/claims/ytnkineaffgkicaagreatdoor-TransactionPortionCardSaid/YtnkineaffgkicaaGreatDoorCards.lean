/-
  DERIVED. GIVEN WITH THE SEED: THE CARDS: each row of YtnkineaffgkicaaGreatDoorRows.lean that lists a variable, with what it lists TIED to the program's text (the seventh form; the later family's looks); each row that meets fmt, with fmt's text TOLD by the authors' own Lean function (tested against real Go, not proved from fmt's source: count such statements apart). THE CARD IS WHAT COUNTS. Prove the row's statement (the work); the ties are given (YtnkineaffgkicaaGreatDoorTie.lean); close each card by the builder's one call (the guide's Derived/Test/ToyasCard.lean, 'card_holds'). Laid BY PROGRAM, IN A SANDBOX (cutbox-door.mjs). By AI agents, Wed Nov 11 2026. No macro, syntax, notation, axiom, sorry.
-/
import Derived.Test.YtnkineaffgkicaaGreatDoorRows
import GoSem.ClaimSeven
namespace Go.Proofs.YtnkineaffgkicaaGreatDoor
namespace Rows

/-- THE TIED CARD OF 'annalistlaw25.TransactionViews'. -/
def transactionViewsCard : Claim7 := { stood := { row := transactionViewsRow, standIns := [], harness := (true, "9fd1679d071289ef79fd7332ea66f8fdf71b83fe0de9b66f027f386206d65bbd"), looks := false }, kinds := [], alts := [], laidByText := true, laidKinds := [.data, .data, .data], laidTests := true, laidLooks := .later }
def TransactionViewsCardSaid : Prop := Claim7.holds Tryz.pinned (.plain (OpenSpec.ofChange transactionViewsSpec)) transactionViewsCard

/-- THE TIED CARD OF 'annalistlaw25.TransactionKeeps'. -/
def transactionKeepsCard : Claim7 := { stood := { row := transactionKeepsRow, standIns := [], harness := (true, "9fd1679d071289ef79fd7332ea66f8fdf71b83fe0de9b66f027f386206d65bbd"), looks := false }, kinds := [], alts := [], laidByText := true, laidKinds := [.data, .data, .data], laidTests := true, laidLooks := .later }
def TransactionKeepsCardSaid : Prop := Claim7.holds Tryz.pinned (.plain (OpenSpec.ofChange transactionKeepsSpec)) transactionKeepsCard

/-- THE TIED CARD OF 'annalistlaw25.TransactionIDs'. -/
def transactionIDsCard : Claim7 := { stood := { row := transactionIDsRow, standIns := [], harness := (true, "9fd1679d071289ef79fd7332ea66f8fdf71b83fe0de9b66f027f386206d65bbd"), looks := false }, kinds := [], alts := [], laidByText := true, laidKinds := [.data, .data, .data], laidTests := true, laidLooks := .later }
def TransactionIDsCardSaid : Prop := Claim7.holds Tryz.pinned (.plain (OpenSpec.ofChange transactionIDsSpec)) transactionIDsCard

/-- THE TIED CARD OF 'annalistlaw25.TransactionSteps'. -/
def transactionStepsCard : Claim7 := { stood := { row := transactionStepsRow, standIns := [], harness := (true, "9fd1679d071289ef79fd7332ea66f8fdf71b83fe0de9b66f027f386206d65bbd"), looks := false }, kinds := [], alts := [], laidByText := true, laidKinds := [.data, .data, .data], laidTests := true, laidLooks := .later }
def TransactionStepsCardSaid : Prop := Claim7.holds Tryz.pinned (.plain (OpenSpec.ofChange transactionStepsSpec)) transactionStepsCard

/-- THE TIED CARD OF 'annalistlaw25.TransactionParts'. -/
def transactionPartsCard : Claim7 := { stood := { row := transactionPartsRow, standIns := [], harness := (true, "9fd1679d071289ef79fd7332ea66f8fdf71b83fe0de9b66f027f386206d65bbd"), looks := false }, kinds := [], alts := [], laidByText := true, laidKinds := [.data, .data, .data], laidTests := true, laidLooks := .later }
def TransactionPartsCardSaid : Prop := Claim7.holds Tryz.pinned (.plain (OpenSpec.ofChange transactionPartsSpec)) transactionPartsCard

/-- THE TIED CARD OF 'annalistlaw25.TransactionPast'. -/
def transactionPastCard : Claim7 := { stood := { row := transactionPastRow, standIns := [], harness := (true, "9fd1679d071289ef79fd7332ea66f8fdf71b83fe0de9b66f027f386206d65bbd"), looks := false }, kinds := [], alts := [], laidByText := true, laidKinds := [.data, .data, .data], laidTests := true, laidLooks := .later }
def TransactionPastCardSaid : Prop := Claim7.holds Tryz.pinned (.plain (OpenSpec.ofChange transactionPastSpec)) transactionPastCard

/-- THE TIED CARD OF 'annalistlaw25.TransactionPortion'. -/
def transactionPortionCard : Claim7 := { stood := { row := transactionPortionRow, standIns := [], harness := (true, "9fd1679d071289ef79fd7332ea66f8fdf71b83fe0de9b66f027f386206d65bbd"), looks := false }, kinds := [], alts := [], laidByText := true, laidKinds := [.data, .data, .data], laidTests := true, laidLooks := .later }
def TransactionPortionCardSaid : Prop := Claim7.holds Tryz.pinned (.plain (OpenSpec.ofChange transactionPortionSpec)) transactionPortionCard

/-- THE SECOND FORM's CARD OF 'annalistlaw25.TransactionViews'. -/
def transactionViewsUptoCard : Claim7 := { stood := { row := transactionViewsUptoRow, standIns := [], harness := (true, "9fd1679d071289ef79fd7332ea66f8fdf71b83fe0de9b66f027f386206d65bbd"), looks := false }, kinds := [], alts := [], laidByText := true, laidKinds := [.data, .data, .data], laidTests := true, laidLooks := .later }
def TransactionViewsUptoCardSaid : Prop := Claim7.holds Tryz.pinned (.plain (OpenSpec.upto transactionViewsSpec)) transactionViewsUptoCard

/-- THE SECOND FORM's CARD OF 'annalistlaw25.TransactionKeeps'. -/
def transactionKeepsUptoCard : Claim7 := { stood := { row := transactionKeepsUptoRow, standIns := [], harness := (true, "9fd1679d071289ef79fd7332ea66f8fdf71b83fe0de9b66f027f386206d65bbd"), looks := false }, kinds := [], alts := [], laidByText := true, laidKinds := [.data, .data, .data], laidTests := true, laidLooks := .later }
def TransactionKeepsUptoCardSaid : Prop := Claim7.holds Tryz.pinned (.plain (OpenSpec.upto transactionKeepsSpec)) transactionKeepsUptoCard

/-- THE SECOND FORM's CARD OF 'annalistlaw25.TransactionIDs'. -/
def transactionIDsUptoCard : Claim7 := { stood := { row := transactionIDsUptoRow, standIns := [], harness := (true, "9fd1679d071289ef79fd7332ea66f8fdf71b83fe0de9b66f027f386206d65bbd"), looks := false }, kinds := [], alts := [], laidByText := true, laidKinds := [.data, .data, .data], laidTests := true, laidLooks := .later }
def TransactionIDsUptoCardSaid : Prop := Claim7.holds Tryz.pinned (.plain (OpenSpec.upto transactionIDsSpec)) transactionIDsUptoCard

/-- THE SECOND FORM's CARD OF 'annalistlaw25.TransactionSteps'. -/
def transactionStepsUptoCard : Claim7 := { stood := { row := transactionStepsUptoRow, standIns := [], harness := (true, "9fd1679d071289ef79fd7332ea66f8fdf71b83fe0de9b66f027f386206d65bbd"), looks := false }, kinds := [], alts := [], laidByText := true, laidKinds := [.data, .data, .data], laidTests := true, laidLooks := .later }
def TransactionStepsUptoCardSaid : Prop := Claim7.holds Tryz.pinned (.plain (OpenSpec.upto transactionStepsSpec)) transactionStepsUptoCard

/-- THE SECOND FORM's CARD OF 'annalistlaw25.TransactionParts'. -/
def transactionPartsUptoCard : Claim7 := { stood := { row := transactionPartsUptoRow, standIns := [], harness := (true, "9fd1679d071289ef79fd7332ea66f8fdf71b83fe0de9b66f027f386206d65bbd"), looks := false }, kinds := [], alts := [], laidByText := true, laidKinds := [.data, .data, .data], laidTests := true, laidLooks := .later }
def TransactionPartsUptoCardSaid : Prop := Claim7.holds Tryz.pinned (.plain (OpenSpec.upto transactionPartsSpec)) transactionPartsUptoCard

/-- THE SECOND FORM's CARD OF 'annalistlaw25.TransactionPast'. -/
def transactionPastUptoCard : Claim7 := { stood := { row := transactionPastUptoRow, standIns := [], harness := (true, "9fd1679d071289ef79fd7332ea66f8fdf71b83fe0de9b66f027f386206d65bbd"), looks := false }, kinds := [], alts := [], laidByText := true, laidKinds := [.data, .data, .data], laidTests := true, laidLooks := .later }
def TransactionPastUptoCardSaid : Prop := Claim7.holds Tryz.pinned (.plain (OpenSpec.upto transactionPastSpec)) transactionPastUptoCard

/-- THE SECOND FORM's CARD OF 'annalistlaw25.TransactionPortion'. -/
def transactionPortionUptoCard : Claim7 := { stood := { row := transactionPortionUptoRow, standIns := [], harness := (true, "9fd1679d071289ef79fd7332ea66f8fdf71b83fe0de9b66f027f386206d65bbd"), looks := false }, kinds := [], alts := [], laidByText := true, laidKinds := [.data, .data, .data], laidTests := true, laidLooks := .later }
def TransactionPortionUptoCardSaid : Prop := Claim7.holds Tryz.pinned (.plain (OpenSpec.upto transactionPortionSpec)) transactionPortionUptoCard
end Rows
end Go.Proofs.YtnkineaffgkicaaGreatDoor
