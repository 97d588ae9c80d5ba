/-
  DERIVED. GIVEN WITH THE SEED: THE CARDS: each row of YtpgcjofhfaonpaaGreatDoorRows.lean that lists a variable, with what it lists TIED to the program's text (the seventh form; the later family's looks); each row that meets fmt, with fmt's text TOLD by the authors' own Lean function (tested against real Go, not proved from fmt's source: count such statements apart). THE CARD IS WHAT COUNTS. Prove the row's statement (the work); the ties are given (YtpgcjofhfaonpaaGreatDoorTie.lean); close each card by the builder's one call (the guide's Derived/Test/ToyasCard.lean, 'card_holds'). Laid BY PROGRAM, IN A SANDBOX (cutbox-door.mjs). By AI agents, Wed Nov 11 2026. No macro, syntax, notation, axiom, sorry.
-/
import Derived.Test.YtpgcjofhfaonpaaGreatDoorRows
import GoSem.ClaimSeven
namespace Go.Proofs.YtpgcjofhfaonpaaGreatDoor
namespace Rows

/-- THE TIED CARD OF 'annalistlaw24.ConstraintRaw'. -/
def constraintRawCard : Claim7 := { stood := { row := constraintRawRow, standIns := [], harness := (true, "5961c77917f79a98b7dc0b168919f4133b66119a508db6d28c586825882c564f"), looks := false }, kinds := [], alts := [], laidByText := true, laidKinds := [.data, .data, .data], laidTests := true, laidLooks := .later }
def ConstraintRawCardSaid : Prop := Claim7.holds Tryz.pinned (.plain (OpenSpec.ofChange constraintRawSpec)) constraintRawCard

/-- THE TIED CARD OF 'annalistlaw24.ConstraintGaps'. -/
def constraintGapsCard : Claim7 := { stood := { row := constraintGapsRow, standIns := [], harness := (true, "5961c77917f79a98b7dc0b168919f4133b66119a508db6d28c586825882c564f"), looks := false }, kinds := [], alts := [], laidByText := true, laidKinds := [.data, .data, .data], laidTests := true, laidLooks := .later }
def ConstraintGapsCardSaid : Prop := Claim7.holds Tryz.pinned (.plain (OpenSpec.ofChange constraintGapsSpec)) constraintGapsCard

/-- THE TIED CARD OF 'annalistlaw24.ConstraintCovered'. -/
def constraintCoveredCard : Claim7 := { stood := { row := constraintCoveredRow, standIns := [], harness := (true, "5961c77917f79a98b7dc0b168919f4133b66119a508db6d28c586825882c564f"), looks := false }, kinds := [], alts := [], laidByText := true, laidKinds := [.data, .data, .data], laidTests := true, laidLooks := .later }
def ConstraintCoveredCardSaid : Prop := Claim7.holds Tryz.pinned (.plain (OpenSpec.ofChange constraintCoveredSpec)) constraintCoveredCard

/-- THE TIED CARD OF 'annalistlaw24.ConstraintFilled'. -/
def constraintFilledCard : Claim7 := { stood := { row := constraintFilledRow, standIns := [], harness := (true, "5961c77917f79a98b7dc0b168919f4133b66119a508db6d28c586825882c564f"), looks := false }, kinds := [], alts := [], laidByText := true, laidKinds := [.data, .data, .data], laidTests := true, laidLooks := .later }
def ConstraintFilledCardSaid : Prop := Claim7.holds Tryz.pinned (.plain (OpenSpec.ofChange constraintFilledSpec)) constraintFilledCard

/-- THE TIED CARD OF 'annalistlaw24.ConstraintSplit'. -/
def constraintSplitCard : Claim7 := { stood := { row := constraintSplitRow, standIns := [], harness := (true, "5961c77917f79a98b7dc0b168919f4133b66119a508db6d28c586825882c564f"), looks := false }, kinds := [], alts := [], laidByText := true, laidKinds := [.data, .data, .data], laidTests := true, laidLooks := .later }
def ConstraintSplitCardSaid : Prop := Claim7.holds Tryz.pinned (.plain (OpenSpec.ofChange constraintSplitSpec)) constraintSplitCard

/-- THE SECOND FORM's CARD OF 'annalistlaw24.ConstraintRaw'. -/
def constraintRawUptoCard : Claim7 := { stood := { row := constraintRawUptoRow, standIns := [], harness := (true, "5961c77917f79a98b7dc0b168919f4133b66119a508db6d28c586825882c564f"), looks := false }, kinds := [], alts := [], laidByText := true, laidKinds := [.data, .data, .data], laidTests := true, laidLooks := .later }
def ConstraintRawUptoCardSaid : Prop := Claim7.holds Tryz.pinned (.plain (OpenSpec.upto constraintRawSpec)) constraintRawUptoCard

/-- THE SECOND FORM's CARD OF 'annalistlaw24.ConstraintGaps'. -/
def constraintGapsUptoCard : Claim7 := { stood := { row := constraintGapsUptoRow, standIns := [], harness := (true, "5961c77917f79a98b7dc0b168919f4133b66119a508db6d28c586825882c564f"), looks := false }, kinds := [], alts := [], laidByText := true, laidKinds := [.data, .data, .data], laidTests := true, laidLooks := .later }
def ConstraintGapsUptoCardSaid : Prop := Claim7.holds Tryz.pinned (.plain (OpenSpec.upto constraintGapsSpec)) constraintGapsUptoCard

/-- THE SECOND FORM's CARD OF 'annalistlaw24.ConstraintCovered'. -/
def constraintCoveredUptoCard : Claim7 := { stood := { row := constraintCoveredUptoRow, standIns := [], harness := (true, "5961c77917f79a98b7dc0b168919f4133b66119a508db6d28c586825882c564f"), looks := false }, kinds := [], alts := [], laidByText := true, laidKinds := [.data, .data, .data], laidTests := true, laidLooks := .later }
def ConstraintCoveredUptoCardSaid : Prop := Claim7.holds Tryz.pinned (.plain (OpenSpec.upto constraintCoveredSpec)) constraintCoveredUptoCard

/-- THE SECOND FORM's CARD OF 'annalistlaw24.ConstraintFilled'. -/
def constraintFilledUptoCard : Claim7 := { stood := { row := constraintFilledUptoRow, standIns := [], harness := (true, "5961c77917f79a98b7dc0b168919f4133b66119a508db6d28c586825882c564f"), looks := false }, kinds := [], alts := [], laidByText := true, laidKinds := [.data, .data, .data], laidTests := true, laidLooks := .later }
def ConstraintFilledUptoCardSaid : Prop := Claim7.holds Tryz.pinned (.plain (OpenSpec.upto constraintFilledSpec)) constraintFilledUptoCard

/-- THE SECOND FORM's CARD OF 'annalistlaw24.ConstraintSplit'. -/
def constraintSplitUptoCard : Claim7 := { stood := { row := constraintSplitUptoRow, standIns := [], harness := (true, "5961c77917f79a98b7dc0b168919f4133b66119a508db6d28c586825882c564f"), looks := false }, kinds := [], alts := [], laidByText := true, laidKinds := [.data, .data, .data], laidTests := true, laidLooks := .later }
def ConstraintSplitUptoCardSaid : Prop := Claim7.holds Tryz.pinned (.plain (OpenSpec.upto constraintSplitSpec)) constraintSplitUptoCard
end Rows
end Go.Proofs.YtpgcjofhfaonpaaGreatDoor
