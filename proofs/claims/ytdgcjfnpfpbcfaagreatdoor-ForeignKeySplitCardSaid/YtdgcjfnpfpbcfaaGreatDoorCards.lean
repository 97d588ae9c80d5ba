/-
  DERIVED. GIVEN WITH THE SEED: THE CARDS: each row of YtdgcjfnpfpbcfaaGreatDoorRows.lean that lists a variable, with what it lists TIED to the program's text (the seventh form; the later family's looks); each row that meets fmt, with fmt's text TOLD by the authors' own Lean function (tested against real Go, not proved from fmt's source: count such statements apart). THE CARD IS WHAT COUNTS. Prove the row's statement (the work); the ties are given (YtdgcjfnpfpbcfaaGreatDoorTie.lean); close each card by the builder's one call (the guide's Derived/Test/ToyasCard.lean, 'card_holds'). Laid BY PROGRAM, IN A SANDBOX (cutbox-door.mjs). By AI agents, Wed Nov 11 2026. No macro, syntax, notation, axiom, sorry.
-/
import Derived.Test.YtdgcjfnpfpbcfaaGreatDoorRows
import GoSem.ClaimSeven
namespace Go.Proofs.YtdgcjfnpfpbcfaaGreatDoor
namespace Rows

/-- THE TIED CARD OF 'annalistlaw23.ForeignKeyRaw'. -/
def foreignKeyRawCard : Claim7 := { stood := { row := foreignKeyRawRow, standIns := [], harness := (true, "d7fb8e728960e14303de1f16d148c557462f1d5642ff9abef28671628b5081b0"), looks := false }, kinds := [], alts := [], laidByText := true, laidKinds := [.data, .data, .data], laidTests := true, laidLooks := .later }
def ForeignKeyRawCardSaid : Prop := Claim7.holds Tryz.pinned (.plain (OpenSpec.ofChange foreignKeyRawSpec)) foreignKeyRawCard

/-- THE TIED CARD OF 'annalistlaw23.ForeignKeyViolations'. -/
def foreignKeyViolationsCard : Claim7 := { stood := { row := foreignKeyViolationsRow, standIns := [], harness := (true, "d7fb8e728960e14303de1f16d148c557462f1d5642ff9abef28671628b5081b0"), looks := false }, kinds := [], alts := [], laidByText := true, laidKinds := [.data, .data, .data], laidTests := true, laidLooks := .later }
def ForeignKeyViolationsCardSaid : Prop := Claim7.holds Tryz.pinned (.plain (OpenSpec.ofChange foreignKeyViolationsSpec)) foreignKeyViolationsCard

/-- THE TIED CARD OF 'annalistlaw23.ForeignKeyCovered'. -/
def foreignKeyCoveredCard : Claim7 := { stood := { row := foreignKeyCoveredRow, standIns := [], harness := (true, "d7fb8e728960e14303de1f16d148c557462f1d5642ff9abef28671628b5081b0"), looks := false }, kinds := [], alts := [], laidByText := true, laidKinds := [.data, .data, .data], laidTests := true, laidLooks := .later }
def ForeignKeyCoveredCardSaid : Prop := Claim7.holds Tryz.pinned (.plain (OpenSpec.ofChange foreignKeyCoveredSpec)) foreignKeyCoveredCard

/-- THE TIED CARD OF 'annalistlaw23.ForeignKeyDaily'. -/
def foreignKeyDailyCard : Claim7 := { stood := { row := foreignKeyDailyRow, standIns := [], harness := (true, "d7fb8e728960e14303de1f16d148c557462f1d5642ff9abef28671628b5081b0"), looks := false }, kinds := [], alts := [], laidByText := true, laidKinds := [.data, .data, .data], laidTests := true, laidLooks := .later }
def ForeignKeyDailyCardSaid : Prop := Claim7.holds Tryz.pinned (.plain (OpenSpec.ofChange foreignKeyDailySpec)) foreignKeyDailyCard

/-- THE TIED CARD OF 'annalistlaw23.ForeignKeySplit'. -/
def foreignKeySplitCard : Claim7 := { stood := { row := foreignKeySplitRow, standIns := [], harness := (true, "d7fb8e728960e14303de1f16d148c557462f1d5642ff9abef28671628b5081b0"), looks := false }, kinds := [], alts := [], laidByText := true, laidKinds := [.data, .data, .data], laidTests := true, laidLooks := .later }
def ForeignKeySplitCardSaid : Prop := Claim7.holds Tryz.pinned (.plain (OpenSpec.ofChange foreignKeySplitSpec)) foreignKeySplitCard

/-- THE SECOND FORM's CARD OF 'annalistlaw23.ForeignKeyRaw'. -/
def foreignKeyRawUptoCard : Claim7 := { stood := { row := foreignKeyRawUptoRow, standIns := [], harness := (true, "d7fb8e728960e14303de1f16d148c557462f1d5642ff9abef28671628b5081b0"), looks := false }, kinds := [], alts := [], laidByText := true, laidKinds := [.data, .data, .data], laidTests := true, laidLooks := .later }
def ForeignKeyRawUptoCardSaid : Prop := Claim7.holds Tryz.pinned (.plain (OpenSpec.upto foreignKeyRawSpec)) foreignKeyRawUptoCard

/-- THE SECOND FORM's CARD OF 'annalistlaw23.ForeignKeyViolations'. -/
def foreignKeyViolationsUptoCard : Claim7 := { stood := { row := foreignKeyViolationsUptoRow, standIns := [], harness := (true, "d7fb8e728960e14303de1f16d148c557462f1d5642ff9abef28671628b5081b0"), looks := false }, kinds := [], alts := [], laidByText := true, laidKinds := [.data, .data, .data], laidTests := true, laidLooks := .later }
def ForeignKeyViolationsUptoCardSaid : Prop := Claim7.holds Tryz.pinned (.plain (OpenSpec.upto foreignKeyViolationsSpec)) foreignKeyViolationsUptoCard

/-- THE SECOND FORM's CARD OF 'annalistlaw23.ForeignKeyCovered'. -/
def foreignKeyCoveredUptoCard : Claim7 := { stood := { row := foreignKeyCoveredUptoRow, standIns := [], harness := (true, "d7fb8e728960e14303de1f16d148c557462f1d5642ff9abef28671628b5081b0"), looks := false }, kinds := [], alts := [], laidByText := true, laidKinds := [.data, .data, .data], laidTests := true, laidLooks := .later }
def ForeignKeyCoveredUptoCardSaid : Prop := Claim7.holds Tryz.pinned (.plain (OpenSpec.upto foreignKeyCoveredSpec)) foreignKeyCoveredUptoCard

/-- THE SECOND FORM's CARD OF 'annalistlaw23.ForeignKeyDaily'. -/
def foreignKeyDailyUptoCard : Claim7 := { stood := { row := foreignKeyDailyUptoRow, standIns := [], harness := (true, "d7fb8e728960e14303de1f16d148c557462f1d5642ff9abef28671628b5081b0"), looks := false }, kinds := [], alts := [], laidByText := true, laidKinds := [.data, .data, .data], laidTests := true, laidLooks := .later }
def ForeignKeyDailyUptoCardSaid : Prop := Claim7.holds Tryz.pinned (.plain (OpenSpec.upto foreignKeyDailySpec)) foreignKeyDailyUptoCard

/-- THE SECOND FORM's CARD OF 'annalistlaw23.ForeignKeySplit'. -/
def foreignKeySplitUptoCard : Claim7 := { stood := { row := foreignKeySplitUptoRow, standIns := [], harness := (true, "d7fb8e728960e14303de1f16d148c557462f1d5642ff9abef28671628b5081b0"), looks := false }, kinds := [], alts := [], laidByText := true, laidKinds := [.data, .data, .data], laidTests := true, laidLooks := .later }
def ForeignKeySplitUptoCardSaid : Prop := Claim7.holds Tryz.pinned (.plain (OpenSpec.upto foreignKeySplitSpec)) foreignKeySplitUptoCard
end Rows
end Go.Proofs.YtdgcjfnpfpbcfaaGreatDoor
