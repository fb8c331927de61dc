/-
  DERIVED. GIVEN WITH THE SEED: THE CARDS: each row of YtfchlkeekmabfaaGreatDoorRows.lean that lists a variable, with what it lists TIED to the program's text (the seventh form; the later family's looks); each row that meets fmt, with fmt's text TOLD by the authors' own Lean function (tested against real Go, not proved from fmt's source: count such statements apart). THE CARD IS WHAT COUNTS. Prove the row's statement (the work); the ties are given (YtfchlkeekmabfaaGreatDoorTie.lean); close each card by the builder's one call (the guide's Derived/Test/ToyasCard.lean, 'card_holds'). Laid BY PROGRAM, IN A SANDBOX (cutbox-door.mjs). By AI agents, Wed Nov 11 2026. No macro, syntax, notation, axiom, sorry.
-/
import Derived.Test.YtfchlkeekmabfaaGreatDoorRows
import GoSem.ClaimSeven
namespace Go.Proofs.YtfchlkeekmabfaaGreatDoor
namespace Rows

/-- THE TIED CARD OF 'checkrolllaw23.TextOne'. -/
def textOneCard : Claim7 := { stood := { row := textOneRow, standIns := [], harness := (true, "e9e77cef7782c8c4fe2c423f056a3a65f95ba1be73d2faea356b27390c8f042a"), looks := true }, kinds := [], alts := [], laidByText := true, laidKinds := [.data, .data, .data, .data, .sentinel, .sentinel, .data, .data, .pinned], laidTests := true, laidLooks := .later }
def TextOneCardSaid : Prop := Claim7.holds Tryz.pinned (.plain (OpenSpec.ofChange textOneSpec)) textOneCard

/-- THE TIED CARD OF 'checkrolllaw23.TextRight'. -/
def textRightCard : Claim7 := { stood := { row := textRightRow, standIns := [], harness := (true, "e9e77cef7782c8c4fe2c423f056a3a65f95ba1be73d2faea356b27390c8f042a"), looks := true }, kinds := [], alts := [], laidByText := true, laidKinds := [.data, .data, .data, .data, .sentinel, .sentinel, .data, .data, .pinned], laidTests := true, laidLooks := .later }
def TextRightCardSaid : Prop := Claim7.holds Tryz.pinned (.plain (OpenSpec.ofChange textRightSpec)) textRightCard

/-- THE TIED CARD OF 'checkrolllaw23.TextBack'. -/
def textBackCard : Claim7 := { stood := { row := textBackRow, standIns := [], harness := (true, "e9e77cef7782c8c4fe2c423f056a3a65f95ba1be73d2faea356b27390c8f042a"), looks := true }, kinds := [], alts := [], laidByText := true, laidKinds := [.data, .data, .data, .data, .sentinel, .sentinel, .data, .data, .pinned], laidTests := true, laidLooks := .later }
def TextBackCardSaid : Prop := Claim7.holds Tryz.pinned (.plain (OpenSpec.ofChange textBackSpec)) textBackCard

/-- THE SECOND FORM's CARD OF 'checkrolllaw23.TextOne'. -/
def textOneUptoCard : Claim7 := { stood := { row := textOneUptoRow, standIns := [], harness := (true, "e9e77cef7782c8c4fe2c423f056a3a65f95ba1be73d2faea356b27390c8f042a"), looks := true }, kinds := [], alts := [], laidByText := true, laidKinds := [.data, .data, .data, .data, .sentinel, .sentinel, .data, .data, .pinned], laidTests := true, laidLooks := .later }
def TextOneUptoCardSaid : Prop := Claim7.holds Tryz.pinned (.plain (OpenSpec.upto textOneSpec)) textOneUptoCard

/-- THE SECOND FORM's CARD OF 'checkrolllaw23.TextRight'. -/
def textRightUptoCard : Claim7 := { stood := { row := textRightUptoRow, standIns := [], harness := (true, "e9e77cef7782c8c4fe2c423f056a3a65f95ba1be73d2faea356b27390c8f042a"), looks := true }, kinds := [], alts := [], laidByText := true, laidKinds := [.data, .data, .data, .data, .sentinel, .sentinel, .data, .data, .pinned], laidTests := true, laidLooks := .later }
def TextRightUptoCardSaid : Prop := Claim7.holds Tryz.pinned (.plain (OpenSpec.upto textRightSpec)) textRightUptoCard

/-- THE SECOND FORM's CARD OF 'checkrolllaw23.TextBack'. -/
def textBackUptoCard : Claim7 := { stood := { row := textBackUptoRow, standIns := [], harness := (true, "e9e77cef7782c8c4fe2c423f056a3a65f95ba1be73d2faea356b27390c8f042a"), looks := true }, kinds := [], alts := [], laidByText := true, laidKinds := [.data, .data, .data, .data, .sentinel, .sentinel, .data, .data, .pinned], laidTests := true, laidLooks := .later }
def TextBackUptoCardSaid : Prop := Claim7.holds Tryz.pinned (.plain (OpenSpec.upto textBackSpec)) textBackUptoCard
end Rows
end Go.Proofs.YtfchlkeekmabfaaGreatDoor
