/-
  DERIVED. GIVEN WITH THE SEED: THE CARDS: each row of YtobaignbahnjbaaDoorRows.lean that lists a variable, with what it lists TIED to the program's text (the seventh form; the later family's looks); each row that meets fmt, with fmt's text TOLD by the authors' own Lean function (tested against real Go, not proved from fmt's source: count such statements apart). THE CARD IS WHAT COUNTS. Prove the row's statement (the work); the ties are given (YtobaignbahnjbaaDoorTie.lean); close each card by the builder's one call (the guide's Derived/Test/ToyasCard.lean, 'card_holds'). Laid BY PROGRAM, IN A SANDBOX (cutbox-door.mjs). By AI agents, Wed Nov 11 2026. No macro, syntax, notation, axiom, sorry.
-/
import Derived.Test.YtobaignbahnjbaaDoorRows
import GoSem.ClaimSeven
namespace Go.Proofs.YtobaignbahnjbaaDoor
namespace Rows

/-- THE TIED CARD OF 'checkrolllaw05.MsgRight'. -/
def msgRightCard : Claim7 := { stood := { row := msgRightRow, standIns := [], harness := (true, "b27a962e0c62a6a9fead2934e1a21c47404a8fa8a02b5fe264fd705e75038ec8"), looks := true }, kinds := [], alts := [], laidByText := true, laidKinds := [.data, .data, .data, .sentinel, .sentinel], laidTests := true, laidLooks := .later }
def MsgRightCardSaid : Prop := Claim7.holds Tryd.pinned (.plain (OpenSpec.ofChange msgRightSpec)) msgRightCard

/-- THE TIED CARD OF 'checkrolllaw05.MsgReads'. -/
def msgReadsCard : Claim7 := { stood := { row := msgReadsRow, standIns := [], harness := (true, "b27a962e0c62a6a9fead2934e1a21c47404a8fa8a02b5fe264fd705e75038ec8"), looks := true }, kinds := [], alts := [], laidByText := true, laidKinds := [.data, .data, .data, .sentinel, .sentinel], laidTests := true, laidLooks := .later }
def MsgReadsCardSaid : Prop := Claim7.holds Tryd.pinned (.plain (OpenSpec.ofChange msgReadsSpec)) msgReadsCard

/-- THE TIED CARD OF 'checkrolllaw05.MsgApart'. -/
def msgApartCard : Claim7 := { stood := { row := msgApartRow, standIns := [], harness := (true, "b27a962e0c62a6a9fead2934e1a21c47404a8fa8a02b5fe264fd705e75038ec8"), looks := true }, kinds := [], alts := [], laidByText := true, laidKinds := [.data, .data, .data, .sentinel, .sentinel], laidTests := true, laidLooks := .later }
def MsgApartCardSaid : Prop := Claim7.holds Tryd.pinned (.plain (OpenSpec.ofChange msgApartSpec)) msgApartCard

/-- THE TIED CARD OF 'checkrolllaw05.MsgBack'. -/
def msgBackCard : Claim7 := { stood := { row := msgBackRow, standIns := [], harness := (true, "b27a962e0c62a6a9fead2934e1a21c47404a8fa8a02b5fe264fd705e75038ec8"), looks := true }, kinds := [], alts := [], laidByText := true, laidKinds := [.data, .data, .data, .sentinel, .sentinel], laidTests := true, laidLooks := .later }
def MsgBackCardSaid : Prop := Claim7.holds Tryd.pinned (.plain (OpenSpec.ofChange msgBackSpec)) msgBackCard

/-- THE SECOND FORM's CARD OF 'checkrolllaw05.MsgRight'. -/
def msgRightUptoCard : Claim7 := { stood := { row := msgRightUptoRow, standIns := [], harness := (true, "b27a962e0c62a6a9fead2934e1a21c47404a8fa8a02b5fe264fd705e75038ec8"), looks := true }, kinds := [], alts := [], laidByText := true, laidKinds := [.data, .data, .data, .sentinel, .sentinel], laidTests := true, laidLooks := .later }
def MsgRightUptoCardSaid : Prop := Claim7.holds Tryd.pinned (.plain (OpenSpec.upto msgRightSpec)) msgRightUptoCard

/-- THE SECOND FORM's CARD OF 'checkrolllaw05.MsgReads'. -/
def msgReadsUptoCard : Claim7 := { stood := { row := msgReadsUptoRow, standIns := [], harness := (true, "b27a962e0c62a6a9fead2934e1a21c47404a8fa8a02b5fe264fd705e75038ec8"), looks := true }, kinds := [], alts := [], laidByText := true, laidKinds := [.data, .data, .data, .sentinel, .sentinel], laidTests := true, laidLooks := .later }
def MsgReadsUptoCardSaid : Prop := Claim7.holds Tryd.pinned (.plain (OpenSpec.upto msgReadsSpec)) msgReadsUptoCard

/-- THE SECOND FORM's CARD OF 'checkrolllaw05.MsgApart'. -/
def msgApartUptoCard : Claim7 := { stood := { row := msgApartUptoRow, standIns := [], harness := (true, "b27a962e0c62a6a9fead2934e1a21c47404a8fa8a02b5fe264fd705e75038ec8"), looks := true }, kinds := [], alts := [], laidByText := true, laidKinds := [.data, .data, .data, .sentinel, .sentinel], laidTests := true, laidLooks := .later }
def MsgApartUptoCardSaid : Prop := Claim7.holds Tryd.pinned (.plain (OpenSpec.upto msgApartSpec)) msgApartUptoCard

/-- THE SECOND FORM's CARD OF 'checkrolllaw05.MsgBack'. -/
def msgBackUptoCard : Claim7 := { stood := { row := msgBackUptoRow, standIns := [], harness := (true, "b27a962e0c62a6a9fead2934e1a21c47404a8fa8a02b5fe264fd705e75038ec8"), looks := true }, kinds := [], alts := [], laidByText := true, laidKinds := [.data, .data, .data, .sentinel, .sentinel], laidTests := true, laidLooks := .later }
def MsgBackUptoCardSaid : Prop := Claim7.holds Tryd.pinned (.plain (OpenSpec.upto msgBackSpec)) msgBackUptoCard
end Rows
end Go.Proofs.YtobaignbahnjbaaDoor
