/-
  DERIVED. GIVEN WITH THE SEED: THE CARDS: each row of YtgiomlgkccjhfaaDoorRows.lean that lists a variable, with what it lists TIED to the program's text (the seventh form; the later family's looks); each row that meets fmt, with fmt's text TOLD by the authors' own Lean function (tested against real Go, not proved from fmt's source: count such statements apart). THE CARD IS WHAT COUNTS. Prove the row's statement (the work); the ties are given (YtgiomlgkccjhfaaDoorTie.lean); close each card by the builder's one call (the guide's Derived/Test/ToyasCard.lean, 'card_holds'). Laid BY PROGRAM, IN A SANDBOX (cutbox-door.mjs). By AI agents, Wed Nov 11 2026. No macro, syntax, notation, axiom, sorry.
-/
import Derived.Test.YtgiomlgkccjhfaaDoorRows
import GoSem.ClaimSeven
namespace Go.Proofs.YtgiomlgkccjhfaaDoor
namespace Rows

/-- THE TIED CARD OF 'checkrolllaw02.FieldRight'. -/
def fieldRightCard : Claim7 := { stood := { row := fieldRightRow, standIns := [], harness := (true, "01656666a4f9a0a737dd1a430c62b8b3504341188a418dffb37aa8854836a16b"), looks := true }, kinds := [], alts := [], laidByText := true, laidKinds := [.data, .data, .data, .sentinel, .sentinel], laidTests := true, laidLooks := .later }
def FieldRightCardSaid : Prop := Claim7.holds Tryd.pinned (.plain (OpenSpec.ofChange fieldRightSpec)) fieldRightCard

/-- THE TIED CARD OF 'checkrolllaw02.FieldReads'. -/
def fieldReadsCard : Claim7 := { stood := { row := fieldReadsRow, standIns := [], harness := (true, "01656666a4f9a0a737dd1a430c62b8b3504341188a418dffb37aa8854836a16b"), looks := true }, kinds := [], alts := [], laidByText := true, laidKinds := [.data, .data, .data, .sentinel, .sentinel], laidTests := true, laidLooks := .later }
def FieldReadsCardSaid : Prop := Claim7.holds Tryd.pinned (.plain (OpenSpec.ofChange fieldReadsSpec)) fieldReadsCard

/-- THE TIED CARD OF 'checkrolllaw02.FieldBack'. -/
def fieldBackCard : Claim7 := { stood := { row := fieldBackRow, standIns := [], harness := (true, "01656666a4f9a0a737dd1a430c62b8b3504341188a418dffb37aa8854836a16b"), looks := true }, kinds := [], alts := [], laidByText := true, laidKinds := [.data, .data, .data, .sentinel, .sentinel], laidTests := true, laidLooks := .later }
def FieldBackCardSaid : Prop := Claim7.holds Tryd.pinned (.plain (OpenSpec.ofChange fieldBackSpec)) fieldBackCard

/-- THE TIED CARD OF 'checkrolllaw02.FieldCuts'. -/
def fieldCutsCard : Claim7 := { stood := { row := fieldCutsRow, standIns := [], harness := (true, "01656666a4f9a0a737dd1a430c62b8b3504341188a418dffb37aa8854836a16b"), looks := true }, kinds := [], alts := [], laidByText := true, laidKinds := [.data, .data, .data, .sentinel, .sentinel], laidTests := true, laidLooks := .later }
def FieldCutsCardSaid : Prop := Claim7.holds Tryd.pinned (.plain (OpenSpec.ofChange fieldCutsSpec)) fieldCutsCard

/-- THE TIED CARD OF 'checkrolllaw03.FrameRight'. -/
def frameRightCard : Claim7 := { stood := { row := frameRightRow, standIns := [], harness := (true, "01656666a4f9a0a737dd1a430c62b8b3504341188a418dffb37aa8854836a16b"), looks := true }, kinds := [], alts := [], laidByText := true, laidKinds := [.data, .data, .data, .sentinel, .sentinel], laidTests := true, laidLooks := .later }
def FrameRightCardSaid : Prop := Claim7.holds Tryd.pinned (.plain (OpenSpec.ofChange frameRightSpec)) frameRightCard

/-- THE TIED CARD OF 'checkrolllaw03.FrameNext'. -/
def frameNextCard : Claim7 := { stood := { row := frameNextRow, standIns := [], harness := (true, "01656666a4f9a0a737dd1a430c62b8b3504341188a418dffb37aa8854836a16b"), looks := true }, kinds := [], alts := [], laidByText := true, laidKinds := [.data, .data, .data, .sentinel, .sentinel], laidTests := true, laidLooks := .later }
def FrameNextCardSaid : Prop := Claim7.holds Tryd.pinned (.plain (OpenSpec.ofChange frameNextSpec)) frameNextCard

/-- THE TIED CARD OF 'checkrolllaw03.FrameFound'. -/
def frameFoundCard : Claim7 := { stood := { row := frameFoundRow, standIns := [], harness := (true, "01656666a4f9a0a737dd1a430c62b8b3504341188a418dffb37aa8854836a16b"), looks := true }, kinds := [], alts := [], laidByText := true, laidKinds := [.data, .data, .data, .sentinel, .sentinel], laidTests := true, laidLooks := .later }
def FrameFoundCardSaid : Prop := Claim7.holds Tryd.pinned (.plain (OpenSpec.ofChange frameFoundSpec)) frameFoundCard

/-- THE TIED CARD OF 'checkrolllaw03.FrameGoes'. -/
def frameGoesCard : Claim7 := { stood := { row := frameGoesRow, standIns := [], harness := (true, "01656666a4f9a0a737dd1a430c62b8b3504341188a418dffb37aa8854836a16b"), looks := true }, kinds := [], alts := [], laidByText := true, laidKinds := [.data, .data, .data, .sentinel, .sentinel], laidTests := true, laidLooks := .later }
def FrameGoesCardSaid : Prop := Claim7.holds Tryd.pinned (.plain (OpenSpec.ofChange frameGoesSpec)) frameGoesCard

/-- THE TIED CARD OF 'checkrolllaw03.FrameSums'. -/
def frameSumsCard : Claim7 := { stood := { row := frameSumsRow, standIns := [], harness := (true, "01656666a4f9a0a737dd1a430c62b8b3504341188a418dffb37aa8854836a16b"), looks := true }, kinds := [], alts := [], laidByText := true, laidKinds := [.data, .data, .data, .sentinel, .sentinel], laidTests := true, laidLooks := .later }
def FrameSumsCardSaid : Prop := Claim7.holds Tryd.pinned (.plain (OpenSpec.ofChange frameSumsSpec)) frameSumsCard

/-- THE TIED CARD OF 'checkrolllaw04.FeedRight'. -/
def feedRightCard : Claim7 := { stood := { row := feedRightRow, standIns := [], harness := (true, "01656666a4f9a0a737dd1a430c62b8b3504341188a418dffb37aa8854836a16b"), looks := true }, kinds := [], alts := [], laidByText := true, laidKinds := [.data, .data, .data, .sentinel, .sentinel], laidTests := true, laidLooks := .later }
def FeedRightCardSaid : Prop := Claim7.holds Tryd.pinned (.plain (OpenSpec.ofChange feedRightSpec)) feedRightCard

/-- THE TIED CARD OF 'checkrolllaw04.FeedPieces'. -/
def feedPiecesCard : Claim7 := { stood := { row := feedPiecesRow, standIns := [], harness := (true, "01656666a4f9a0a737dd1a430c62b8b3504341188a418dffb37aa8854836a16b"), looks := true }, kinds := [], alts := [], laidByText := true, laidKinds := [.data, .data, .data, .sentinel, .sentinel], laidTests := true, laidLooks := .later }
def FeedPiecesCardSaid : Prop := Claim7.holds Tryd.pinned (.plain (OpenSpec.ofChange feedPiecesSpec)) feedPiecesCard

/-- THE TIED CARD OF 'checkrolllaw04.FeedCounts'. -/
def feedCountsCard : Claim7 := { stood := { row := feedCountsRow, standIns := [], harness := (true, "01656666a4f9a0a737dd1a430c62b8b3504341188a418dffb37aa8854836a16b"), looks := true }, kinds := [], alts := [], laidByText := true, laidKinds := [.data, .data, .data, .sentinel, .sentinel], laidTests := true, laidLooks := .later }
def FeedCountsCardSaid : Prop := Claim7.holds Tryd.pinned (.plain (OpenSpec.ofChange feedCountsSpec)) feedCountsCard

/-- THE TIED CARD OF 'checkrolllaw04.FeedJunk'. -/
def feedJunkCard : Claim7 := { stood := { row := feedJunkRow, standIns := [], harness := (true, "01656666a4f9a0a737dd1a430c62b8b3504341188a418dffb37aa8854836a16b"), looks := true }, kinds := [], alts := [], laidByText := true, laidKinds := [.data, .data, .data, .sentinel, .sentinel], laidTests := true, laidLooks := .later }
def FeedJunkCardSaid : Prop := Claim7.holds Tryd.pinned (.plain (OpenSpec.ofChange feedJunkSpec)) feedJunkCard

/-- THE SECOND FORM's CARD OF 'checkrolllaw02.FieldRight'. -/
def fieldRightUptoCard : Claim7 := { stood := { row := fieldRightUptoRow, standIns := [], harness := (true, "01656666a4f9a0a737dd1a430c62b8b3504341188a418dffb37aa8854836a16b"), looks := true }, kinds := [], alts := [], laidByText := true, laidKinds := [.data, .data, .data, .sentinel, .sentinel], laidTests := true, laidLooks := .later }
def FieldRightUptoCardSaid : Prop := Claim7.holds Tryd.pinned (.plain (OpenSpec.upto fieldRightSpec)) fieldRightUptoCard

/-- THE SECOND FORM's CARD OF 'checkrolllaw02.FieldReads'. -/
def fieldReadsUptoCard : Claim7 := { stood := { row := fieldReadsUptoRow, standIns := [], harness := (true, "01656666a4f9a0a737dd1a430c62b8b3504341188a418dffb37aa8854836a16b"), looks := true }, kinds := [], alts := [], laidByText := true, laidKinds := [.data, .data, .data, .sentinel, .sentinel], laidTests := true, laidLooks := .later }
def FieldReadsUptoCardSaid : Prop := Claim7.holds Tryd.pinned (.plain (OpenSpec.upto fieldReadsSpec)) fieldReadsUptoCard

/-- THE SECOND FORM's CARD OF 'checkrolllaw02.FieldBack'. -/
def fieldBackUptoCard : Claim7 := { stood := { row := fieldBackUptoRow, standIns := [], harness := (true, "01656666a4f9a0a737dd1a430c62b8b3504341188a418dffb37aa8854836a16b"), looks := true }, kinds := [], alts := [], laidByText := true, laidKinds := [.data, .data, .data, .sentinel, .sentinel], laidTests := true, laidLooks := .later }
def FieldBackUptoCardSaid : Prop := Claim7.holds Tryd.pinned (.plain (OpenSpec.upto fieldBackSpec)) fieldBackUptoCard

/-- THE SECOND FORM's CARD OF 'checkrolllaw02.FieldCuts'. -/
def fieldCutsUptoCard : Claim7 := { stood := { row := fieldCutsUptoRow, standIns := [], harness := (true, "01656666a4f9a0a737dd1a430c62b8b3504341188a418dffb37aa8854836a16b"), looks := true }, kinds := [], alts := [], laidByText := true, laidKinds := [.data, .data, .data, .sentinel, .sentinel], laidTests := true, laidLooks := .later }
def FieldCutsUptoCardSaid : Prop := Claim7.holds Tryd.pinned (.plain (OpenSpec.upto fieldCutsSpec)) fieldCutsUptoCard

/-- THE SECOND FORM's CARD OF 'checkrolllaw03.FrameRight'. -/
def frameRightUptoCard : Claim7 := { stood := { row := frameRightUptoRow, standIns := [], harness := (true, "01656666a4f9a0a737dd1a430c62b8b3504341188a418dffb37aa8854836a16b"), looks := true }, kinds := [], alts := [], laidByText := true, laidKinds := [.data, .data, .data, .sentinel, .sentinel], laidTests := true, laidLooks := .later }
def FrameRightUptoCardSaid : Prop := Claim7.holds Tryd.pinned (.plain (OpenSpec.upto frameRightSpec)) frameRightUptoCard

/-- THE SECOND FORM's CARD OF 'checkrolllaw03.FrameNext'. -/
def frameNextUptoCard : Claim7 := { stood := { row := frameNextUptoRow, standIns := [], harness := (true, "01656666a4f9a0a737dd1a430c62b8b3504341188a418dffb37aa8854836a16b"), looks := true }, kinds := [], alts := [], laidByText := true, laidKinds := [.data, .data, .data, .sentinel, .sentinel], laidTests := true, laidLooks := .later }
def FrameNextUptoCardSaid : Prop := Claim7.holds Tryd.pinned (.plain (OpenSpec.upto frameNextSpec)) frameNextUptoCard

/-- THE SECOND FORM's CARD OF 'checkrolllaw03.FrameFound'. -/
def frameFoundUptoCard : Claim7 := { stood := { row := frameFoundUptoRow, standIns := [], harness := (true, "01656666a4f9a0a737dd1a430c62b8b3504341188a418dffb37aa8854836a16b"), looks := true }, kinds := [], alts := [], laidByText := true, laidKinds := [.data, .data, .data, .sentinel, .sentinel], laidTests := true, laidLooks := .later }
def FrameFoundUptoCardSaid : Prop := Claim7.holds Tryd.pinned (.plain (OpenSpec.upto frameFoundSpec)) frameFoundUptoCard

/-- THE SECOND FORM's CARD OF 'checkrolllaw03.FrameGoes'. -/
def frameGoesUptoCard : Claim7 := { stood := { row := frameGoesUptoRow, standIns := [], harness := (true, "01656666a4f9a0a737dd1a430c62b8b3504341188a418dffb37aa8854836a16b"), looks := true }, kinds := [], alts := [], laidByText := true, laidKinds := [.data, .data, .data, .sentinel, .sentinel], laidTests := true, laidLooks := .later }
def FrameGoesUptoCardSaid : Prop := Claim7.holds Tryd.pinned (.plain (OpenSpec.upto frameGoesSpec)) frameGoesUptoCard

/-- THE SECOND FORM's CARD OF 'checkrolllaw03.FrameSums'. -/
def frameSumsUptoCard : Claim7 := { stood := { row := frameSumsUptoRow, standIns := [], harness := (true, "01656666a4f9a0a737dd1a430c62b8b3504341188a418dffb37aa8854836a16b"), looks := true }, kinds := [], alts := [], laidByText := true, laidKinds := [.data, .data, .data, .sentinel, .sentinel], laidTests := true, laidLooks := .later }
def FrameSumsUptoCardSaid : Prop := Claim7.holds Tryd.pinned (.plain (OpenSpec.upto frameSumsSpec)) frameSumsUptoCard

/-- THE SECOND FORM's CARD OF 'checkrolllaw04.FeedRight'. -/
def feedRightUptoCard : Claim7 := { stood := { row := feedRightUptoRow, standIns := [], harness := (true, "01656666a4f9a0a737dd1a430c62b8b3504341188a418dffb37aa8854836a16b"), looks := true }, kinds := [], alts := [], laidByText := true, laidKinds := [.data, .data, .data, .sentinel, .sentinel], laidTests := true, laidLooks := .later }
def FeedRightUptoCardSaid : Prop := Claim7.holds Tryd.pinned (.plain (OpenSpec.upto feedRightSpec)) feedRightUptoCard

/-- THE SECOND FORM's CARD OF 'checkrolllaw04.FeedPieces'. -/
def feedPiecesUptoCard : Claim7 := { stood := { row := feedPiecesUptoRow, standIns := [], harness := (true, "01656666a4f9a0a737dd1a430c62b8b3504341188a418dffb37aa8854836a16b"), looks := true }, kinds := [], alts := [], laidByText := true, laidKinds := [.data, .data, .data, .sentinel, .sentinel], laidTests := true, laidLooks := .later }
def FeedPiecesUptoCardSaid : Prop := Claim7.holds Tryd.pinned (.plain (OpenSpec.upto feedPiecesSpec)) feedPiecesUptoCard

/-- THE SECOND FORM's CARD OF 'checkrolllaw04.FeedCounts'. -/
def feedCountsUptoCard : Claim7 := { stood := { row := feedCountsUptoRow, standIns := [], harness := (true, "01656666a4f9a0a737dd1a430c62b8b3504341188a418dffb37aa8854836a16b"), looks := true }, kinds := [], alts := [], laidByText := true, laidKinds := [.data, .data, .data, .sentinel, .sentinel], laidTests := true, laidLooks := .later }
def FeedCountsUptoCardSaid : Prop := Claim7.holds Tryd.pinned (.plain (OpenSpec.upto feedCountsSpec)) feedCountsUptoCard

/-- THE SECOND FORM's CARD OF 'checkrolllaw04.FeedJunk'. -/
def feedJunkUptoCard : Claim7 := { stood := { row := feedJunkUptoRow, standIns := [], harness := (true, "01656666a4f9a0a737dd1a430c62b8b3504341188a418dffb37aa8854836a16b"), looks := true }, kinds := [], alts := [], laidByText := true, laidKinds := [.data, .data, .data, .sentinel, .sentinel], laidTests := true, laidLooks := .later }
def FeedJunkUptoCardSaid : Prop := Claim7.holds Tryd.pinned (.plain (OpenSpec.upto feedJunkSpec)) feedJunkUptoCard
end Rows
end Go.Proofs.YtgiomlgkccjhfaaDoor
