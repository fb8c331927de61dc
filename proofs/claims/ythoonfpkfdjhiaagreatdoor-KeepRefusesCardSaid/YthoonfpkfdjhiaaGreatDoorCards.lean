/-
  DERIVED. GIVEN WITH THE SEED: THE CARDS: each row of YthoonfpkfdjhiaaGreatDoorRows.lean that lists a variable, with what it lists TIED to the program's text (the seventh form; the later family's looks); each row that meets fmt, with fmt's text TOLD by the authors' own Lean function (tested against real Go, not proved from fmt's source: count such statements apart). THE CARD IS WHAT COUNTS. Prove the row's statement (the work); the ties are given (YthoonfpkfdjhiaaGreatDoorTie.lean); close each card by the builder's one call (the guide's Derived/Test/ToyasCard.lean, 'card_holds'). Laid BY PROGRAM, IN A SANDBOX (cutbox-door.mjs). By AI agents, Wed Nov 11 2026. No macro, syntax, notation, axiom, sorry.
-/
import Derived.Test.YthoonfpkfdjhiaaGreatDoorRows
import GoSem.ClaimSeven
namespace Go.Proofs.YthoonfpkfdjhiaaGreatDoor
namespace Rows

/-- THE TIED CARD OF 'checkrolllaw20.KeepBytes'. -/
def keepBytesCard : Claim7 := { stood := { row := keepBytesRow, standIns := [], harness := (true, "874fc322b83f7c233c8c347370abc95ec4ec228b0a56714442bc15a45488558d"), looks := true }, kinds := [], alts := [], laidByText := true, laidKinds := [.data, .data, .data, .data, .sentinel, .sentinel, .pinned], laidTests := true, laidLooks := .later }
def KeepBytesCardSaid : Prop := Claim7.holds Tryz.pinned (.plain (OpenSpec.ofChange keepBytesSpec)) keepBytesCard

/-- THE TIED CARD OF 'checkrolllaw20.KeepRecovers'. -/
def keepRecoversCard : Claim7 := { stood := { row := keepRecoversRow, standIns := [], harness := (true, "874fc322b83f7c233c8c347370abc95ec4ec228b0a56714442bc15a45488558d"), looks := true }, kinds := [], alts := [], laidByText := true, laidKinds := [.data, .data, .data, .data, .sentinel, .sentinel, .pinned], laidTests := true, laidLooks := .later }
def KeepRecoversCardSaid : Prop := Claim7.holds Tryz.pinned (.plain (OpenSpec.ofChange keepRecoversSpec)) keepRecoversCard

/-- THE TIED CARD OF 'checkrolllaw20.KeepRaw'. -/
def keepRawCard : Claim7 := { stood := { row := keepRawRow, standIns := [], harness := (true, "874fc322b83f7c233c8c347370abc95ec4ec228b0a56714442bc15a45488558d"), looks := true }, kinds := [], alts := [], laidByText := true, laidKinds := [.data, .data, .data, .data, .sentinel, .sentinel, .pinned], laidTests := true, laidLooks := .later }
def KeepRawCardSaid : Prop := Claim7.holds Tryz.pinned (.plain (OpenSpec.ofChange keepRawSpec)) keepRawCard

/-- THE TIED CARD OF 'checkrolllaw20.KeepRefuses'. -/
def keepRefusesCard : Claim7 := { stood := { row := keepRefusesRow, standIns := [], harness := (true, "874fc322b83f7c233c8c347370abc95ec4ec228b0a56714442bc15a45488558d"), looks := true }, kinds := [], alts := [], laidByText := true, laidKinds := [.data, .data, .data, .data, .sentinel, .sentinel, .pinned], laidTests := true, laidLooks := .later }
def KeepRefusesCardSaid : Prop := Claim7.holds Tryz.pinned (.plain (OpenSpec.ofChange keepRefusesSpec)) keepRefusesCard

/-- THE SECOND FORM's CARD OF 'checkrolllaw20.KeepBytes'. -/
def keepBytesUptoCard : Claim7 := { stood := { row := keepBytesUptoRow, standIns := [], harness := (true, "874fc322b83f7c233c8c347370abc95ec4ec228b0a56714442bc15a45488558d"), looks := true }, kinds := [], alts := [], laidByText := true, laidKinds := [.data, .data, .data, .data, .sentinel, .sentinel, .pinned], laidTests := true, laidLooks := .later }
def KeepBytesUptoCardSaid : Prop := Claim7.holds Tryz.pinned (.plain (OpenSpec.upto keepBytesSpec)) keepBytesUptoCard

/-- THE SECOND FORM's CARD OF 'checkrolllaw20.KeepRecovers'. -/
def keepRecoversUptoCard : Claim7 := { stood := { row := keepRecoversUptoRow, standIns := [], harness := (true, "874fc322b83f7c233c8c347370abc95ec4ec228b0a56714442bc15a45488558d"), looks := true }, kinds := [], alts := [], laidByText := true, laidKinds := [.data, .data, .data, .data, .sentinel, .sentinel, .pinned], laidTests := true, laidLooks := .later }
def KeepRecoversUptoCardSaid : Prop := Claim7.holds Tryz.pinned (.plain (OpenSpec.upto keepRecoversSpec)) keepRecoversUptoCard

/-- THE SECOND FORM's CARD OF 'checkrolllaw20.KeepRaw'. -/
def keepRawUptoCard : Claim7 := { stood := { row := keepRawUptoRow, standIns := [], harness := (true, "874fc322b83f7c233c8c347370abc95ec4ec228b0a56714442bc15a45488558d"), looks := true }, kinds := [], alts := [], laidByText := true, laidKinds := [.data, .data, .data, .data, .sentinel, .sentinel, .pinned], laidTests := true, laidLooks := .later }
def KeepRawUptoCardSaid : Prop := Claim7.holds Tryz.pinned (.plain (OpenSpec.upto keepRawSpec)) keepRawUptoCard

/-- THE SECOND FORM's CARD OF 'checkrolllaw20.KeepRefuses'. -/
def keepRefusesUptoCard : Claim7 := { stood := { row := keepRefusesUptoRow, standIns := [], harness := (true, "874fc322b83f7c233c8c347370abc95ec4ec228b0a56714442bc15a45488558d"), looks := true }, kinds := [], alts := [], laidByText := true, laidKinds := [.data, .data, .data, .data, .sentinel, .sentinel, .pinned], laidTests := true, laidLooks := .later }
def KeepRefusesUptoCardSaid : Prop := Claim7.holds Tryz.pinned (.plain (OpenSpec.upto keepRefusesSpec)) keepRefusesUptoCard
end Rows
end Go.Proofs.YthoonfpkfdjhiaaGreatDoor
