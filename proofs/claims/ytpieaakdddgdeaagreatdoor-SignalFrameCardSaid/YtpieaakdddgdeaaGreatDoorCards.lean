/-
  DERIVED. GIVEN WITH THE SEED: THE CARDS: each row of YtpieaakdddgdeaaGreatDoorRows.lean that lists a variable, with what it lists TIED to the program's text (the seventh form; the later family's looks); each row that meets fmt, with fmt's text TOLD by the authors' own Lean function (tested against real Go, not proved from fmt's source: count such statements apart). THE CARD IS WHAT COUNTS. Prove the row's statement (the work); the ties are given (YtpieaakdddgdeaaGreatDoorTie.lean); close each card by the builder's one call (the guide's Derived/Test/ToyasCard.lean, 'card_holds'). Laid BY PROGRAM, IN A SANDBOX (cutbox-door.mjs). By AI agents, Wed Nov 11 2026. No macro, syntax, notation, axiom, sorry.
-/
import Derived.Test.YtpieaakdddgdeaaGreatDoorRows
import GoSem.ClaimSeven
namespace Go.Proofs.YtpieaakdddgdeaaGreatDoor
namespace Rows

/-- THE TIED CARD OF 'replevinlaw33.SignalKills'. -/
def signalKillsCard : Claim7 := { stood := { row := signalKillsRow, standIns := [], harness := (true, "ad49006c7cc33bc73b8a2998d61fbba1c8b56cafa035bc476c8e79568f7fe759"), looks := true }, kinds := [], alts := [], laidByText := true, laidKinds := [.data], laidTests := true, laidLooks := .later }
def SignalKillsCardSaid : Prop := Claim7.holds Tryz.pinned (.plain (OpenSpec.ofChange signalKillsSpec)) signalKillsCard

/-- THE TIED CARD OF 'replevinlaw33.SignalBroken'. -/
def signalBrokenCard : Claim7 := { stood := { row := signalBrokenRow, standIns := [], harness := (true, "ad49006c7cc33bc73b8a2998d61fbba1c8b56cafa035bc476c8e79568f7fe759"), looks := true }, kinds := [], alts := [], laidByText := true, laidKinds := [.data], laidTests := true, laidLooks := .later }
def SignalBrokenCardSaid : Prop := Claim7.holds Tryz.pinned (.plain (OpenSpec.ofChange signalBrokenSpec)) signalBrokenCard

/-- THE TIED CARD OF 'replevinlaw33.SignalApart'. -/
def signalApartCard : Claim7 := { stood := { row := signalApartRow, standIns := [], harness := (true, "ad49006c7cc33bc73b8a2998d61fbba1c8b56cafa035bc476c8e79568f7fe759"), looks := true }, kinds := [], alts := [], laidByText := true, laidKinds := [.data], laidTests := true, laidLooks := .later }
def SignalApartCardSaid : Prop := Claim7.holds Tryz.pinned (.plain (OpenSpec.ofChange signalApartSpec)) signalApartCard

/-- THE TIED CARD OF 'replevinlaw33.SignalFrame'. -/
def signalFrameCard : Claim7 := { stood := { row := signalFrameRow, standIns := [], harness := (true, "ad49006c7cc33bc73b8a2998d61fbba1c8b56cafa035bc476c8e79568f7fe759"), looks := true }, kinds := [], alts := [], laidByText := true, laidKinds := [.data], laidTests := true, laidLooks := .later }
def SignalFrameCardSaid : Prop := Claim7.holds Tryz.pinned (.plain (OpenSpec.ofChange signalFrameSpec)) signalFrameCard

/-- THE TIED CARD OF 'replevinlaw24.ViewAfter'. -/
def viewAfterCard : Claim7 := { stood := { row := viewAfterRow, standIns := [], harness := (true, "ad49006c7cc33bc73b8a2998d61fbba1c8b56cafa035bc476c8e79568f7fe759"), looks := true }, kinds := [], alts := [], laidByText := true, laidKinds := [.data], laidTests := true, laidLooks := .later }
def ViewAfterCardSaid : Prop := Claim7.holds Tryz.pinned (.plain (OpenSpec.ofChange viewAfterSpec)) viewAfterCard

/-- THE TIED CARD OF 'replevinlaw24.ViewPlays'. -/
def viewPlaysCard : Claim7 := { stood := { row := viewPlaysRow, standIns := [], harness := (true, "ad49006c7cc33bc73b8a2998d61fbba1c8b56cafa035bc476c8e79568f7fe759"), looks := true }, kinds := [], alts := [], laidByText := true, laidKinds := [.data], laidTests := true, laidLooks := .later }
def ViewPlaysCardSaid : Prop := Claim7.holds Tryz.pinned (.plain (OpenSpec.ofChange viewPlaysSpec)) viewPlaysCard

/-- THE TIED CARD OF 'replevinlaw24.ViewFrame'. -/
def viewFrameCard : Claim7 := { stood := { row := viewFrameRow, standIns := [], harness := (true, "ad49006c7cc33bc73b8a2998d61fbba1c8b56cafa035bc476c8e79568f7fe759"), looks := true }, kinds := [], alts := [], laidByText := true, laidKinds := [.data], laidTests := true, laidLooks := .later }
def ViewFrameCardSaid : Prop := Claim7.holds Tryz.pinned (.plain (OpenSpec.ofChange viewFrameSpec)) viewFrameCard

/-- THE TIED CARD OF 'replevinlaw24.ViewClones'. -/
def viewClonesCard : Claim7 := { stood := { row := viewClonesRow, standIns := [], harness := (true, "ad49006c7cc33bc73b8a2998d61fbba1c8b56cafa035bc476c8e79568f7fe759"), looks := true }, kinds := [], alts := [], laidByText := true, laidKinds := [.data], laidTests := true, laidLooks := .later }
def ViewClonesCardSaid : Prop := Claim7.holds Tryz.pinned (.plain (OpenSpec.ofChange viewClonesSpec)) viewClonesCard

/-- THE SECOND FORM's CARD OF 'replevinlaw33.SignalKills'. -/
def signalKillsUptoCard : Claim7 := { stood := { row := signalKillsUptoRow, standIns := [], harness := (true, "ad49006c7cc33bc73b8a2998d61fbba1c8b56cafa035bc476c8e79568f7fe759"), looks := true }, kinds := [], alts := [], laidByText := true, laidKinds := [.data], laidTests := true, laidLooks := .later }
def SignalKillsUptoCardSaid : Prop := Claim7.holds Tryz.pinned (.plain (OpenSpec.upto signalKillsSpec)) signalKillsUptoCard

/-- THE SECOND FORM's CARD OF 'replevinlaw33.SignalBroken'. -/
def signalBrokenUptoCard : Claim7 := { stood := { row := signalBrokenUptoRow, standIns := [], harness := (true, "ad49006c7cc33bc73b8a2998d61fbba1c8b56cafa035bc476c8e79568f7fe759"), looks := true }, kinds := [], alts := [], laidByText := true, laidKinds := [.data], laidTests := true, laidLooks := .later }
def SignalBrokenUptoCardSaid : Prop := Claim7.holds Tryz.pinned (.plain (OpenSpec.upto signalBrokenSpec)) signalBrokenUptoCard

/-- THE SECOND FORM's CARD OF 'replevinlaw33.SignalApart'. -/
def signalApartUptoCard : Claim7 := { stood := { row := signalApartUptoRow, standIns := [], harness := (true, "ad49006c7cc33bc73b8a2998d61fbba1c8b56cafa035bc476c8e79568f7fe759"), looks := true }, kinds := [], alts := [], laidByText := true, laidKinds := [.data], laidTests := true, laidLooks := .later }
def SignalApartUptoCardSaid : Prop := Claim7.holds Tryz.pinned (.plain (OpenSpec.upto signalApartSpec)) signalApartUptoCard

/-- THE SECOND FORM's CARD OF 'replevinlaw33.SignalFrame'. -/
def signalFrameUptoCard : Claim7 := { stood := { row := signalFrameUptoRow, standIns := [], harness := (true, "ad49006c7cc33bc73b8a2998d61fbba1c8b56cafa035bc476c8e79568f7fe759"), looks := true }, kinds := [], alts := [], laidByText := true, laidKinds := [.data], laidTests := true, laidLooks := .later }
def SignalFrameUptoCardSaid : Prop := Claim7.holds Tryz.pinned (.plain (OpenSpec.upto signalFrameSpec)) signalFrameUptoCard

/-- THE SECOND FORM's CARD OF 'replevinlaw24.ViewAfter'. -/
def viewAfterUptoCard : Claim7 := { stood := { row := viewAfterUptoRow, standIns := [], harness := (true, "ad49006c7cc33bc73b8a2998d61fbba1c8b56cafa035bc476c8e79568f7fe759"), looks := true }, kinds := [], alts := [], laidByText := true, laidKinds := [.data], laidTests := true, laidLooks := .later }
def ViewAfterUptoCardSaid : Prop := Claim7.holds Tryz.pinned (.plain (OpenSpec.upto viewAfterSpec)) viewAfterUptoCard

/-- THE SECOND FORM's CARD OF 'replevinlaw24.ViewPlays'. -/
def viewPlaysUptoCard : Claim7 := { stood := { row := viewPlaysUptoRow, standIns := [], harness := (true, "ad49006c7cc33bc73b8a2998d61fbba1c8b56cafa035bc476c8e79568f7fe759"), looks := true }, kinds := [], alts := [], laidByText := true, laidKinds := [.data], laidTests := true, laidLooks := .later }
def ViewPlaysUptoCardSaid : Prop := Claim7.holds Tryz.pinned (.plain (OpenSpec.upto viewPlaysSpec)) viewPlaysUptoCard

/-- THE SECOND FORM's CARD OF 'replevinlaw24.ViewFrame'. -/
def viewFrameUptoCard : Claim7 := { stood := { row := viewFrameUptoRow, standIns := [], harness := (true, "ad49006c7cc33bc73b8a2998d61fbba1c8b56cafa035bc476c8e79568f7fe759"), looks := true }, kinds := [], alts := [], laidByText := true, laidKinds := [.data], laidTests := true, laidLooks := .later }
def ViewFrameUptoCardSaid : Prop := Claim7.holds Tryz.pinned (.plain (OpenSpec.upto viewFrameSpec)) viewFrameUptoCard

/-- THE SECOND FORM's CARD OF 'replevinlaw24.ViewClones'. -/
def viewClonesUptoCard : Claim7 := { stood := { row := viewClonesUptoRow, standIns := [], harness := (true, "ad49006c7cc33bc73b8a2998d61fbba1c8b56cafa035bc476c8e79568f7fe759"), looks := true }, kinds := [], alts := [], laidByText := true, laidKinds := [.data], laidTests := true, laidLooks := .later }
def ViewClonesUptoCardSaid : Prop := Claim7.holds Tryz.pinned (.plain (OpenSpec.upto viewClonesSpec)) viewClonesUptoCard
end Rows
end Go.Proofs.YtpieaakdddgdeaaGreatDoor
