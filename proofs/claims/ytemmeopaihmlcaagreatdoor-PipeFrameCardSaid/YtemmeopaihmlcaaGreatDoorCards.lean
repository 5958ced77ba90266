/-
  DERIVED. GIVEN WITH THE SEED: THE CARDS: each row of YtemmeopaihmlcaaGreatDoorRows.lean that lists a variable, with what it lists TIED to the program's text (the seventh form; the later family's looks); each row that meets fmt, with fmt's text TOLD by the authors' own Lean function (tested against real Go, not proved from fmt's source: count such statements apart). THE CARD IS WHAT COUNTS. Prove the row's statement (the work); the ties are given (YtemmeopaihmlcaaGreatDoorTie.lean); close each card by the builder's one call (the guide's Derived/Test/ToyasCard.lean, 'card_holds'). Laid BY PROGRAM, IN A SANDBOX (cutbox-door.mjs). By AI agents, Wed Nov 11 2026. No macro, syntax, notation, axiom, sorry.
-/
import Derived.Test.YtemmeopaihmlcaaGreatDoorRows
import GoSem.ClaimSeven
namespace Go.Proofs.YtemmeopaihmlcaaGreatDoor
namespace Rows

/-- THE TIED CARD OF 'replevinlaw33.SignalBroken'. -/
def signalBrokenCard : Claim7 := { stood := { row := signalBrokenRow, standIns := [], harness := (true, "0534ace771743a07a1e7011dec22e31612c061090b0b021dee376be901858a43"), looks := false }, kinds := [], alts := [], laidByText := true, laidKinds := [.data], laidTests := true, laidLooks := .later }
def SignalBrokenCardSaid : Prop := Claim7.holds Tryz.pinned (.plain (OpenSpec.ofChange signalBrokenSpec)) signalBrokenCard

/-- THE TIED CARD OF 'replevinlaw33.SignalKills'. -/
def signalKillsCard : Claim7 := { stood := { row := signalKillsRow, standIns := [], harness := (true, "0534ace771743a07a1e7011dec22e31612c061090b0b021dee376be901858a43"), looks := false }, kinds := [], alts := [], laidByText := true, laidKinds := [.data], laidTests := true, laidLooks := .later }
def SignalKillsCardSaid : Prop := Claim7.holds Tryz.pinned (.plain (OpenSpec.ofChange signalKillsSpec)) signalKillsCard

/-- THE TIED CARD OF 'replevinlaw33.SignalApart'. -/
def signalApartCard : Claim7 := { stood := { row := signalApartRow, standIns := [], harness := (true, "0534ace771743a07a1e7011dec22e31612c061090b0b021dee376be901858a43"), looks := false }, kinds := [], alts := [], laidByText := true, laidKinds := [.data], laidTests := true, laidLooks := .later }
def SignalApartCardSaid : Prop := Claim7.holds Tryz.pinned (.plain (OpenSpec.ofChange signalApartSpec)) signalApartCard

/-- THE TIED CARD OF 'replevinlaw32.PipeErrors'. -/
def pipeErrorsCard : Claim7 := { stood := { row := pipeErrorsRow, standIns := [], harness := (true, "0534ace771743a07a1e7011dec22e31612c061090b0b021dee376be901858a43"), looks := false }, kinds := [], alts := [], laidByText := true, laidKinds := [.data], laidTests := true, laidLooks := .later }
def PipeErrorsCardSaid : Prop := Claim7.holds Tryz.pinned (.plain (OpenSpec.ofChange pipeErrorsSpec)) pipeErrorsCard

/-- THE TIED CARD OF 'replevinlaw32.PipePlays'. -/
def pipePlaysCard : Claim7 := { stood := { row := pipePlaysRow, standIns := [], harness := (true, "0534ace771743a07a1e7011dec22e31612c061090b0b021dee376be901858a43"), looks := false }, kinds := [], alts := [], laidByText := true, laidKinds := [.data], laidTests := true, laidLooks := .later }
def PipePlaysCardSaid : Prop := Claim7.holds Tryz.pinned (.plain (OpenSpec.ofChange pipePlaysSpec)) pipePlaysCard

/-- THE TIED CARD OF 'replevinlaw32.PipeDrains'. -/
def pipeDrainsCard : Claim7 := { stood := { row := pipeDrainsRow, standIns := [], harness := (true, "0534ace771743a07a1e7011dec22e31612c061090b0b021dee376be901858a43"), looks := false }, kinds := [], alts := [], laidByText := true, laidKinds := [.data], laidTests := true, laidLooks := .later }
def PipeDrainsCardSaid : Prop := Claim7.holds Tryz.pinned (.plain (OpenSpec.ofChange pipeDrainsSpec)) pipeDrainsCard

/-- THE TIED CARD OF 'replevinlaw32.PipeFrame'. -/
def pipeFrameCard : Claim7 := { stood := { row := pipeFrameRow, standIns := [], harness := (true, "0534ace771743a07a1e7011dec22e31612c061090b0b021dee376be901858a43"), looks := false }, kinds := [], alts := [], laidByText := true, laidKinds := [.data], laidTests := true, laidLooks := .later }
def PipeFrameCardSaid : Prop := Claim7.holds Tryz.pinned (.plain (OpenSpec.ofChange pipeFrameSpec)) pipeFrameCard

/-- THE TIED CARD OF 'replevinlaw36.TerminalErrors'. -/
def terminalErrorsCard : Claim7 := { stood := { row := terminalErrorsRow, standIns := [], harness := (true, "0534ace771743a07a1e7011dec22e31612c061090b0b021dee376be901858a43"), looks := false }, kinds := [], alts := [], laidByText := true, laidKinds := [.data], laidTests := true, laidLooks := .later }
def TerminalErrorsCardSaid : Prop := Claim7.holds Tryz.pinned (.plain (OpenSpec.ofChange terminalErrorsSpec)) terminalErrorsCard

/-- THE TIED CARD OF 'replevinlaw36.TerminalFrame'. -/
def terminalFrameCard : Claim7 := { stood := { row := terminalFrameRow, standIns := [], harness := (true, "0534ace771743a07a1e7011dec22e31612c061090b0b021dee376be901858a43"), looks := false }, kinds := [], alts := [], laidByText := true, laidKinds := [.data], laidTests := true, laidLooks := .later }
def TerminalFrameCardSaid : Prop := Claim7.holds Tryz.pinned (.plain (OpenSpec.ofChange terminalFrameSpec)) terminalFrameCard

/-- THE SECOND FORM's CARD OF 'replevinlaw33.SignalBroken'. -/
def signalBrokenUptoCard : Claim7 := { stood := { row := signalBrokenUptoRow, standIns := [], harness := (true, "0534ace771743a07a1e7011dec22e31612c061090b0b021dee376be901858a43"), looks := false }, kinds := [], alts := [], laidByText := true, laidKinds := [.data], laidTests := true, laidLooks := .later }
def SignalBrokenUptoCardSaid : Prop := Claim7.holds Tryz.pinned (.plain (OpenSpec.upto signalBrokenSpec)) signalBrokenUptoCard

/-- THE SECOND FORM's CARD OF 'replevinlaw33.SignalKills'. -/
def signalKillsUptoCard : Claim7 := { stood := { row := signalKillsUptoRow, standIns := [], harness := (true, "0534ace771743a07a1e7011dec22e31612c061090b0b021dee376be901858a43"), looks := false }, kinds := [], alts := [], laidByText := true, laidKinds := [.data], laidTests := true, laidLooks := .later }
def SignalKillsUptoCardSaid : Prop := Claim7.holds Tryz.pinned (.plain (OpenSpec.upto signalKillsSpec)) signalKillsUptoCard

/-- THE SECOND FORM's CARD OF 'replevinlaw33.SignalApart'. -/
def signalApartUptoCard : Claim7 := { stood := { row := signalApartUptoRow, standIns := [], harness := (true, "0534ace771743a07a1e7011dec22e31612c061090b0b021dee376be901858a43"), looks := false }, kinds := [], alts := [], laidByText := true, laidKinds := [.data], laidTests := true, laidLooks := .later }
def SignalApartUptoCardSaid : Prop := Claim7.holds Tryz.pinned (.plain (OpenSpec.upto signalApartSpec)) signalApartUptoCard

/-- THE SECOND FORM's CARD OF 'replevinlaw32.PipeErrors'. -/
def pipeErrorsUptoCard : Claim7 := { stood := { row := pipeErrorsUptoRow, standIns := [], harness := (true, "0534ace771743a07a1e7011dec22e31612c061090b0b021dee376be901858a43"), looks := false }, kinds := [], alts := [], laidByText := true, laidKinds := [.data], laidTests := true, laidLooks := .later }
def PipeErrorsUptoCardSaid : Prop := Claim7.holds Tryz.pinned (.plain (OpenSpec.upto pipeErrorsSpec)) pipeErrorsUptoCard

/-- THE SECOND FORM's CARD OF 'replevinlaw32.PipePlays'. -/
def pipePlaysUptoCard : Claim7 := { stood := { row := pipePlaysUptoRow, standIns := [], harness := (true, "0534ace771743a07a1e7011dec22e31612c061090b0b021dee376be901858a43"), looks := false }, kinds := [], alts := [], laidByText := true, laidKinds := [.data], laidTests := true, laidLooks := .later }
def PipePlaysUptoCardSaid : Prop := Claim7.holds Tryz.pinned (.plain (OpenSpec.upto pipePlaysSpec)) pipePlaysUptoCard

/-- THE SECOND FORM's CARD OF 'replevinlaw32.PipeDrains'. -/
def pipeDrainsUptoCard : Claim7 := { stood := { row := pipeDrainsUptoRow, standIns := [], harness := (true, "0534ace771743a07a1e7011dec22e31612c061090b0b021dee376be901858a43"), looks := false }, kinds := [], alts := [], laidByText := true, laidKinds := [.data], laidTests := true, laidLooks := .later }
def PipeDrainsUptoCardSaid : Prop := Claim7.holds Tryz.pinned (.plain (OpenSpec.upto pipeDrainsSpec)) pipeDrainsUptoCard

/-- THE SECOND FORM's CARD OF 'replevinlaw32.PipeFrame'. -/
def pipeFrameUptoCard : Claim7 := { stood := { row := pipeFrameUptoRow, standIns := [], harness := (true, "0534ace771743a07a1e7011dec22e31612c061090b0b021dee376be901858a43"), looks := false }, kinds := [], alts := [], laidByText := true, laidKinds := [.data], laidTests := true, laidLooks := .later }
def PipeFrameUptoCardSaid : Prop := Claim7.holds Tryz.pinned (.plain (OpenSpec.upto pipeFrameSpec)) pipeFrameUptoCard

/-- THE SECOND FORM's CARD OF 'replevinlaw36.TerminalErrors'. -/
def terminalErrorsUptoCard : Claim7 := { stood := { row := terminalErrorsUptoRow, standIns := [], harness := (true, "0534ace771743a07a1e7011dec22e31612c061090b0b021dee376be901858a43"), looks := false }, kinds := [], alts := [], laidByText := true, laidKinds := [.data], laidTests := true, laidLooks := .later }
def TerminalErrorsUptoCardSaid : Prop := Claim7.holds Tryz.pinned (.plain (OpenSpec.upto terminalErrorsSpec)) terminalErrorsUptoCard

/-- THE SECOND FORM's CARD OF 'replevinlaw36.TerminalFrame'. -/
def terminalFrameUptoCard : Claim7 := { stood := { row := terminalFrameUptoRow, standIns := [], harness := (true, "0534ace771743a07a1e7011dec22e31612c061090b0b021dee376be901858a43"), looks := false }, kinds := [], alts := [], laidByText := true, laidKinds := [.data], laidTests := true, laidLooks := .later }
def TerminalFrameUptoCardSaid : Prop := Claim7.holds Tryz.pinned (.plain (OpenSpec.upto terminalFrameSpec)) terminalFrameUptoCard
end Rows
end Go.Proofs.YtemmeopaihmlcaaGreatDoor
