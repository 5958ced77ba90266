/-
  DERIVED. GIVEN WITH THE SEED: THE CARDS: each row of YtmknhokjpmjkkaaDoorRows.lean that lists a variable, with what it lists TIED to the program's text (the seventh form; the later family's looks); each row that meets fmt, with fmt's text TOLD by the authors' own Lean function (tested against real Go, not proved from fmt's source: count such statements apart). THE CARD IS WHAT COUNTS. Prove the row's statement (the work); the ties are given (YtmknhokjpmjkkaaDoorTie.lean); close each card by the builder's one call (the guide's Derived/Test/ToyasCard.lean, 'card_holds'). Laid BY PROGRAM, IN A SANDBOX (cutbox-door.mjs). By AI agents, Wed Nov 11 2026. No macro, syntax, notation, axiom, sorry.
-/
import Derived.Test.YtmknhokjpmjkkaaDoorRows
import GoSem.ClaimSeven
namespace Go.Proofs.YtmknhokjpmjkkaaDoor
namespace Rows

/-- THE TIED CARD OF 'replevinlaw36.TerminalLines'. -/
def terminalLinesCard : Claim7 := { stood := { row := terminalLinesRow, standIns := [], harness := (true, "edd344190412a1687c425bbe9d37fafe71f5855810d2916c5b6c66256a3479b3"), looks := false }, kinds := [], alts := [], laidByText := true, laidKinds := [.data], laidTests := true, laidLooks := .later }
def TerminalLinesCardSaid : Prop := Claim7.holds Tryd.pinned (.plain (OpenSpec.ofChange terminalLinesSpec)) terminalLinesCard

/-- THE TIED CARD OF 'replevinlaw33.SignalChecks'. -/
def signalChecksCard : Claim7 := { stood := { row := signalChecksRow, standIns := [], harness := (true, "edd344190412a1687c425bbe9d37fafe71f5855810d2916c5b6c66256a3479b3"), looks := false }, kinds := [], alts := [], laidByText := true, laidKinds := [.data], laidTests := true, laidLooks := .later }
def SignalChecksCardSaid : Prop := Claim7.holds Tryd.pinned (.plain (OpenSpec.ofChange signalChecksSpec)) signalChecksCard

/-- THE TIED CARD OF 'replevinlaw33.SignalDecodes'. -/
def signalDecodesCard : Claim7 := { stood := { row := signalDecodesRow, standIns := [], harness := (true, "edd344190412a1687c425bbe9d37fafe71f5855810d2916c5b6c66256a3479b3"), looks := false }, kinds := [], alts := [], laidByText := true, laidKinds := [.data], laidTests := true, laidLooks := .later }
def SignalDecodesCardSaid : Prop := Claim7.holds Tryd.pinned (.plain (OpenSpec.ofChange signalDecodesSpec)) signalDecodesCard

/-- THE TIED CARD OF 'replevinlaw36.TerminalSessions'. -/
def terminalSessionsCard : Claim7 := { stood := { row := terminalSessionsRow, standIns := [], harness := (true, "edd344190412a1687c425bbe9d37fafe71f5855810d2916c5b6c66256a3479b3"), looks := false }, kinds := [], alts := [], laidByText := true, laidKinds := [.data], laidTests := true, laidLooks := .later }
def TerminalSessionsCardSaid : Prop := Claim7.holds Tryd.pinned (.plain (OpenSpec.ofChange terminalSessionsSpec)) terminalSessionsCard

/-- THE TIED CARD OF 'replevinlaw36.TerminalValues'. -/
def terminalValuesCard : Claim7 := { stood := { row := terminalValuesRow, standIns := [], harness := (true, "edd344190412a1687c425bbe9d37fafe71f5855810d2916c5b6c66256a3479b3"), looks := false }, kinds := [], alts := [], laidByText := true, laidKinds := [.data], laidTests := true, laidLooks := .later }
def TerminalValuesCardSaid : Prop := Claim7.holds Tryd.pinned (.plain (OpenSpec.ofChange terminalValuesSpec)) terminalValuesCard

/-- THE TIED CARD OF 'replevinlaw32.PipeValues'. -/
def pipeValuesCard : Claim7 := { stood := { row := pipeValuesRow, standIns := [], harness := (true, "edd344190412a1687c425bbe9d37fafe71f5855810d2916c5b6c66256a3479b3"), looks := false }, kinds := [], alts := [], laidByText := true, laidKinds := [.data], laidTests := true, laidLooks := .later }
def PipeValuesCardSaid : Prop := Claim7.holds Tryd.pinned (.plain (OpenSpec.ofChange pipeValuesSpec)) pipeValuesCard

/-- THE TIED CARD OF 'replevinlaw32.PipeBusy'. -/
def pipeBusyCard : Claim7 := { stood := { row := pipeBusyRow, standIns := [], harness := (true, "edd344190412a1687c425bbe9d37fafe71f5855810d2916c5b6c66256a3479b3"), looks := false }, kinds := [], alts := [], laidByText := true, laidKinds := [.data], laidTests := true, laidLooks := .later }
def PipeBusyCardSaid : Prop := Claim7.holds Tryd.pinned (.plain (OpenSpec.ofChange pipeBusySpec)) pipeBusyCard

/-- THE TIED CARD OF 'replevinlaw36.TerminalScreen'. -/
def terminalScreenCard : Claim7 := { stood := { row := terminalScreenRow, standIns := [], harness := (true, "edd344190412a1687c425bbe9d37fafe71f5855810d2916c5b6c66256a3479b3"), looks := false }, kinds := [], alts := [], laidByText := true, laidKinds := [.data], laidTests := true, laidLooks := .later }
def TerminalScreenCardSaid : Prop := Claim7.holds Tryd.pinned (.plain (OpenSpec.ofChange terminalScreenSpec)) terminalScreenCard

/-- THE TIED CARD OF 'replevinlaw32.PipeOrder'. -/
def pipeOrderCard : Claim7 := { stood := { row := pipeOrderRow, standIns := [], harness := (true, "edd344190412a1687c425bbe9d37fafe71f5855810d2916c5b6c66256a3479b3"), looks := false }, kinds := [], alts := [], laidByText := true, laidKinds := [.data], laidTests := true, laidLooks := .later }
def PipeOrderCardSaid : Prop := Claim7.holds Tryd.pinned (.plain (OpenSpec.ofChange pipeOrderSpec)) pipeOrderCard

/-- THE TIED CARD OF 'replevinlaw32.PipeEnds'. -/
def pipeEndsCard : Claim7 := { stood := { row := pipeEndsRow, standIns := [], harness := (true, "edd344190412a1687c425bbe9d37fafe71f5855810d2916c5b6c66256a3479b3"), looks := false }, kinds := [], alts := [], laidByText := true, laidKinds := [.data], laidTests := true, laidLooks := .later }
def PipeEndsCardSaid : Prop := Claim7.holds Tryd.pinned (.plain (OpenSpec.ofChange pipeEndsSpec)) pipeEndsCard

/-- THE TIED CARD OF 'replevinlaw36.TerminalPlays'. -/
def terminalPlaysCard : Claim7 := { stood := { row := terminalPlaysRow, standIns := [], harness := (true, "edd344190412a1687c425bbe9d37fafe71f5855810d2916c5b6c66256a3479b3"), looks := false }, kinds := [], alts := [], laidByText := true, laidKinds := [.data], laidTests := true, laidLooks := .later }
def TerminalPlaysCardSaid : Prop := Claim7.holds Tryd.pinned (.plain (OpenSpec.ofChange terminalPlaysSpec)) terminalPlaysCard

/-- THE TIED CARD OF 'replevinlaw36.TerminalEpochs'. -/
def terminalEpochsCard : Claim7 := { stood := { row := terminalEpochsRow, standIns := [], harness := (true, "edd344190412a1687c425bbe9d37fafe71f5855810d2916c5b6c66256a3479b3"), looks := false }, kinds := [], alts := [], laidByText := true, laidKinds := [.data], laidTests := true, laidLooks := .later }
def TerminalEpochsCardSaid : Prop := Claim7.holds Tryd.pinned (.plain (OpenSpec.ofChange terminalEpochsSpec)) terminalEpochsCard

/-- THE SECOND FORM's CARD OF 'replevinlaw36.TerminalLines'. -/
def terminalLinesUptoCard : Claim7 := { stood := { row := terminalLinesUptoRow, standIns := [], harness := (true, "edd344190412a1687c425bbe9d37fafe71f5855810d2916c5b6c66256a3479b3"), looks := false }, kinds := [], alts := [], laidByText := true, laidKinds := [.data], laidTests := true, laidLooks := .later }
def TerminalLinesUptoCardSaid : Prop := Claim7.holds Tryd.pinned (.plain (OpenSpec.upto terminalLinesSpec)) terminalLinesUptoCard

/-- THE SECOND FORM's CARD OF 'replevinlaw33.SignalChecks'. -/
def signalChecksUptoCard : Claim7 := { stood := { row := signalChecksUptoRow, standIns := [], harness := (true, "edd344190412a1687c425bbe9d37fafe71f5855810d2916c5b6c66256a3479b3"), looks := false }, kinds := [], alts := [], laidByText := true, laidKinds := [.data], laidTests := true, laidLooks := .later }
def SignalChecksUptoCardSaid : Prop := Claim7.holds Tryd.pinned (.plain (OpenSpec.upto signalChecksSpec)) signalChecksUptoCard

/-- THE SECOND FORM's CARD OF 'replevinlaw33.SignalDecodes'. -/
def signalDecodesUptoCard : Claim7 := { stood := { row := signalDecodesUptoRow, standIns := [], harness := (true, "edd344190412a1687c425bbe9d37fafe71f5855810d2916c5b6c66256a3479b3"), looks := false }, kinds := [], alts := [], laidByText := true, laidKinds := [.data], laidTests := true, laidLooks := .later }
def SignalDecodesUptoCardSaid : Prop := Claim7.holds Tryd.pinned (.plain (OpenSpec.upto signalDecodesSpec)) signalDecodesUptoCard

/-- THE SECOND FORM's CARD OF 'replevinlaw36.TerminalSessions'. -/
def terminalSessionsUptoCard : Claim7 := { stood := { row := terminalSessionsUptoRow, standIns := [], harness := (true, "edd344190412a1687c425bbe9d37fafe71f5855810d2916c5b6c66256a3479b3"), looks := false }, kinds := [], alts := [], laidByText := true, laidKinds := [.data], laidTests := true, laidLooks := .later }
def TerminalSessionsUptoCardSaid : Prop := Claim7.holds Tryd.pinned (.plain (OpenSpec.upto terminalSessionsSpec)) terminalSessionsUptoCard

/-- THE SECOND FORM's CARD OF 'replevinlaw36.TerminalValues'. -/
def terminalValuesUptoCard : Claim7 := { stood := { row := terminalValuesUptoRow, standIns := [], harness := (true, "edd344190412a1687c425bbe9d37fafe71f5855810d2916c5b6c66256a3479b3"), looks := false }, kinds := [], alts := [], laidByText := true, laidKinds := [.data], laidTests := true, laidLooks := .later }
def TerminalValuesUptoCardSaid : Prop := Claim7.holds Tryd.pinned (.plain (OpenSpec.upto terminalValuesSpec)) terminalValuesUptoCard

/-- THE SECOND FORM's CARD OF 'replevinlaw32.PipeValues'. -/
def pipeValuesUptoCard : Claim7 := { stood := { row := pipeValuesUptoRow, standIns := [], harness := (true, "edd344190412a1687c425bbe9d37fafe71f5855810d2916c5b6c66256a3479b3"), looks := false }, kinds := [], alts := [], laidByText := true, laidKinds := [.data], laidTests := true, laidLooks := .later }
def PipeValuesUptoCardSaid : Prop := Claim7.holds Tryd.pinned (.plain (OpenSpec.upto pipeValuesSpec)) pipeValuesUptoCard

/-- THE SECOND FORM's CARD OF 'replevinlaw32.PipeBusy'. -/
def pipeBusyUptoCard : Claim7 := { stood := { row := pipeBusyUptoRow, standIns := [], harness := (true, "edd344190412a1687c425bbe9d37fafe71f5855810d2916c5b6c66256a3479b3"), looks := false }, kinds := [], alts := [], laidByText := true, laidKinds := [.data], laidTests := true, laidLooks := .later }
def PipeBusyUptoCardSaid : Prop := Claim7.holds Tryd.pinned (.plain (OpenSpec.upto pipeBusySpec)) pipeBusyUptoCard

/-- THE SECOND FORM's CARD OF 'replevinlaw36.TerminalScreen'. -/
def terminalScreenUptoCard : Claim7 := { stood := { row := terminalScreenUptoRow, standIns := [], harness := (true, "edd344190412a1687c425bbe9d37fafe71f5855810d2916c5b6c66256a3479b3"), looks := false }, kinds := [], alts := [], laidByText := true, laidKinds := [.data], laidTests := true, laidLooks := .later }
def TerminalScreenUptoCardSaid : Prop := Claim7.holds Tryd.pinned (.plain (OpenSpec.upto terminalScreenSpec)) terminalScreenUptoCard

/-- THE SECOND FORM's CARD OF 'replevinlaw32.PipeOrder'. -/
def pipeOrderUptoCard : Claim7 := { stood := { row := pipeOrderUptoRow, standIns := [], harness := (true, "edd344190412a1687c425bbe9d37fafe71f5855810d2916c5b6c66256a3479b3"), looks := false }, kinds := [], alts := [], laidByText := true, laidKinds := [.data], laidTests := true, laidLooks := .later }
def PipeOrderUptoCardSaid : Prop := Claim7.holds Tryd.pinned (.plain (OpenSpec.upto pipeOrderSpec)) pipeOrderUptoCard

/-- THE SECOND FORM's CARD OF 'replevinlaw32.PipeEnds'. -/
def pipeEndsUptoCard : Claim7 := { stood := { row := pipeEndsUptoRow, standIns := [], harness := (true, "edd344190412a1687c425bbe9d37fafe71f5855810d2916c5b6c66256a3479b3"), looks := false }, kinds := [], alts := [], laidByText := true, laidKinds := [.data], laidTests := true, laidLooks := .later }
def PipeEndsUptoCardSaid : Prop := Claim7.holds Tryd.pinned (.plain (OpenSpec.upto pipeEndsSpec)) pipeEndsUptoCard

/-- THE SECOND FORM's CARD OF 'replevinlaw36.TerminalPlays'. -/
def terminalPlaysUptoCard : Claim7 := { stood := { row := terminalPlaysUptoRow, standIns := [], harness := (true, "edd344190412a1687c425bbe9d37fafe71f5855810d2916c5b6c66256a3479b3"), looks := false }, kinds := [], alts := [], laidByText := true, laidKinds := [.data], laidTests := true, laidLooks := .later }
def TerminalPlaysUptoCardSaid : Prop := Claim7.holds Tryd.pinned (.plain (OpenSpec.upto terminalPlaysSpec)) terminalPlaysUptoCard

/-- THE SECOND FORM's CARD OF 'replevinlaw36.TerminalEpochs'. -/
def terminalEpochsUptoCard : Claim7 := { stood := { row := terminalEpochsUptoRow, standIns := [], harness := (true, "edd344190412a1687c425bbe9d37fafe71f5855810d2916c5b6c66256a3479b3"), looks := false }, kinds := [], alts := [], laidByText := true, laidKinds := [.data], laidTests := true, laidLooks := .later }
def TerminalEpochsUptoCardSaid : Prop := Claim7.holds Tryd.pinned (.plain (OpenSpec.upto terminalEpochsSpec)) terminalEpochsUptoCard
end Rows
end Go.Proofs.YtmknhokjpmjkkaaDoor
