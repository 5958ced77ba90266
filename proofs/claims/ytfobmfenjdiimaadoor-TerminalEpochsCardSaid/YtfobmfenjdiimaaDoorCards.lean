/-
  DERIVED. GIVEN WITH THE SEED: THE CARDS: each row of YtfobmfenjdiimaaDoorRows.lean that lists a variable, with what it lists TIED to the program's text (the seventh form; the later family's looks); each row that meets fmt, with fmt's text TOLD by the authors' own Lean function (tested against real Go, not proved from fmt's source: count such statements apart). THE CARD IS WHAT COUNTS. Prove the row's statement (the work); the ties are given (YtfobmfenjdiimaaDoorTie.lean); close each card by the builder's one call (the guide's Derived/Test/ToyasCard.lean, 'card_holds'). Laid BY PROGRAM, IN A SANDBOX (cutbox-door.mjs). By AI agents, Wed Nov 11 2026. No macro, syntax, notation, axiom, sorry.
-/
import Derived.Test.YtfobmfenjdiimaaDoorRows
import GoSem.ClaimSeven
namespace Go.Proofs.YtfobmfenjdiimaaDoor
namespace Rows

/-- THE TIED CARD OF 'replevinlaw36.TerminalValues'. -/
def terminalValuesCard : Claim7 := { stood := { row := terminalValuesRow, standIns := [], harness := (true, "8ab32587b7d34c024cf03b8c7a7d54a4212289ba008e7eec582e905d1c880b53"), looks := false }, kinds := [], alts := [], laidByText := true, laidKinds := [.data], laidTests := true, laidLooks := .later }
def TerminalValuesCardSaid : Prop := Claim7.holds Tryd.pinned (.plain (OpenSpec.ofChange terminalValuesSpec)) terminalValuesCard

/-- THE TIED CARD OF 'replevinlaw36.TerminalPlays'. -/
def terminalPlaysCard : Claim7 := { stood := { row := terminalPlaysRow, standIns := [], harness := (true, "8ab32587b7d34c024cf03b8c7a7d54a4212289ba008e7eec582e905d1c880b53"), looks := false }, kinds := [], alts := [], laidByText := true, laidKinds := [.data], laidTests := true, laidLooks := .later }
def TerminalPlaysCardSaid : Prop := Claim7.holds Tryd.pinned (.plain (OpenSpec.ofChange terminalPlaysSpec)) terminalPlaysCard

/-- THE TIED CARD OF 'replevinlaw36.TerminalEpochs'. -/
def terminalEpochsCard : Claim7 := { stood := { row := terminalEpochsRow, standIns := [], harness := (true, "8ab32587b7d34c024cf03b8c7a7d54a4212289ba008e7eec582e905d1c880b53"), looks := false }, kinds := [], alts := [], laidByText := true, laidKinds := [.data], laidTests := true, laidLooks := .later }
def TerminalEpochsCardSaid : Prop := Claim7.holds Tryd.pinned (.plain (OpenSpec.ofChange terminalEpochsSpec)) terminalEpochsCard

/-- THE SECOND FORM's CARD OF 'replevinlaw36.TerminalValues'. -/
def terminalValuesUptoCard : Claim7 := { stood := { row := terminalValuesUptoRow, standIns := [], harness := (true, "8ab32587b7d34c024cf03b8c7a7d54a4212289ba008e7eec582e905d1c880b53"), looks := false }, kinds := [], alts := [], laidByText := true, laidKinds := [.data], laidTests := true, laidLooks := .later }
def TerminalValuesUptoCardSaid : Prop := Claim7.holds Tryd.pinned (.plain (OpenSpec.upto terminalValuesSpec)) terminalValuesUptoCard

/-- THE SECOND FORM's CARD OF 'replevinlaw36.TerminalPlays'. -/
def terminalPlaysUptoCard : Claim7 := { stood := { row := terminalPlaysUptoRow, standIns := [], harness := (true, "8ab32587b7d34c024cf03b8c7a7d54a4212289ba008e7eec582e905d1c880b53"), looks := false }, kinds := [], alts := [], laidByText := true, laidKinds := [.data], laidTests := true, laidLooks := .later }
def TerminalPlaysUptoCardSaid : Prop := Claim7.holds Tryd.pinned (.plain (OpenSpec.upto terminalPlaysSpec)) terminalPlaysUptoCard

/-- THE SECOND FORM's CARD OF 'replevinlaw36.TerminalEpochs'. -/
def terminalEpochsUptoCard : Claim7 := { stood := { row := terminalEpochsUptoRow, standIns := [], harness := (true, "8ab32587b7d34c024cf03b8c7a7d54a4212289ba008e7eec582e905d1c880b53"), looks := false }, kinds := [], alts := [], laidByText := true, laidKinds := [.data], laidTests := true, laidLooks := .later }
def TerminalEpochsUptoCardSaid : Prop := Claim7.holds Tryd.pinned (.plain (OpenSpec.upto terminalEpochsSpec)) terminalEpochsUptoCard
end Rows
end Go.Proofs.YtfobmfenjdiimaaDoor
