/-
  DERIVED. GIVEN WITH THE SEED: THE CARDS: each row of YtfobmfenjdiimaaGreatDoorRows.lean that lists a variable, with what it lists TIED to the program's text (the seventh form; the later family's looks); each row that meets fmt, with fmt's text TOLD by the authors' own Lean function (tested against real Go, not proved from fmt's source: count such statements apart). THE CARD IS WHAT COUNTS. Prove the row's statement (the work); the ties are given (YtfobmfenjdiimaaGreatDoorTie.lean); close each card by the builder's one call (the guide's Derived/Test/ToyasCard.lean, 'card_holds'). Laid BY PROGRAM, IN A SANDBOX (cutbox-door.mjs). By AI agents, Wed Nov 11 2026. No macro, syntax, notation, axiom, sorry.
-/
import Derived.Test.YtfobmfenjdiimaaGreatDoorRows
import GoSem.ClaimSeven
namespace Go.Proofs.YtfobmfenjdiimaaGreatDoor
namespace Rows

/-- THE TIED CARD OF 'replevinlaw36.TerminalErrors'. -/
def terminalErrorsCard : Claim7 := { stood := { row := terminalErrorsRow, standIns := [], harness := (true, "77c2254947be53296b35e22cc4fa555d4dfb14a2395c50804b182d5690127c07"), looks := false }, kinds := [], alts := [], laidByText := true, laidKinds := [.data], laidTests := true, laidLooks := .later }
def TerminalErrorsCardSaid : Prop := Claim7.holds Tryz.pinned (.plain (OpenSpec.ofChange terminalErrorsSpec)) terminalErrorsCard

/-- THE TIED CARD OF 'replevinlaw36.TerminalFrame'. -/
def terminalFrameCard : Claim7 := { stood := { row := terminalFrameRow, standIns := [], harness := (true, "77c2254947be53296b35e22cc4fa555d4dfb14a2395c50804b182d5690127c07"), looks := false }, kinds := [], alts := [], laidByText := true, laidKinds := [.data], laidTests := true, laidLooks := .later }
def TerminalFrameCardSaid : Prop := Claim7.holds Tryz.pinned (.plain (OpenSpec.ofChange terminalFrameSpec)) terminalFrameCard

/-- THE SECOND FORM's CARD OF 'replevinlaw36.TerminalErrors'. -/
def terminalErrorsUptoCard : Claim7 := { stood := { row := terminalErrorsUptoRow, standIns := [], harness := (true, "77c2254947be53296b35e22cc4fa555d4dfb14a2395c50804b182d5690127c07"), looks := false }, kinds := [], alts := [], laidByText := true, laidKinds := [.data], laidTests := true, laidLooks := .later }
def TerminalErrorsUptoCardSaid : Prop := Claim7.holds Tryz.pinned (.plain (OpenSpec.upto terminalErrorsSpec)) terminalErrorsUptoCard

/-- THE SECOND FORM's CARD OF 'replevinlaw36.TerminalFrame'. -/
def terminalFrameUptoCard : Claim7 := { stood := { row := terminalFrameUptoRow, standIns := [], harness := (true, "77c2254947be53296b35e22cc4fa555d4dfb14a2395c50804b182d5690127c07"), looks := false }, kinds := [], alts := [], laidByText := true, laidKinds := [.data], laidTests := true, laidLooks := .later }
def TerminalFrameUptoCardSaid : Prop := Claim7.holds Tryz.pinned (.plain (OpenSpec.upto terminalFrameSpec)) terminalFrameUptoCard
end Rows
end Go.Proofs.YtfobmfenjdiimaaGreatDoor
