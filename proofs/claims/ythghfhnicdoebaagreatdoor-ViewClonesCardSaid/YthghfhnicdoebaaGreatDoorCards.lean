/-
  DERIVED. GIVEN WITH THE SEED: THE CARDS: each row of YthghfhnicdoebaaGreatDoorRows.lean that lists a variable, with what it lists TIED to the program's text (the seventh form; the later family's looks); each row that meets fmt, with fmt's text TOLD by the authors' own Lean function (tested against real Go, not proved from fmt's source: count such statements apart). THE CARD IS WHAT COUNTS. Prove the row's statement (the work); the ties are given (YthghfhnicdoebaaGreatDoorTie.lean); close each card by the builder's one call (the guide's Derived/Test/ToyasCard.lean, 'card_holds'). Laid BY PROGRAM, IN A SANDBOX (cutbox-door.mjs). By AI agents, Wed Nov 11 2026. No macro, syntax, notation, axiom, sorry.
-/
import Derived.Test.YthghfhnicdoebaaGreatDoorRows
import GoSem.ClaimSeven
namespace Go.Proofs.YthghfhnicdoebaaGreatDoor
namespace Rows

/-- THE TIED CARD OF 'replevinlaw24.ViewPlays'. -/
def viewPlaysCard : Claim7 := { stood := { row := viewPlaysRow, standIns := [], harness := (true, "1ac2e61239d566898c965f1ca67dc2d1d93b7cf3289ff9ba47414c8d44f39d5f"), looks := true }, kinds := [], alts := [], laidByText := true, laidKinds := [.data], laidTests := true, laidLooks := .later }
def ViewPlaysCardSaid : Prop := Claim7.holds Tryz.pinned (.plain (OpenSpec.ofChange viewPlaysSpec)) viewPlaysCard

/-- THE TIED CARD OF 'replevinlaw24.ViewFrame'. -/
def viewFrameCard : Claim7 := { stood := { row := viewFrameRow, standIns := [], harness := (true, "1ac2e61239d566898c965f1ca67dc2d1d93b7cf3289ff9ba47414c8d44f39d5f"), looks := true }, kinds := [], alts := [], laidByText := true, laidKinds := [.data], laidTests := true, laidLooks := .later }
def ViewFrameCardSaid : Prop := Claim7.holds Tryz.pinned (.plain (OpenSpec.ofChange viewFrameSpec)) viewFrameCard

/-- THE TIED CARD OF 'replevinlaw24.ViewAfter'. -/
def viewAfterCard : Claim7 := { stood := { row := viewAfterRow, standIns := [], harness := (true, "1ac2e61239d566898c965f1ca67dc2d1d93b7cf3289ff9ba47414c8d44f39d5f"), looks := true }, kinds := [], alts := [], laidByText := true, laidKinds := [.data], laidTests := true, laidLooks := .later }
def ViewAfterCardSaid : Prop := Claim7.holds Tryz.pinned (.plain (OpenSpec.ofChange viewAfterSpec)) viewAfterCard

/-- THE TIED CARD OF 'replevinlaw24.ViewClones'. -/
def viewClonesCard : Claim7 := { stood := { row := viewClonesRow, standIns := [], harness := (true, "1ac2e61239d566898c965f1ca67dc2d1d93b7cf3289ff9ba47414c8d44f39d5f"), looks := true }, kinds := [], alts := [], laidByText := true, laidKinds := [.data], laidTests := true, laidLooks := .later }
def ViewClonesCardSaid : Prop := Claim7.holds Tryz.pinned (.plain (OpenSpec.ofChange viewClonesSpec)) viewClonesCard

/-- THE SECOND FORM's CARD OF 'replevinlaw24.ViewPlays'. -/
def viewPlaysUptoCard : Claim7 := { stood := { row := viewPlaysUptoRow, standIns := [], harness := (true, "1ac2e61239d566898c965f1ca67dc2d1d93b7cf3289ff9ba47414c8d44f39d5f"), looks := true }, kinds := [], alts := [], laidByText := true, laidKinds := [.data], laidTests := true, laidLooks := .later }
def ViewPlaysUptoCardSaid : Prop := Claim7.holds Tryz.pinned (.plain (OpenSpec.upto viewPlaysSpec)) viewPlaysUptoCard

/-- THE SECOND FORM's CARD OF 'replevinlaw24.ViewFrame'. -/
def viewFrameUptoCard : Claim7 := { stood := { row := viewFrameUptoRow, standIns := [], harness := (true, "1ac2e61239d566898c965f1ca67dc2d1d93b7cf3289ff9ba47414c8d44f39d5f"), looks := true }, kinds := [], alts := [], laidByText := true, laidKinds := [.data], laidTests := true, laidLooks := .later }
def ViewFrameUptoCardSaid : Prop := Claim7.holds Tryz.pinned (.plain (OpenSpec.upto viewFrameSpec)) viewFrameUptoCard

/-- THE SECOND FORM's CARD OF 'replevinlaw24.ViewAfter'. -/
def viewAfterUptoCard : Claim7 := { stood := { row := viewAfterUptoRow, standIns := [], harness := (true, "1ac2e61239d566898c965f1ca67dc2d1d93b7cf3289ff9ba47414c8d44f39d5f"), looks := true }, kinds := [], alts := [], laidByText := true, laidKinds := [.data], laidTests := true, laidLooks := .later }
def ViewAfterUptoCardSaid : Prop := Claim7.holds Tryz.pinned (.plain (OpenSpec.upto viewAfterSpec)) viewAfterUptoCard

/-- THE SECOND FORM's CARD OF 'replevinlaw24.ViewClones'. -/
def viewClonesUptoCard : Claim7 := { stood := { row := viewClonesUptoRow, standIns := [], harness := (true, "1ac2e61239d566898c965f1ca67dc2d1d93b7cf3289ff9ba47414c8d44f39d5f"), looks := true }, kinds := [], alts := [], laidByText := true, laidKinds := [.data], laidTests := true, laidLooks := .later }
def ViewClonesUptoCardSaid : Prop := Claim7.holds Tryz.pinned (.plain (OpenSpec.upto viewClonesSpec)) viewClonesUptoCard
end Rows
end Go.Proofs.YthghfhnicdoebaaGreatDoor
