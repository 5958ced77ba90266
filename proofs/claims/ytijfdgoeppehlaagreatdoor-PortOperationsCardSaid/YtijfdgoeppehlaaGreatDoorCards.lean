/-
  DERIVED. GIVEN WITH THE SEED: THE CARDS: each row of YtijfdgoeppehlaaGreatDoorRows.lean that lists a variable, with what it lists TIED to the program's text (the seventh form; the later family's looks); each row that meets fmt, with fmt's text TOLD by the authors' own Lean function (tested against real Go, not proved from fmt's source: count such statements apart). THE CARD IS WHAT COUNTS. Prove the row's statement (the work); the ties are given (YtijfdgoeppehlaaGreatDoorTie.lean); close each card by the builder's one call (the guide's Derived/Test/ToyasCard.lean, 'card_holds'). Laid BY PROGRAM, IN A SANDBOX (cutbox-door.mjs). By AI agents, Wed Nov 11 2026. No macro, syntax, notation, axiom, sorry.
-/
import Derived.Test.YtijfdgoeppehlaaGreatDoorRows
import GoSem.ClaimSeven
namespace Go.Proofs.YtijfdgoeppehlaaGreatDoor
namespace Rows

/-- THE TIED CARD OF 'replevinlaw37.PortOperations'. -/
def portOperationsCard : Claim7 := { stood := { row := portOperationsRow, standIns := [], harness := (true, "df67d0d5d741395e06d209161d21e19e9367c8a0cfcffc552ce177b2607c9460"), looks := false }, kinds := [], alts := [], laidByText := true, laidKinds := [.data], laidTests := true, laidLooks := .later }
def PortOperationsCardSaid : Prop := Claim7.holds Tryz.pinned (.plain (OpenSpec.ofChange portOperationsSpec)) portOperationsCard

/-- THE TIED CARD OF 'replevinlaw37.PortFrame'. -/
def portFrameCard : Claim7 := { stood := { row := portFrameRow, standIns := [], harness := (true, "df67d0d5d741395e06d209161d21e19e9367c8a0cfcffc552ce177b2607c9460"), looks := false }, kinds := [], alts := [], laidByText := true, laidKinds := [.data], laidTests := true, laidLooks := .later }
def PortFrameCardSaid : Prop := Claim7.holds Tryz.pinned (.plain (OpenSpec.ofChange portFrameSpec)) portFrameCard

/-- THE TIED CARD OF 'replevinlaw37.PortApart'. -/
def portApartCard : Claim7 := { stood := { row := portApartRow, standIns := [], harness := (true, "df67d0d5d741395e06d209161d21e19e9367c8a0cfcffc552ce177b2607c9460"), looks := false }, kinds := [], alts := [], laidByText := true, laidKinds := [.data], laidTests := true, laidLooks := .later }
def PortApartCardSaid : Prop := Claim7.holds Tryz.pinned (.plain (OpenSpec.ofChange portApartSpec)) portApartCard

/-- THE SECOND FORM's CARD OF 'replevinlaw37.PortOperations'. -/
def portOperationsUptoCard : Claim7 := { stood := { row := portOperationsUptoRow, standIns := [], harness := (true, "df67d0d5d741395e06d209161d21e19e9367c8a0cfcffc552ce177b2607c9460"), looks := false }, kinds := [], alts := [], laidByText := true, laidKinds := [.data], laidTests := true, laidLooks := .later }
def PortOperationsUptoCardSaid : Prop := Claim7.holds Tryz.pinned (.plain (OpenSpec.upto portOperationsSpec)) portOperationsUptoCard

/-- THE SECOND FORM's CARD OF 'replevinlaw37.PortFrame'. -/
def portFrameUptoCard : Claim7 := { stood := { row := portFrameUptoRow, standIns := [], harness := (true, "df67d0d5d741395e06d209161d21e19e9367c8a0cfcffc552ce177b2607c9460"), looks := false }, kinds := [], alts := [], laidByText := true, laidKinds := [.data], laidTests := true, laidLooks := .later }
def PortFrameUptoCardSaid : Prop := Claim7.holds Tryz.pinned (.plain (OpenSpec.upto portFrameSpec)) portFrameUptoCard

/-- THE SECOND FORM's CARD OF 'replevinlaw37.PortApart'. -/
def portApartUptoCard : Claim7 := { stood := { row := portApartUptoRow, standIns := [], harness := (true, "df67d0d5d741395e06d209161d21e19e9367c8a0cfcffc552ce177b2607c9460"), looks := false }, kinds := [], alts := [], laidByText := true, laidKinds := [.data], laidTests := true, laidLooks := .later }
def PortApartUptoCardSaid : Prop := Claim7.holds Tryz.pinned (.plain (OpenSpec.upto portApartSpec)) portApartUptoCard
end Rows
end Go.Proofs.YtijfdgoeppehlaaGreatDoor
