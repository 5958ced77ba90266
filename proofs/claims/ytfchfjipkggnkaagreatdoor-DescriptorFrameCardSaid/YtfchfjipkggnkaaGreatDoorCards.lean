/-
  DERIVED. GIVEN WITH THE SEED: THE CARDS: each row of YtfchfjipkggnkaaGreatDoorRows.lean that lists a variable, with what it lists TIED to the program's text (the seventh form; the later family's looks); each row that meets fmt, with fmt's text TOLD by the authors' own Lean function (tested against real Go, not proved from fmt's source: count such statements apart). THE CARD IS WHAT COUNTS. Prove the row's statement (the work); the ties are given (YtfchfjipkggnkaaGreatDoorTie.lean); close each card by the builder's one call (the guide's Derived/Test/ToyasCard.lean, 'card_holds'). Laid BY PROGRAM, IN A SANDBOX (cutbox-door.mjs). By AI agents, Wed Nov 11 2026. No macro, syntax, notation, axiom, sorry.
-/
import Derived.Test.YtfchfjipkggnkaaGreatDoorRows
import GoSem.ClaimSeven
namespace Go.Proofs.YtfchfjipkggnkaaGreatDoor
namespace Rows

/-- THE TIED CARD OF 'replevinlaw31.DescriptorOperations'. -/
def descriptorOperationsCard : Claim7 := { stood := { row := descriptorOperationsRow, standIns := [], harness := (true, "42e99eb2b3ed2d1afe30af77f896d83cf96e1bad6eec2b1134812fe3a4411104"), looks := false }, kinds := [], alts := [], laidByText := true, laidKinds := [.data], laidTests := true, laidLooks := .later }
def DescriptorOperationsCardSaid : Prop := Claim7.holds Tryz.pinned (.plain (OpenSpec.ofChange descriptorOperationsSpec)) descriptorOperationsCard

/-- THE TIED CARD OF 'replevinlaw31.DescriptorCopies'. -/
def descriptorCopiesCard : Claim7 := { stood := { row := descriptorCopiesRow, standIns := [], harness := (true, "42e99eb2b3ed2d1afe30af77f896d83cf96e1bad6eec2b1134812fe3a4411104"), looks := false }, kinds := [], alts := [], laidByText := true, laidKinds := [.data], laidTests := true, laidLooks := .later }
def DescriptorCopiesCardSaid : Prop := Claim7.holds Tryz.pinned (.plain (OpenSpec.ofChange descriptorCopiesSpec)) descriptorCopiesCard

/-- THE TIED CARD OF 'replevinlaw31.DescriptorTouches'. -/
def descriptorTouchesCard : Claim7 := { stood := { row := descriptorTouchesRow, standIns := [], harness := (true, "42e99eb2b3ed2d1afe30af77f896d83cf96e1bad6eec2b1134812fe3a4411104"), looks := false }, kinds := [], alts := [], laidByText := true, laidKinds := [.data], laidTests := true, laidLooks := .later }
def DescriptorTouchesCardSaid : Prop := Claim7.holds Tryz.pinned (.plain (OpenSpec.ofChange descriptorTouchesSpec)) descriptorTouchesCard

/-- THE TIED CARD OF 'replevinlaw31.DescriptorFrame'. -/
def descriptorFrameCard : Claim7 := { stood := { row := descriptorFrameRow, standIns := [], harness := (true, "42e99eb2b3ed2d1afe30af77f896d83cf96e1bad6eec2b1134812fe3a4411104"), looks := false }, kinds := [], alts := [], laidByText := true, laidKinds := [.data], laidTests := true, laidLooks := .later }
def DescriptorFrameCardSaid : Prop := Claim7.holds Tryz.pinned (.plain (OpenSpec.ofChange descriptorFrameSpec)) descriptorFrameCard

/-- THE SECOND FORM's CARD OF 'replevinlaw31.DescriptorOperations'. -/
def descriptorOperationsUptoCard : Claim7 := { stood := { row := descriptorOperationsUptoRow, standIns := [], harness := (true, "42e99eb2b3ed2d1afe30af77f896d83cf96e1bad6eec2b1134812fe3a4411104"), looks := false }, kinds := [], alts := [], laidByText := true, laidKinds := [.data], laidTests := true, laidLooks := .later }
def DescriptorOperationsUptoCardSaid : Prop := Claim7.holds Tryz.pinned (.plain (OpenSpec.upto descriptorOperationsSpec)) descriptorOperationsUptoCard

/-- THE SECOND FORM's CARD OF 'replevinlaw31.DescriptorCopies'. -/
def descriptorCopiesUptoCard : Claim7 := { stood := { row := descriptorCopiesUptoRow, standIns := [], harness := (true, "42e99eb2b3ed2d1afe30af77f896d83cf96e1bad6eec2b1134812fe3a4411104"), looks := false }, kinds := [], alts := [], laidByText := true, laidKinds := [.data], laidTests := true, laidLooks := .later }
def DescriptorCopiesUptoCardSaid : Prop := Claim7.holds Tryz.pinned (.plain (OpenSpec.upto descriptorCopiesSpec)) descriptorCopiesUptoCard

/-- THE SECOND FORM's CARD OF 'replevinlaw31.DescriptorTouches'. -/
def descriptorTouchesUptoCard : Claim7 := { stood := { row := descriptorTouchesUptoRow, standIns := [], harness := (true, "42e99eb2b3ed2d1afe30af77f896d83cf96e1bad6eec2b1134812fe3a4411104"), looks := false }, kinds := [], alts := [], laidByText := true, laidKinds := [.data], laidTests := true, laidLooks := .later }
def DescriptorTouchesUptoCardSaid : Prop := Claim7.holds Tryz.pinned (.plain (OpenSpec.upto descriptorTouchesSpec)) descriptorTouchesUptoCard

/-- THE SECOND FORM's CARD OF 'replevinlaw31.DescriptorFrame'. -/
def descriptorFrameUptoCard : Claim7 := { stood := { row := descriptorFrameUptoRow, standIns := [], harness := (true, "42e99eb2b3ed2d1afe30af77f896d83cf96e1bad6eec2b1134812fe3a4411104"), looks := false }, kinds := [], alts := [], laidByText := true, laidKinds := [.data], laidTests := true, laidLooks := .later }
def DescriptorFrameUptoCardSaid : Prop := Claim7.holds Tryz.pinned (.plain (OpenSpec.upto descriptorFrameSpec)) descriptorFrameUptoCard
end Rows
end Go.Proofs.YtfchfjipkggnkaaGreatDoor
