/-
  DERIVED. GIVEN WITH THE SEED: THE CARDS: each row of YtpieaakdddgdeaaDoorRows.lean that lists a variable, with what it lists TIED to the program's text (the seventh form; the later family's looks); each row that meets fmt, with fmt's text TOLD by the authors' own Lean function (tested against real Go, not proved from fmt's source: count such statements apart). THE CARD IS WHAT COUNTS. Prove the row's statement (the work); the ties are given (YtpieaakdddgdeaaDoorTie.lean); close each card by the builder's one call (the guide's Derived/Test/ToyasCard.lean, 'card_holds'). Laid BY PROGRAM, IN A SANDBOX (cutbox-door.mjs). By AI agents, Wed Nov 11 2026. No macro, syntax, notation, axiom, sorry.
-/
import Derived.Test.YtpieaakdddgdeaaDoorRows
import GoSem.ClaimSeven
namespace Go.Proofs.YtpieaakdddgdeaaDoor
namespace Rows

/-- THE TIED CARD OF 'replevinlaw24.ViewLong'. -/
def viewLongCard : Claim7 := { stood := { row := viewLongRow, standIns := [], harness := (true, "eada2ad632b4a434159a8b9b72ead96e410f4546cd7c35ce123250e4cc44d643"), looks := true }, kinds := [], alts := [], laidByText := true, laidKinds := [.data], laidTests := true, laidLooks := .later }
def ViewLongCardSaid : Prop := Claim7.holds Tryd.pinned (.plain (OpenSpec.ofChange viewLongSpec)) viewLongCard

/-- THE TIED CARD OF 'replevinlaw24.ViewNil'. -/
def viewNilCard : Claim7 := { stood := { row := viewNilRow, standIns := [], harness := (true, "eada2ad632b4a434159a8b9b72ead96e410f4546cd7c35ce123250e4cc44d643"), looks := true }, kinds := [], alts := [], laidByText := true, laidKinds := [.data], laidTests := true, laidLooks := .later }
def ViewNilCardSaid : Prop := Claim7.holds Tryd.pinned (.plain (OpenSpec.ofChange viewNilSpec)) viewNilCard

/-- THE TIED CARD OF 'replevinlaw24.ViewAlone'. -/
def viewAloneCard : Claim7 := { stood := { row := viewAloneRow, standIns := [], harness := (true, "eada2ad632b4a434159a8b9b72ead96e410f4546cd7c35ce123250e4cc44d643"), looks := true }, kinds := [], alts := [], laidByText := true, laidKinds := [.data], laidTests := true, laidLooks := .later }
def ViewAloneCardSaid : Prop := Claim7.holds Tryd.pinned (.plain (OpenSpec.ofChange viewAloneSpec)) viewAloneCard

/-- THE TIED CARD OF 'replevinlaw24.ViewHolds'. -/
def viewHoldsCard : Claim7 := { stood := { row := viewHoldsRow, standIns := [], harness := (true, "eada2ad632b4a434159a8b9b72ead96e410f4546cd7c35ce123250e4cc44d643"), looks := true }, kinds := [], alts := [], laidByText := true, laidKinds := [.data], laidTests := true, laidLooks := .later }
def ViewHoldsCardSaid : Prop := Claim7.holds Tryd.pinned (.plain (OpenSpec.ofChange viewHoldsSpec)) viewHoldsCard

/-- THE SECOND FORM's CARD OF 'replevinlaw24.ViewLong'. -/
def viewLongUptoCard : Claim7 := { stood := { row := viewLongUptoRow, standIns := [], harness := (true, "eada2ad632b4a434159a8b9b72ead96e410f4546cd7c35ce123250e4cc44d643"), looks := true }, kinds := [], alts := [], laidByText := true, laidKinds := [.data], laidTests := true, laidLooks := .later }
def ViewLongUptoCardSaid : Prop := Claim7.holds Tryd.pinned (.plain (OpenSpec.upto viewLongSpec)) viewLongUptoCard

/-- THE SECOND FORM's CARD OF 'replevinlaw24.ViewNil'. -/
def viewNilUptoCard : Claim7 := { stood := { row := viewNilUptoRow, standIns := [], harness := (true, "eada2ad632b4a434159a8b9b72ead96e410f4546cd7c35ce123250e4cc44d643"), looks := true }, kinds := [], alts := [], laidByText := true, laidKinds := [.data], laidTests := true, laidLooks := .later }
def ViewNilUptoCardSaid : Prop := Claim7.holds Tryd.pinned (.plain (OpenSpec.upto viewNilSpec)) viewNilUptoCard

/-- THE SECOND FORM's CARD OF 'replevinlaw24.ViewAlone'. -/
def viewAloneUptoCard : Claim7 := { stood := { row := viewAloneUptoRow, standIns := [], harness := (true, "eada2ad632b4a434159a8b9b72ead96e410f4546cd7c35ce123250e4cc44d643"), looks := true }, kinds := [], alts := [], laidByText := true, laidKinds := [.data], laidTests := true, laidLooks := .later }
def ViewAloneUptoCardSaid : Prop := Claim7.holds Tryd.pinned (.plain (OpenSpec.upto viewAloneSpec)) viewAloneUptoCard

/-- THE SECOND FORM's CARD OF 'replevinlaw24.ViewHolds'. -/
def viewHoldsUptoCard : Claim7 := { stood := { row := viewHoldsUptoRow, standIns := [], harness := (true, "eada2ad632b4a434159a8b9b72ead96e410f4546cd7c35ce123250e4cc44d643"), looks := true }, kinds := [], alts := [], laidByText := true, laidKinds := [.data], laidTests := true, laidLooks := .later }
def ViewHoldsUptoCardSaid : Prop := Claim7.holds Tryd.pinned (.plain (OpenSpec.upto viewHoldsSpec)) viewHoldsUptoCard
end Rows
end Go.Proofs.YtpieaakdddgdeaaDoor
