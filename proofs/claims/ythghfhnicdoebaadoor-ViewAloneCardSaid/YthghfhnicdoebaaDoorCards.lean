/-
  DERIVED. GIVEN WITH THE SEED: THE CARDS: each row of YthghfhnicdoebaaDoorRows.lean that lists a variable, with what it lists TIED to the program's text (the seventh form; the later family's looks); each row that meets fmt, with fmt's text TOLD by the authors' own Lean function (tested against real Go, not proved from fmt's source: count such statements apart). THE CARD IS WHAT COUNTS. Prove the row's statement (the work); the ties are given (YthghfhnicdoebaaDoorTie.lean); close each card by the builder's one call (the guide's Derived/Test/ToyasCard.lean, 'card_holds'). Laid BY PROGRAM, IN A SANDBOX (cutbox-door.mjs). By AI agents, Wed Nov 11 2026. No macro, syntax, notation, axiom, sorry.
-/
import Derived.Test.YthghfhnicdoebaaDoorRows
import GoSem.ClaimSeven
namespace Go.Proofs.YthghfhnicdoebaaDoor
namespace Rows

/-- THE TIED CARD OF 'replevinlaw24.ViewAlone'. -/
def viewAloneCard : Claim7 := { stood := { row := viewAloneRow, standIns := [], harness := (true, "de4dac450b0334b032a8235efb4aa6b1510397ccf46b95dad7e73d5d0e81d679"), looks := false }, kinds := [], alts := [], laidByText := true, laidKinds := [.data], laidTests := true, laidLooks := .later }
def ViewAloneCardSaid : Prop := Claim7.holds Tryd.pinned (.plain (OpenSpec.ofChange viewAloneSpec)) viewAloneCard

/-- THE TIED CARD OF 'replevinlaw24.ViewHolds'. -/
def viewHoldsCard : Claim7 := { stood := { row := viewHoldsRow, standIns := [], harness := (true, "de4dac450b0334b032a8235efb4aa6b1510397ccf46b95dad7e73d5d0e81d679"), looks := false }, kinds := [], alts := [], laidByText := true, laidKinds := [.data], laidTests := true, laidLooks := .later }
def ViewHoldsCardSaid : Prop := Claim7.holds Tryd.pinned (.plain (OpenSpec.ofChange viewHoldsSpec)) viewHoldsCard

/-- THE SECOND FORM's CARD OF 'replevinlaw24.ViewAlone'. -/
def viewAloneUptoCard : Claim7 := { stood := { row := viewAloneUptoRow, standIns := [], harness := (true, "de4dac450b0334b032a8235efb4aa6b1510397ccf46b95dad7e73d5d0e81d679"), looks := false }, kinds := [], alts := [], laidByText := true, laidKinds := [.data], laidTests := true, laidLooks := .later }
def ViewAloneUptoCardSaid : Prop := Claim7.holds Tryd.pinned (.plain (OpenSpec.upto viewAloneSpec)) viewAloneUptoCard

/-- THE SECOND FORM's CARD OF 'replevinlaw24.ViewHolds'. -/
def viewHoldsUptoCard : Claim7 := { stood := { row := viewHoldsUptoRow, standIns := [], harness := (true, "de4dac450b0334b032a8235efb4aa6b1510397ccf46b95dad7e73d5d0e81d679"), looks := false }, kinds := [], alts := [], laidByText := true, laidKinds := [.data], laidTests := true, laidLooks := .later }
def ViewHoldsUptoCardSaid : Prop := Claim7.holds Tryd.pinned (.plain (OpenSpec.upto viewHoldsSpec)) viewHoldsUptoCard
end Rows
end Go.Proofs.YthghfhnicdoebaaDoor
