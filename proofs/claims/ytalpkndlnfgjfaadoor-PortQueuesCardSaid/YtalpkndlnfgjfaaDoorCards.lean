/-
  DERIVED. GIVEN WITH THE SEED: THE CARDS: each row of YtalpkndlnfgjfaaDoorRows.lean that lists a variable, with what it lists TIED to the program's text (the seventh form; the later family's looks); each row that meets fmt, with fmt's text TOLD by the authors' own Lean function (tested against real Go, not proved from fmt's source: count such statements apart). THE CARD IS WHAT COUNTS. Prove the row's statement (the work); the ties are given (YtalpkndlnfgjfaaDoorTie.lean); close each card by the builder's one call (the guide's Derived/Test/ToyasCard.lean, 'card_holds'). Laid BY PROGRAM, IN A SANDBOX (cutbox-door.mjs). By AI agents, Wed Nov 11 2026. No macro, syntax, notation, axiom, sorry.
-/
import Derived.Test.YtalpkndlnfgjfaaDoorRows
import GoSem.ClaimSeven
namespace Go.Proofs.YtalpkndlnfgjfaaDoor
namespace Rows

/-- THE TIED CARD OF 'replevinlaw37.PortEncodes'. -/
def portEncodesCard : Claim7 := { stood := { row := portEncodesRow, standIns := [], harness := (true, "2db442c1c83d2fb2ac71cb2262cb34bef2270abccc14f0886a14320ccf3743c6"), looks := false }, kinds := [], alts := [], laidByText := true, laidKinds := [.data], laidTests := true, laidLooks := .later }
def PortEncodesCardSaid : Prop := Claim7.holds Tryd.pinned (.plain (OpenSpec.ofChange portEncodesSpec)) portEncodesCard

/-- THE TIED CARD OF 'replevinlaw37.PortDecodes'. -/
def portDecodesCard : Claim7 := { stood := { row := portDecodesRow, standIns := [], harness := (true, "2db442c1c83d2fb2ac71cb2262cb34bef2270abccc14f0886a14320ccf3743c6"), looks := false }, kinds := [], alts := [], laidByText := true, laidKinds := [.data], laidTests := true, laidLooks := .later }
def PortDecodesCardSaid : Prop := Claim7.holds Tryd.pinned (.plain (OpenSpec.ofChange portDecodesSpec)) portDecodesCard

/-- THE TIED CARD OF 'replevinlaw37.PortQueues'. -/
def portQueuesCard : Claim7 := { stood := { row := portQueuesRow, standIns := [], harness := (true, "2db442c1c83d2fb2ac71cb2262cb34bef2270abccc14f0886a14320ccf3743c6"), looks := false }, kinds := [], alts := [], laidByText := true, laidKinds := [.data], laidTests := true, laidLooks := .later }
def PortQueuesCardSaid : Prop := Claim7.holds Tryd.pinned (.plain (OpenSpec.ofChange portQueuesSpec)) portQueuesCard

/-- THE TIED CARD OF 'replevinlaw37.PortEpochs'. -/
def portEpochsCard : Claim7 := { stood := { row := portEpochsRow, standIns := [], harness := (true, "2db442c1c83d2fb2ac71cb2262cb34bef2270abccc14f0886a14320ccf3743c6"), looks := false }, kinds := [], alts := [], laidByText := true, laidKinds := [.data], laidTests := true, laidLooks := .later }
def PortEpochsCardSaid : Prop := Claim7.holds Tryd.pinned (.plain (OpenSpec.ofChange portEpochsSpec)) portEpochsCard

/-- THE TIED CARD OF 'replevinlaw37.PortNil'. -/
def portNilCard : Claim7 := { stood := { row := portNilRow, standIns := [], harness := (true, "2db442c1c83d2fb2ac71cb2262cb34bef2270abccc14f0886a14320ccf3743c6"), looks := false }, kinds := [], alts := [], laidByText := true, laidKinds := [.data], laidTests := true, laidLooks := .later }
def PortNilCardSaid : Prop := Claim7.holds Tryd.pinned (.plain (OpenSpec.ofChange portNilSpec)) portNilCard

/-- THE TIED CARD OF 'replevinlaw37.PortBroken'. -/
def portBrokenCard : Claim7 := { stood := { row := portBrokenRow, standIns := [], harness := (true, "2db442c1c83d2fb2ac71cb2262cb34bef2270abccc14f0886a14320ccf3743c6"), looks := false }, kinds := [], alts := [], laidByText := true, laidKinds := [.data], laidTests := true, laidLooks := .later }
def PortBrokenCardSaid : Prop := Claim7.holds Tryd.pinned (.plain (OpenSpec.ofChange portBrokenSpec)) portBrokenCard

/-- THE SECOND FORM's CARD OF 'replevinlaw37.PortEncodes'. -/
def portEncodesUptoCard : Claim7 := { stood := { row := portEncodesUptoRow, standIns := [], harness := (true, "2db442c1c83d2fb2ac71cb2262cb34bef2270abccc14f0886a14320ccf3743c6"), looks := false }, kinds := [], alts := [], laidByText := true, laidKinds := [.data], laidTests := true, laidLooks := .later }
def PortEncodesUptoCardSaid : Prop := Claim7.holds Tryd.pinned (.plain (OpenSpec.upto portEncodesSpec)) portEncodesUptoCard

/-- THE SECOND FORM's CARD OF 'replevinlaw37.PortDecodes'. -/
def portDecodesUptoCard : Claim7 := { stood := { row := portDecodesUptoRow, standIns := [], harness := (true, "2db442c1c83d2fb2ac71cb2262cb34bef2270abccc14f0886a14320ccf3743c6"), looks := false }, kinds := [], alts := [], laidByText := true, laidKinds := [.data], laidTests := true, laidLooks := .later }
def PortDecodesUptoCardSaid : Prop := Claim7.holds Tryd.pinned (.plain (OpenSpec.upto portDecodesSpec)) portDecodesUptoCard

/-- THE SECOND FORM's CARD OF 'replevinlaw37.PortQueues'. -/
def portQueuesUptoCard : Claim7 := { stood := { row := portQueuesUptoRow, standIns := [], harness := (true, "2db442c1c83d2fb2ac71cb2262cb34bef2270abccc14f0886a14320ccf3743c6"), looks := false }, kinds := [], alts := [], laidByText := true, laidKinds := [.data], laidTests := true, laidLooks := .later }
def PortQueuesUptoCardSaid : Prop := Claim7.holds Tryd.pinned (.plain (OpenSpec.upto portQueuesSpec)) portQueuesUptoCard

/-- THE SECOND FORM's CARD OF 'replevinlaw37.PortEpochs'. -/
def portEpochsUptoCard : Claim7 := { stood := { row := portEpochsUptoRow, standIns := [], harness := (true, "2db442c1c83d2fb2ac71cb2262cb34bef2270abccc14f0886a14320ccf3743c6"), looks := false }, kinds := [], alts := [], laidByText := true, laidKinds := [.data], laidTests := true, laidLooks := .later }
def PortEpochsUptoCardSaid : Prop := Claim7.holds Tryd.pinned (.plain (OpenSpec.upto portEpochsSpec)) portEpochsUptoCard

/-- THE SECOND FORM's CARD OF 'replevinlaw37.PortNil'. -/
def portNilUptoCard : Claim7 := { stood := { row := portNilUptoRow, standIns := [], harness := (true, "2db442c1c83d2fb2ac71cb2262cb34bef2270abccc14f0886a14320ccf3743c6"), looks := false }, kinds := [], alts := [], laidByText := true, laidKinds := [.data], laidTests := true, laidLooks := .later }
def PortNilUptoCardSaid : Prop := Claim7.holds Tryd.pinned (.plain (OpenSpec.upto portNilSpec)) portNilUptoCard

/-- THE SECOND FORM's CARD OF 'replevinlaw37.PortBroken'. -/
def portBrokenUptoCard : Claim7 := { stood := { row := portBrokenUptoRow, standIns := [], harness := (true, "2db442c1c83d2fb2ac71cb2262cb34bef2270abccc14f0886a14320ccf3743c6"), looks := false }, kinds := [], alts := [], laidByText := true, laidKinds := [.data], laidTests := true, laidLooks := .later }
def PortBrokenUptoCardSaid : Prop := Claim7.holds Tryd.pinned (.plain (OpenSpec.upto portBrokenSpec)) portBrokenUptoCard
end Rows
end Go.Proofs.YtalpkndlnfgjfaaDoor
