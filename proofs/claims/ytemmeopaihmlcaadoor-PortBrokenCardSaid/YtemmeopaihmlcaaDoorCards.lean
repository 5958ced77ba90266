/-
  DERIVED. GIVEN WITH THE SEED: THE CARDS: each row of YtemmeopaihmlcaaDoorRows.lean that lists a variable, with what it lists TIED to the program's text (the seventh form; the later family's looks); each row that meets fmt, with fmt's text TOLD by the authors' own Lean function (tested against real Go, not proved from fmt's source: count such statements apart). THE CARD IS WHAT COUNTS. Prove the row's statement (the work); the ties are given (YtemmeopaihmlcaaDoorTie.lean); close each card by the builder's one call (the guide's Derived/Test/ToyasCard.lean, 'card_holds'). Laid BY PROGRAM, IN A SANDBOX (cutbox-door.mjs). By AI agents, Wed Nov 11 2026. No macro, syntax, notation, axiom, sorry.
-/
import Derived.Test.YtemmeopaihmlcaaDoorRows
import GoSem.ClaimSeven
namespace Go.Proofs.YtemmeopaihmlcaaDoor
namespace Rows

/-- THE TIED CARD OF 'replevinlaw33.SignalFamily'. -/
def signalFamilyCard : Claim7 := { stood := { row := signalFamilyRow, standIns := [], harness := (true, "1a7f79c3567ea1f190481cd504b9625dd9b3a2416cf9b7e338402552df7ebabe"), looks := false }, kinds := [], alts := [], laidByText := true, laidKinds := [.data], laidTests := true, laidLooks := .later }
def SignalFamilyCardSaid : Prop := Claim7.holds Tryd.pinned (.plain (OpenSpec.ofChange signalFamilySpec)) signalFamilyCard

/-- THE TIED CARD OF 'replevinlaw33.SignalNil'. -/
def signalNilCard : Claim7 := { stood := { row := signalNilRow, standIns := [], harness := (true, "1a7f79c3567ea1f190481cd504b9625dd9b3a2416cf9b7e338402552df7ebabe"), looks := false }, kinds := [], alts := [], laidByText := true, laidKinds := [.data], laidTests := true, laidLooks := .later }
def SignalNilCardSaid : Prop := Claim7.holds Tryd.pinned (.plain (OpenSpec.ofChange signalNilSpec)) signalNilCard

/-- THE TIED CARD OF 'replevinlaw37.PortBroken'. -/
def portBrokenCard : Claim7 := { stood := { row := portBrokenRow, standIns := [], harness := (true, "1a7f79c3567ea1f190481cd504b9625dd9b3a2416cf9b7e338402552df7ebabe"), looks := false }, kinds := [], alts := [], laidByText := true, laidKinds := [.data], laidTests := true, laidLooks := .later }
def PortBrokenCardSaid : Prop := Claim7.holds Tryd.pinned (.plain (OpenSpec.ofChange portBrokenSpec)) portBrokenCard

/-- THE SECOND FORM's CARD OF 'replevinlaw33.SignalFamily'. -/
def signalFamilyUptoCard : Claim7 := { stood := { row := signalFamilyUptoRow, standIns := [], harness := (true, "1a7f79c3567ea1f190481cd504b9625dd9b3a2416cf9b7e338402552df7ebabe"), looks := false }, kinds := [], alts := [], laidByText := true, laidKinds := [.data], laidTests := true, laidLooks := .later }
def SignalFamilyUptoCardSaid : Prop := Claim7.holds Tryd.pinned (.plain (OpenSpec.upto signalFamilySpec)) signalFamilyUptoCard

/-- THE SECOND FORM's CARD OF 'replevinlaw33.SignalNil'. -/
def signalNilUptoCard : Claim7 := { stood := { row := signalNilUptoRow, standIns := [], harness := (true, "1a7f79c3567ea1f190481cd504b9625dd9b3a2416cf9b7e338402552df7ebabe"), looks := false }, kinds := [], alts := [], laidByText := true, laidKinds := [.data], laidTests := true, laidLooks := .later }
def SignalNilUptoCardSaid : Prop := Claim7.holds Tryd.pinned (.plain (OpenSpec.upto signalNilSpec)) signalNilUptoCard

/-- THE SECOND FORM's CARD OF 'replevinlaw37.PortBroken'. -/
def portBrokenUptoCard : Claim7 := { stood := { row := portBrokenUptoRow, standIns := [], harness := (true, "1a7f79c3567ea1f190481cd504b9625dd9b3a2416cf9b7e338402552df7ebabe"), looks := false }, kinds := [], alts := [], laidByText := true, laidKinds := [.data], laidTests := true, laidLooks := .later }
def PortBrokenUptoCardSaid : Prop := Claim7.holds Tryd.pinned (.plain (OpenSpec.upto portBrokenSpec)) portBrokenUptoCard
end Rows
end Go.Proofs.YtemmeopaihmlcaaDoor
