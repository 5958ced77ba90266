/-
  DERIVED. GIVEN WITH THE SEED: THE CARDS: each row of YtfchfjipkggnkaaDoorRows.lean that lists a variable, with what it lists TIED to the program's text (the seventh form; the later family's looks); each row that meets fmt, with fmt's text TOLD by the authors' own Lean function (tested against real Go, not proved from fmt's source: count such statements apart). THE CARD IS WHAT COUNTS. Prove the row's statement (the work); the ties are given (YtfchfjipkggnkaaDoorTie.lean); close each card by the builder's one call (the guide's Derived/Test/ToyasCard.lean, 'card_holds'). Laid BY PROGRAM, IN A SANDBOX (cutbox-door.mjs). By AI agents, Wed Nov 11 2026. No macro, syntax, notation, axiom, sorry.
-/
import Derived.Test.YtfchfjipkggnkaaDoorRows
import GoSem.ClaimSeven
namespace Go.Proofs.YtfchfjipkggnkaaDoor
namespace Rows

/-- THE TIED CARD OF 'replevinlaw31.DescriptorChecks'. -/
def descriptorChecksCard : Claim7 := { stood := { row := descriptorChecksRow, standIns := [], harness := (true, "9c2a11ede13c6d151a3343c9826bd3085def8bb1118facc493ecfc91be0fe77d"), looks := false }, kinds := [], alts := [], laidByText := true, laidKinds := [.data], laidTests := true, laidLooks := .later }
def DescriptorChecksCardSaid : Prop := Claim7.holds Tryd.pinned (.plain (OpenSpec.ofChange descriptorChecksSpec)) descriptorChecksCard

/-- THE TIED CARD OF 'replevinlaw31.DescriptorDecodes'. -/
def descriptorDecodesCard : Claim7 := { stood := { row := descriptorDecodesRow, standIns := [], harness := (true, "9c2a11ede13c6d151a3343c9826bd3085def8bb1118facc493ecfc91be0fe77d"), looks := false }, kinds := [], alts := [], laidByText := true, laidKinds := [.data], laidTests := true, laidLooks := .later }
def DescriptorDecodesCardSaid : Prop := Claim7.holds Tryd.pinned (.plain (OpenSpec.ofChange descriptorDecodesSpec)) descriptorDecodesCard

/-- THE TIED CARD OF 'replevinlaw31.DescriptorSmallest'. -/
def descriptorSmallestCard : Claim7 := { stood := { row := descriptorSmallestRow, standIns := [], harness := (true, "9c2a11ede13c6d151a3343c9826bd3085def8bb1118facc493ecfc91be0fe77d"), looks := false }, kinds := [], alts := [], laidByText := true, laidKinds := [.data], laidTests := true, laidLooks := .later }
def DescriptorSmallestCardSaid : Prop := Claim7.holds Tryd.pinned (.plain (OpenSpec.ofChange descriptorSmallestSpec)) descriptorSmallestCard

/-- THE TIED CARD OF 'replevinlaw31.DescriptorOffsets'. -/
def descriptorOffsetsCard : Claim7 := { stood := { row := descriptorOffsetsRow, standIns := [], harness := (true, "9c2a11ede13c6d151a3343c9826bd3085def8bb1118facc493ecfc91be0fe77d"), looks := false }, kinds := [], alts := [], laidByText := true, laidKinds := [.data], laidTests := true, laidLooks := .later }
def DescriptorOffsetsCardSaid : Prop := Claim7.holds Tryd.pinned (.plain (OpenSpec.ofChange descriptorOffsetsSpec)) descriptorOffsetsCard

/-- THE TIED CARD OF 'replevinlaw31.DescriptorErrors'. -/
def descriptorErrorsCard : Claim7 := { stood := { row := descriptorErrorsRow, standIns := [], harness := (true, "9c2a11ede13c6d151a3343c9826bd3085def8bb1118facc493ecfc91be0fe77d"), looks := false }, kinds := [], alts := [], laidByText := true, laidKinds := [.data], laidTests := true, laidLooks := .later }
def DescriptorErrorsCardSaid : Prop := Claim7.holds Tryd.pinned (.plain (OpenSpec.ofChange descriptorErrorsSpec)) descriptorErrorsCard

/-- THE SECOND FORM's CARD OF 'replevinlaw31.DescriptorChecks'. -/
def descriptorChecksUptoCard : Claim7 := { stood := { row := descriptorChecksUptoRow, standIns := [], harness := (true, "9c2a11ede13c6d151a3343c9826bd3085def8bb1118facc493ecfc91be0fe77d"), looks := false }, kinds := [], alts := [], laidByText := true, laidKinds := [.data], laidTests := true, laidLooks := .later }
def DescriptorChecksUptoCardSaid : Prop := Claim7.holds Tryd.pinned (.plain (OpenSpec.upto descriptorChecksSpec)) descriptorChecksUptoCard

/-- THE SECOND FORM's CARD OF 'replevinlaw31.DescriptorDecodes'. -/
def descriptorDecodesUptoCard : Claim7 := { stood := { row := descriptorDecodesUptoRow, standIns := [], harness := (true, "9c2a11ede13c6d151a3343c9826bd3085def8bb1118facc493ecfc91be0fe77d"), looks := false }, kinds := [], alts := [], laidByText := true, laidKinds := [.data], laidTests := true, laidLooks := .later }
def DescriptorDecodesUptoCardSaid : Prop := Claim7.holds Tryd.pinned (.plain (OpenSpec.upto descriptorDecodesSpec)) descriptorDecodesUptoCard

/-- THE SECOND FORM's CARD OF 'replevinlaw31.DescriptorSmallest'. -/
def descriptorSmallestUptoCard : Claim7 := { stood := { row := descriptorSmallestUptoRow, standIns := [], harness := (true, "9c2a11ede13c6d151a3343c9826bd3085def8bb1118facc493ecfc91be0fe77d"), looks := false }, kinds := [], alts := [], laidByText := true, laidKinds := [.data], laidTests := true, laidLooks := .later }
def DescriptorSmallestUptoCardSaid : Prop := Claim7.holds Tryd.pinned (.plain (OpenSpec.upto descriptorSmallestSpec)) descriptorSmallestUptoCard

/-- THE SECOND FORM's CARD OF 'replevinlaw31.DescriptorOffsets'. -/
def descriptorOffsetsUptoCard : Claim7 := { stood := { row := descriptorOffsetsUptoRow, standIns := [], harness := (true, "9c2a11ede13c6d151a3343c9826bd3085def8bb1118facc493ecfc91be0fe77d"), looks := false }, kinds := [], alts := [], laidByText := true, laidKinds := [.data], laidTests := true, laidLooks := .later }
def DescriptorOffsetsUptoCardSaid : Prop := Claim7.holds Tryd.pinned (.plain (OpenSpec.upto descriptorOffsetsSpec)) descriptorOffsetsUptoCard

/-- THE SECOND FORM's CARD OF 'replevinlaw31.DescriptorErrors'. -/
def descriptorErrorsUptoCard : Claim7 := { stood := { row := descriptorErrorsUptoRow, standIns := [], harness := (true, "9c2a11ede13c6d151a3343c9826bd3085def8bb1118facc493ecfc91be0fe77d"), looks := false }, kinds := [], alts := [], laidByText := true, laidKinds := [.data], laidTests := true, laidLooks := .later }
def DescriptorErrorsUptoCardSaid : Prop := Claim7.holds Tryd.pinned (.plain (OpenSpec.upto descriptorErrorsSpec)) descriptorErrorsUptoCard
end Rows
end Go.Proofs.YtfchfjipkggnkaaDoor
