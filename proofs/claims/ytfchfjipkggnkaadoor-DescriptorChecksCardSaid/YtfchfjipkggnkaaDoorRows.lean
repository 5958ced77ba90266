/-
  NARROWER THAN 'FOR EVERY INPUT', by the rows' own cells (each row's printed sentence says how): DescriptorChecks: laid · DescriptorDecodes: laid · DescriptorSmallest: laid · DescriptorOffsets: laid · DescriptorErrors: laid.
  DERIVED. THE GIVEN ROWS OF THIS SEAT. 5 by the template 'for every input the law returns true; each argument reads behind the call as it read before'; 0 by the template 'total and deterministic' (their statements: YtfchfjipkggnkaaDoorTotals.lean).
  GIVEN WITH THE SEED: the statements are not yours to turn. If you find one false, say at which input.
  Laid BY PROGRAM, IN A SANDBOX (cutbox-rows.mjs): the forced cells as the released guide's own fill.sh prints them over the translation 3470ce611ed5863c… (all of the seat's roots in one cut). By AI agents, Wed Nov 11 2026. No macro, syntax, notation, axiom, sorry.
-/
import Derived.Test.YtfchfjipkggnkaaDoorChecked
import GoSem.Claim
import GoSem.ClaimJoined
import GoSem.ClaimMapViews
import Derived.JoinedTies
import Derived.KernelRfl
namespace Go.Proofs.YtfchfjipkggnkaaDoor
/- THE CELL 'sum', in the pinned program and in every row, IS THE sha256 OF THE DUMP (.gsa) THAT YtfchfjipkggnkaaDoorProg.lean LOADS. Nothing in Lean hashes anything: it is a label: what it is worth is what the hold of that sum in a sandbox is worth. -/
noncomputable def Tryd.pinned : Pinned := { name := "ytfchfjipkggnkaadoor", sum := "3470ce611ed5863c787637d4f95b363c9fb60d0c2b308d2ad7160df2de9dcec0", checked := Tryd.checked }
namespace Rows
def none {H : Type} : Left H := { results := [], args := [] }

/- WHAT THE LISTED PACKAGE-LEVEL VARIABLES READ AS WHEN THE CALL BEGINS. Each datum BY PROGRAM (the guide's laid-datum.mjs) off the statement by which the dump's own 'gosem.cut.vars' lays the variable. In a bare row this is a premise. The card (YtfchfjipkggnkaaDoorCards.lean) ties it to the program's text. -/
def laid_replevin_object_usages {H : Type} : DataW H := .agg [.agg [.lit (.string []), .lit (.bool false), .lit (.bool false), .lit (.bool false), .lit (.bool false), .lit (.int .i64 0)], .agg [.lit (.string [112, 114, 111, 99, 101, 115, 115]), .lit (.bool true), .lit (.bool false), .lit (.bool false), .lit (.bool false), .lit (.int .i64 0)], .agg [.lit (.string [114, 101, 103, 105, 115, 116, 101, 114, 115]), .lit (.bool true), .lit (.bool false), .lit (.bool false), .lit (.bool false), .lit (.int .i64 0)], .agg [.lit (.string [112, 97, 103, 101]), .lit (.bool true), .lit (.bool false), .lit (.bool true), .lit (.bool false), .lit (.int .i64 63)], .agg [.lit (.string [116, 97, 98, 108, 101]), .lit (.bool true), .lit (.bool false), .lit (.bool false), .lit (.bool false), .lit (.int .i64 0)], .agg [.lit (.string [99, 111, 117, 110, 116, 101, 114]), .lit (.bool true), .lit (.bool false), .lit (.bool false), .lit (.bool false), .lit (.int .i64 0)], .agg [.lit (.string [112, 101, 110, 100, 105, 110, 103]), .lit (.bool true), .lit (.bool false), .lit (.bool false), .lit (.bool false), .lit (.int .i64 0)], .agg [.lit (.string [110, 111, 100, 101]), .lit (.bool true), .lit (.bool true), .lit (.bool false), .lit (.bool false), .lit (.int .i64 0)], .agg [.lit (.string [98, 108, 111, 99, 107]), .lit (.bool true), .lit (.bool true), .lit (.bool true), .lit (.bool false), .lit (.int .i64 63)], .agg [.lit (.string [101, 110, 116, 114, 121]), .lit (.bool true), .lit (.bool true), .lit (.bool false), .lit (.bool true), .lit (.int .i64 0)], .agg [.lit (.string [108, 105, 115, 116, 105, 110, 103]), .lit (.bool true), .lit (.bool true), .lit (.bool false), .lit (.bool false), .lit (.int .i64 0)], .agg [.lit (.string [112, 105, 112, 101]), .lit (.bool true), .lit (.bool true), .lit (.bool false), .lit (.bool false), .lit (.int .i64 0)], .agg [.lit (.string [108, 111, 99, 107]), .lit (.bool true), .lit (.bool true), .lit (.bool false), .lit (.bool false), .lit (.int .i64 0)], .agg [.lit (.string [116, 101, 114, 109, 105, 110, 97, 108]), .lit (.bool false), .lit (.bool true), .lit (.bool false), .lit (.bool false), .lit (.int .i64 0)], .agg [.lit (.string [97, 99, 99, 111, 117, 110, 116]), .lit (.bool false), .lit (.bool false), .lit (.bool false), .lit (.bool true), .lit (.int .i64 0)], .agg [.lit (.string [99, 108, 111, 99, 107]), .lit (.bool false), .lit (.bool false), .lit (.bool false), .lit (.bool false), .lit (.int .i64 0)], .agg [.lit (.string [112, 111, 114, 116]), .lit (.bool false), .lit (.bool true), .lit (.bool false), .lit (.bool false), .lit (.int .i64 0)], .agg [.lit (.string [98, 111, 120]), .lit (.bool false), .lit (.bool false), .lit (.bool false), .lit (.bool true), .lit (.int .i64 0)], .agg [.lit (.string [111, 117, 116]), .lit (.bool true), .lit (.bool true), .lit (.bool true), .lit (.bool false), .lit (.int .i64 1073741824)], .agg [.lit (.string [115, 104, 101, 108, 108]), .lit (.bool true), .lit (.bool false), .lit (.bool false), .lit (.bool false), .lit (.int .i64 0)], .agg [.lit (.string [101, 112, 111, 99, 104]), .lit (.bool false), .lit (.bool false), .lit (.bool false), .lit (.bool false), .lit (.int .i64 0)]]

/-- 'replevinlaw31.DescriptorChecks': WHATEVER THE INPUT: true; the input reads as it did. -/
def descriptorChecksSpec : ChangeSpec := { name := "descriptorChecks", fn := fun _ => fun
  | [d1, d2, d3] => { results := [.lit (.bool true)], args := [d1, d2, d3] }
  | _ => none }
def descriptorChecksRow : OpenClaim := { program := "ytfchfjipkggnkaadoor", sum := "3470ce611ed5863c787637d4f95b363c9fb60d0c2b308d2ad7160df2de9dcec0", func := "replevin/replevinlaw31.DescriptorChecks", spec := "descriptorChecks", unfollowed := true, recurses := true, named := ["replevin/object.usages"], plainKeys := false, apart := false, laid := [("replevin/object.usages", laid_replevin_object_usages)] }
def DescriptorChecksSaid : Prop := descriptorChecksRow.holds Tryd.pinned (OpenSpec.ofChange descriptorChecksSpec)

/-- ITS FALSE NEIGHBOUR: 'it returns false'. Refute it at one input. -/
def descriptorChecksWrong : ChangeSpec := { name := "descriptorChecks", fn := fun _ => fun
  | [d1, d2, d3] => { results := [.lit (.bool false)], args := [d1, d2, d3] }
  | _ => none }
def DescriptorChecksWrongFalsely : Prop := descriptorChecksRow.holds Tryd.pinned (OpenSpec.ofChange descriptorChecksWrong)

/-- 'replevinlaw31.DescriptorDecodes': WHATEVER THE INPUT: true; the input reads as it did. -/
def descriptorDecodesSpec : ChangeSpec := { name := "descriptorDecodes", fn := fun _ => fun
  | [d] => { results := [.lit (.bool true)], args := [d] }
  | _ => none }
def descriptorDecodesRow : OpenClaim := { program := "ytfchfjipkggnkaadoor", sum := "3470ce611ed5863c787637d4f95b363c9fb60d0c2b308d2ad7160df2de9dcec0", func := "replevin/replevinlaw31.DescriptorDecodes", spec := "descriptorDecodes", unfollowed := true, recurses := true, named := ["replevin/object.usages"], plainKeys := false, apart := false, laid := [("replevin/object.usages", laid_replevin_object_usages)] }
def DescriptorDecodesSaid : Prop := descriptorDecodesRow.holds Tryd.pinned (OpenSpec.ofChange descriptorDecodesSpec)

/-- ITS FALSE NEIGHBOUR: 'it returns false'. Refute it at one input. -/
def descriptorDecodesWrong : ChangeSpec := { name := "descriptorDecodes", fn := fun _ => fun
  | [d] => { results := [.lit (.bool false)], args := [d] }
  | _ => none }
def DescriptorDecodesWrongFalsely : Prop := descriptorDecodesRow.holds Tryd.pinned (OpenSpec.ofChange descriptorDecodesWrong)

/-- 'replevinlaw31.DescriptorSmallest': WHATEVER THE INPUT: true; the input reads as it did. -/
def descriptorSmallestSpec : ChangeSpec := { name := "descriptorSmallest", fn := fun _ => fun
  | [d1, d2] => { results := [.lit (.bool true)], args := [d1, d2] }
  | _ => none }
def descriptorSmallestRow : OpenClaim := { program := "ytfchfjipkggnkaadoor", sum := "3470ce611ed5863c787637d4f95b363c9fb60d0c2b308d2ad7160df2de9dcec0", func := "replevin/replevinlaw31.DescriptorSmallest", spec := "descriptorSmallest", unfollowed := true, recurses := true, named := ["replevin/object.usages"], plainKeys := false, apart := false, laid := [("replevin/object.usages", laid_replevin_object_usages)] }
def DescriptorSmallestSaid : Prop := descriptorSmallestRow.holds Tryd.pinned (OpenSpec.ofChange descriptorSmallestSpec)

/-- ITS FALSE NEIGHBOUR: 'it returns false'. Refute it at one input. -/
def descriptorSmallestWrong : ChangeSpec := { name := "descriptorSmallest", fn := fun _ => fun
  | [d1, d2] => { results := [.lit (.bool false)], args := [d1, d2] }
  | _ => none }
def DescriptorSmallestWrongFalsely : Prop := descriptorSmallestRow.holds Tryd.pinned (OpenSpec.ofChange descriptorSmallestWrong)

/-- 'replevinlaw31.DescriptorOffsets': WHATEVER THE INPUT: true; the input reads as it did. -/
def descriptorOffsetsSpec : ChangeSpec := { name := "descriptorOffsets", fn := fun _ => fun
  | [d1, d2] => { results := [.lit (.bool true)], args := [d1, d2] }
  | _ => none }
def descriptorOffsetsRow : OpenClaim := { program := "ytfchfjipkggnkaadoor", sum := "3470ce611ed5863c787637d4f95b363c9fb60d0c2b308d2ad7160df2de9dcec0", func := "replevin/replevinlaw31.DescriptorOffsets", spec := "descriptorOffsets", unfollowed := true, recurses := true, named := ["replevin/object.usages"], plainKeys := false, apart := false, laid := [("replevin/object.usages", laid_replevin_object_usages)] }
def DescriptorOffsetsSaid : Prop := descriptorOffsetsRow.holds Tryd.pinned (OpenSpec.ofChange descriptorOffsetsSpec)

/-- ITS FALSE NEIGHBOUR: 'it returns false'. Refute it at one input. -/
def descriptorOffsetsWrong : ChangeSpec := { name := "descriptorOffsets", fn := fun _ => fun
  | [d1, d2] => { results := [.lit (.bool false)], args := [d1, d2] }
  | _ => none }
def DescriptorOffsetsWrongFalsely : Prop := descriptorOffsetsRow.holds Tryd.pinned (OpenSpec.ofChange descriptorOffsetsWrong)

/-- 'replevinlaw31.DescriptorErrors': WHATEVER THE INPUT: true; the input reads as it did. -/
def descriptorErrorsSpec : ChangeSpec := { name := "descriptorErrors", fn := fun _ => fun
  | [d1, d2, d3] => { results := [.lit (.bool true)], args := [d1, d2, d3] }
  | _ => none }
def descriptorErrorsRow : OpenClaim := { program := "ytfchfjipkggnkaadoor", sum := "3470ce611ed5863c787637d4f95b363c9fb60d0c2b308d2ad7160df2de9dcec0", func := "replevin/replevinlaw31.DescriptorErrors", spec := "descriptorErrors", unfollowed := true, recurses := true, named := ["replevin/object.usages"], plainKeys := false, apart := false, laid := [("replevin/object.usages", laid_replevin_object_usages)] }
def DescriptorErrorsSaid : Prop := descriptorErrorsRow.holds Tryd.pinned (OpenSpec.ofChange descriptorErrorsSpec)

/-- ITS FALSE NEIGHBOUR: 'it returns false'. Refute it at one input. -/
def descriptorErrorsWrong : ChangeSpec := { name := "descriptorErrors", fn := fun _ => fun
  | [d1, d2, d3] => { results := [.lit (.bool false)], args := [d1, d2, d3] }
  | _ => none }
def DescriptorErrorsWrongFalsely : Prop := descriptorErrorsRow.holds Tryd.pinned (OpenSpec.ofChange descriptorErrorsWrong)

/- THE SECOND FORM. 'bulk': how many values and letters a reading holds, each counted each time it is reached (what is shared counts as often as it is met; a slice's spare places count too). A statement '..UptoSaid' is the law's where the arguments, and the package variables that the reading takes, are together of bulk at most 1048576: NARROWER than '..Said'. Prove '..Said' where nothing that the law and all that it calls make is longer than what came in: it says more and counts as full. Else prove '..UptoSaid'. A law counts once. -/
mutual
def uptoBulk {H : Type} : DataW H → Nat
  | .lit (.string bytes) => bytes.length + 1
  | .lit _ => 1
  | .nil => 1
  | .ptr d => uptoBulk d + 1
  | .slice elems spare => uptoBulkAll elems + uptoBulkAll spare + 1
  | .agg parts => uptoBulkAll parts + 1
  | .iface _ d => uptoBulk d + 1
  | .map entries => uptoBulkEntries entries + 1
  | .held _ => 1
def uptoBulkAll {H : Type} : List (DataW H) → Nat
  | [] => 0
  | d :: r => uptoBulk d + uptoBulkAll r
def uptoBulkEntries {H : Type} : List (Lit × DataW H) → Nat
  | [] => 0
  | x :: r => uptoBulkEntry x + uptoBulkEntries r
def uptoBulkEntry {H : Type} : Lit × DataW H → Nat
  | (.string bytes, d) => bytes.length + uptoBulk d + 1
  | (_, d) => uptoBulk d + 1
 end
def uptoSmall : (H : Type) → List (DataW H) → Bool := fun _ ds => decide (uptoBulkAll ds ≤ 1048576)
def OpenSpec.upto (s : _root_.Go.ChangeSpec) : _root_.Go.OpenSpec := { _root_.Go.OpenSpec.ofChange s with cond := some uptoSmall }

/-- 'replevinlaw31.DescriptorChecks', WHERE WHAT IT READS IS OF BULK AT MOST 1048576: true; the input reads as it did. -/
def descriptorChecksUptoRow : OpenClaim := { program := "ytfchfjipkggnkaadoor", sum := "3470ce611ed5863c787637d4f95b363c9fb60d0c2b308d2ad7160df2de9dcec0", func := "replevin/replevinlaw31.DescriptorChecks", spec := "descriptorChecks", unfollowed := true, recurses := true, named := ["replevin/object.usages"], plainKeys := false, apart := false, laid := [("replevin/object.usages", laid_replevin_object_usages)], narrowed := true }
def DescriptorChecksUptoSaid : Prop := descriptorChecksUptoRow.holds Tryd.pinned (OpenSpec.upto descriptorChecksSpec)

/-- 'replevinlaw31.DescriptorDecodes', WHERE WHAT IT READS IS OF BULK AT MOST 1048576: true; the input reads as it did. -/
def descriptorDecodesUptoRow : OpenClaim := { program := "ytfchfjipkggnkaadoor", sum := "3470ce611ed5863c787637d4f95b363c9fb60d0c2b308d2ad7160df2de9dcec0", func := "replevin/replevinlaw31.DescriptorDecodes", spec := "descriptorDecodes", unfollowed := true, recurses := true, named := ["replevin/object.usages"], plainKeys := false, apart := false, laid := [("replevin/object.usages", laid_replevin_object_usages)], narrowed := true }
def DescriptorDecodesUptoSaid : Prop := descriptorDecodesUptoRow.holds Tryd.pinned (OpenSpec.upto descriptorDecodesSpec)

/-- 'replevinlaw31.DescriptorSmallest', WHERE WHAT IT READS IS OF BULK AT MOST 1048576: true; the input reads as it did. -/
def descriptorSmallestUptoRow : OpenClaim := { program := "ytfchfjipkggnkaadoor", sum := "3470ce611ed5863c787637d4f95b363c9fb60d0c2b308d2ad7160df2de9dcec0", func := "replevin/replevinlaw31.DescriptorSmallest", spec := "descriptorSmallest", unfollowed := true, recurses := true, named := ["replevin/object.usages"], plainKeys := false, apart := false, laid := [("replevin/object.usages", laid_replevin_object_usages)], narrowed := true }
def DescriptorSmallestUptoSaid : Prop := descriptorSmallestUptoRow.holds Tryd.pinned (OpenSpec.upto descriptorSmallestSpec)

/-- 'replevinlaw31.DescriptorOffsets', WHERE WHAT IT READS IS OF BULK AT MOST 1048576: true; the input reads as it did. -/
def descriptorOffsetsUptoRow : OpenClaim := { program := "ytfchfjipkggnkaadoor", sum := "3470ce611ed5863c787637d4f95b363c9fb60d0c2b308d2ad7160df2de9dcec0", func := "replevin/replevinlaw31.DescriptorOffsets", spec := "descriptorOffsets", unfollowed := true, recurses := true, named := ["replevin/object.usages"], plainKeys := false, apart := false, laid := [("replevin/object.usages", laid_replevin_object_usages)], narrowed := true }
def DescriptorOffsetsUptoSaid : Prop := descriptorOffsetsUptoRow.holds Tryd.pinned (OpenSpec.upto descriptorOffsetsSpec)

/-- 'replevinlaw31.DescriptorErrors', WHERE WHAT IT READS IS OF BULK AT MOST 1048576: true; the input reads as it did. -/
def descriptorErrorsUptoRow : OpenClaim := { program := "ytfchfjipkggnkaadoor", sum := "3470ce611ed5863c787637d4f95b363c9fb60d0c2b308d2ad7160df2de9dcec0", func := "replevin/replevinlaw31.DescriptorErrors", spec := "descriptorErrors", unfollowed := true, recurses := true, named := ["replevin/object.usages"], plainKeys := false, apart := false, laid := [("replevin/object.usages", laid_replevin_object_usages)], narrowed := true }
def DescriptorErrorsUptoSaid : Prop := descriptorErrorsUptoRow.holds Tryd.pinned (OpenSpec.upto descriptorErrorsSpec)

end Rows
end Go.Proofs.YtfchfjipkggnkaaDoor
