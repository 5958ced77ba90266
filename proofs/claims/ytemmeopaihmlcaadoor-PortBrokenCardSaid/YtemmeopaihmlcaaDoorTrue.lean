/- What a law leaves that answers true. -/
import Derived.Test.YtemmeopaihmlcaaDoorMem
namespace Go.Proofs.YtemmeopaihmlcaaDoor
open Go.RowKit

/-- The law answers true, and what there was is as it was. -/
def TruePost (w : World) (r : Ending) (w' : World) : Prop := r = .returned (.bool true) ∧ Below w.heap.size w w'

end Go.Proofs.YtemmeopaihmlcaaDoor
