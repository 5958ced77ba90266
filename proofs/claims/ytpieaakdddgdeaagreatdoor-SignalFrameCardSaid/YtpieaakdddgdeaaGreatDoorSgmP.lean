/- signal, plain: what change, Send, SetHandler, SetIgnored, SetBlocked, Take, Waiting and law 33's Op.call make of a view. -/
import Derived.Test.YtpieaakdddgdeaaGreatDoorSgmA
import Derived.Test.YtpieaakdddgdeaaGreatDoorSigN
namespace Go.Proofs.YtpieaakdddgdeaaGreatDoor
open Go.RowKit

def RecT.setH (r : RecT) (n : Nat) (a : Int) : RecT :=
  match n with
  | 0 => { r with h0 := a }
  | 1 => { r with h1 := a }
  | 2 => { r with h2 := a }
  | 3 => { r with h3 := a }
  | 4 => { r with h4 := a }
  | 5 => { r with h5 := a }
  | 6 => { r with h6 := a }
  | 7 => { r with h7 := a }
  | _ => r
theorem setH_cells (r : RecT) (n : Nat) (hn : n < 8) (a : Int) : (rCells r).setIfInBounds (3 + n) (.int .i64 a) = rCells (r.setH n a) := by
  match n, hn with
  | 0, _ => rfl
  | 1, _ => rfl
  | 2, _ => rfl
  | 3, _ => rfl
  | 4, _ => rfl
  | 5, _ => rfl
  | 6, _ => rfl
  | 7, _ => rfl
def opExec (r : RecT) : RecT := ⟨r.p, r.b, r.i, 0, 0, 0, 0, 0, 0, 0, 0⟩
def opHandler (n : Nat) (a : Int) (r : RecT) : RecT := { (r.setH n a) with i := andnP r.i n }
def opIgnored (n : Nat) (is : Bool) (r : RecT) : RecT := if is = true then { (r.setH n 0) with i := orP (andnP r.i n) n, p := andnP r.p n } else { r with i := andnP r.i n }
def opBlocked (x : Int) (r : RecT) : RecT := { r with b := x }
def sChange (op : RecT → RecT) (V : AV) (m : ByteArray) : AV × Nat := if (sGet V m).2 = 0 then sPut (sSeen V m) m (op (sGet V m).1) else (sSeen V m, (sGet V m).2)
def sSend (V : AV) (f t : ByteArray) (n : Int) : AV × Nat :=
  if sigB n = false then (V, 2) else if nearB f t = false then (V, 14)
  else if (sGet V t).2 ≠ 0 then (sSeen V t, (sGet V t).2) else if withoutB (sGet V t).1 n = true then (sSeen V t, 0)
  else sPut (sSeen V t) t { (sGet V t).1 with p := orP (sGet V t).1.p n }
def sHandler (V : AV) (m : ByteArray) (n a : Int) : AV × Nat :=
  if sigB n = false ∨ addrB a = false then (V, 2) else if n = 3 then (V, 33) else sChange (opHandler n.toNat a) V m
def sIgnored (V : AV) (m : ByteArray) (n : Int) (is : Bool) : AV × Nat :=
  if sigB n = false then (V, 2) else if n = 3 then (V, 33) else sChange (opIgnored n.toNat is) V m
def sBlocked (V : AV) (m : ByteArray) (x : Int) : AV × Nat :=
  if setB x = false then (V, 2) else if hasB x 3 = true then (V, 33) else sChange (opBlocked x) V m
def leftR (r : RecT) : RecT := { r with p := leftP r (nextB r) 7 }
/-- The signal, what it does, the address, the error. -/
structure TkT where
  sg : Int
  ac : Int
  ad : Int
  e : Nat
def tkOf (r : RecT) : TkT := if nextB r = 0 then ⟨0, 0, 0, 0⟩ else if r.hs.getD (nextB r).toNat 0 ≠ 0 then ⟨nextB r, 2, r.hs.getD (nextB r).toNat 0, 0⟩ else ⟨nextB r, 1, 0, 0⟩
def sTake (V : AV) (m : ByteArray) : AV × TkT :=
  if (sGet V m).2 ≠ 0 then (sSeen V m, ⟨0, 0, 0, (sGet V m).2⟩)
  else if leftR (sGet V m).1 = (sGet V m).1 then (sSeen V m, tkOf (sGet V m).1)
  else if (sPut (sSeen V m) m (leftR (sGet V m).1)).2 ≠ 0 then ((sPut (sSeen V m) m (leftR (sGet V m).1)).1, ⟨0, 0, 0, (sPut (sSeen V m) m (leftR (sGet V m).1)).2⟩)
  else ((sPut (sSeen V m) m (leftR (sGet V m).1)).1, tkOf (sGet V m).1)
def sWait (V : AV) (m : ByteArray) : AV × Bool := (sSeen V m, decide ((sGet V m).2 = 0) && decide (nextB (sGet V m).1 ≠ 0))
/-- What an operation returns. -/
structure SRes where
  sg : Int
  ac : Int
  ad : Int
  is : Bool
  e : Nat
def sResCells (r : SRes) : Array Value := #[.int .i64 r.sg, .int .i64 r.ac, .int .i64 r.ad, .bool r.is, .int .i64 r.e]
end Go.Proofs.YtpieaakdddgdeaaGreatDoor
