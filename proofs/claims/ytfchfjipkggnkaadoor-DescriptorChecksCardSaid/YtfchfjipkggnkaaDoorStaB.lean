/- state: heightOf, sizeOf, bytesOf, join. state: balance. -/
import Derived.Test.YtfchfjipkggnkaaDoorStaF
import Derived.Deep.RegionHeld3
import Derived.StillTailTactics
import Derived.IntWalk
import Derived.Deep.QuietTactic
import Derived.BigQuiet
namespace Go.Proofs.YtfchfjipkggnkaaDoor
open Go.RowKit

/-- What join leaves. -/
def JoinPost (w : World) (l : Tree) (n : NameT) (v : ByteArray) (r : Tree) (e : Ending) (w' : World) : Prop := ∃ p, e = .returned (.pointer (some ⟨p, 0, none⟩)) ∧ Below w.heap.size w w' ∧ TreeAt w' (.node p l n v r)

theorem join_fin {l r : Tree} {n : NameT} {v : ByteArray} {w w' : World} {H S B : Int} {e : Ending} {a : Nat}
    (hw : w' = (w.drew.alloc (.cells #[.pointer (ptrA l), .pointer (ptrA r), .int .i64 n.kind, .string n.owner, .int .i64 n.number, .int .i64 n.index, .string n.text, .string v, .int .i64 H, .int .i64 S, .int .i64 B] 144)))
    (hl : TreeAt w l) (hr : TreeAt w r) (he : e = .returned (.pointer (some ⟨a, 0, none⟩))) (ha : a = w.heap.size) (h1 : H = ((Tr.node w.heap.size l n v r).ht : Nat)) (h2 : S = ((Tr.node w.heap.size l n v r).sz : Nat)) (h3 : B = ((Tr.node w.heap.size l n v r).bys : Nat)) : JoinPost w l n v r e w' := by
  subst hw he ha
  have hb : Below w.heap.size w (w.drew.alloc (.cells #[.pointer (ptrA l), .pointer (ptrA r), .int .i64 n.kind, .string n.owner, .int .i64 n.number, .int .i64 n.index, .string n.text, .string v, .int .i64 H, .int .i64 S, .int .i64 B] 144)) := ((Below.refl _ w).drew).alloc (Nat.le_refl _) _
  refine ⟨w.heap.size, rfl, hb, ?_, hl.below hb, hr.below hb⟩
  have := World.alloc_heap_new w.drew (.cells #[.pointer (ptrA l), .pointer (ptrA r), .int .i64 n.kind, .string n.owner, .int .i64 n.number, .int .i64 n.index, .string n.text, .string v, .int .i64 H, .int .i64 S, .int .i64 B] 144)
  rw [h1, h2, h3] at this ⊢
  exact this
end Go.Proofs.YtfchfjipkggnkaaDoor

namespace Go.Proofs.YtfchfjipkggnkaaDoor
open Go.RowKit

/-- What join asks of sizes. -/
structure JB (l r : Tree) (v : ByteArray) : Prop where
  sz : l.sz + r.sz ≤ 100000000
  bys : l.bys + r.bys ≤ 100000000000000
  val : v.size ≤ 100000000
structure JC (l r : Tree) (v : ByteArray) : Prop where
  sz : l.sz + r.sz ≤ 10000000
  bys : l.bys + r.bys ≤ 10000000000000
  val : v.size ≤ 100000000
theorem JC.jb {l r : Tree} {v : ByteArray} (j : JC l r v) : JB l r v := ⟨Nat.le_trans j.sz (by decide), Nat.le_trans j.bys (by decide), j.val⟩
/-- What balance leaves. -/
def BalPost (w : World) (l : Tree) (n : NameT) (v : ByteArray) (r : Tree) (e : Ending) (w' : World) : Prop := ∃ t, e = .returned (.pointer (ptrA t)) ∧ Below w.heap.size w w' ∧ TreeAt w' t ∧ Bal l n v r t

theorem below_drewN {w w1 : World} {k : Nat} (h : Below (w.drewN k).heap.size (w.drewN k) w1) : Below w.heap.size w w1 := ⟨h.os, h.tape, h.output, h.size, h.block⟩
theorem quiet_add_left {P : Program} {f : FuncId} {args : Array Value} {w : World} {a n : Nat} {v : Value}
    (h : Calls P f args (w.drewN (a + n)) fun e w' => e = .returned v ∧ w.drewN (a + n) = w') :
    Calls P f args (w.drewN (a + n)) fun e w'' => e = .returned v ∧ ∃ m, w'' = w.drewN (a + m) :=
  h.mono fun _ _ ⟨he, hm⟩ => ⟨he, n, hm.symm⟩
theorem below_X {w w1 : World} {k : Nat} (h : Below (w.drewN k).drew.heap.size (w.drewN k).drew w1) : Below w.heap.size w w1 := ⟨h.os, h.tape, h.output, h.size, h.block⟩
end Go.Proofs.YtfchfjipkggnkaaDoor
