/- pipe: Check, Encode. pipe: Decode. -/
import Derived.Test.YtfobmfenjdiimaaGreatDoorViewC
import Derived.Test.YtfobmfenjdiimaaGreatDoorCodecH
import Derived.Lib.ConvBytes
namespace Go.Proofs.YtfobmfenjdiimaaGreatDoor
open Go.RowKit
attribute [local go_sem ↓] Go.wp_at_zero Go.wp_at_succ

/-- A pipe as a value. -/
structure PipeT where
  epoch : Int
  readers : Int
  writers : Int
  bytes : ByteArray
  deriving DecidableEq
def pCells (p : PipeT) : Array Value := #[.int .i64 p.epoch, .int .i64 p.readers, .int .i64 p.writers, .string p.bytes]
def pEpochB (n : Int) : Bool := decide (0 ≤ n ∧ n ≤ 1073741824)
def pEndsB (n : Int) : Bool := decide (0 ≤ n ∧ n ≤ 64)
def checkP (p : PipeT) : Nat := if pEpochB p.epoch = false ∨ pEndsB p.readers = false ∨ pEndsB p.writers = false then 2 else if p.readers = 0 ∧ p.writers = 0 then 1 else if 256 < p.bytes.size then 5 else 0
def encPB (p : PipeT) : List UInt8 := natBytes p.epoch.toNat ++ natBytes p.readers.toNat ++ natBytes p.writers.toNat ++ natBytes p.bytes.size ++ p.bytes.data.toList
def encP (p : PipeT) : ByteArray × Nat := if checkP p = 0 then (strOf (encPB p), 0) else (⟨#[]⟩, checkP p)

theorem checkP_ok {p : PipeT} (h : checkP p = 0) : (0 ≤ p.epoch ∧ p.epoch ≤ 1073741824) ∧ (0 ≤ p.readers ∧ p.readers ≤ 64) ∧ (0 ≤ p.writers ∧ p.writers ≤ 64) ∧ ¬ (p.readers = 0 ∧ p.writers = 0) ∧ p.bytes.size ≤ 256 := by
  unfold checkP at h
  split at h
  · cases h
  rename_i h1
  split at h
  · cases h
  rename_i h2
  split at h
  · cases h
  rename_i h3
  simp [pEpochB, pEndsB] at h1
  exact ⟨⟨h1.1.1, h1.1.2⟩, ⟨h1.2.1.1, h1.2.1.2⟩, ⟨h1.2.2.1, h1.2.2.2⟩, h2, by omega⟩

theorem pNat_ne (n : Nat) : natBytes n ≠ [] := by
  unfold natBytes
  simp only [nat7]
  split <;> simp
theorem pWr_box {w : World} : Wr w.heap.size w.heap.size (w.alloc (.cells #[.slice none 0 0, .int .i64 0] 149)) [] :=
  ⟨Nat.le_refl _, .slice none 0 0, heap_alloc_new w _, World.ownsRow_nil _ _ _ _, fun g hg => by cases hg⟩

end Go.Proofs.YtfobmfenjdiimaaGreatDoor

namespace Go.Proofs.YtfobmfenjdiimaaGreatDoor
open Go.RowKit
attribute [local go_sem ↓] Go.wp_at_zero Go.wp_at_succ

def pr1 (bs : List UInt8) := rdNum 1073741824 ⟨bs, 0⟩
def pr2 (bs : List UInt8) := rdNum 64 (pr1 bs).2
def pr3 (bs : List UInt8) := rdNum 64 (pr2 bs).2
def pr4 (bs : List UInt8) := rdText 256 (pr3 bs).2
def decPP (bs : List UInt8) : PipeT := ⟨(pr1 bs).1, (pr2 bs).1, (pr3 bs).1, strOf (pr4 bs).1⟩
def zeroP : PipeT := ⟨0, 0, 0, ⟨#[]⟩⟩
/-- What Decode answers. -/
def decP_ (s : ByteArray) : PipeT × Nat := if rdClose (pr4 s.data.toList).2 = 0 ∧ checkP (decPP s.data.toList) = 0 then (decPP s.data.toList, 0) else (zeroP, 3)

theorem pRd_grown {S : Nat → Prop} {b : Nat} {w w' : World} {s : RdS} {row : Option Nat} (h : Rd S b w s) (hb : w.grownBy w' row) (hr : ∀ k, row = some k → ¬ S k) : Rd S b w' s := by
  obtain ⟨hBb, g, off, n, c, p, hh, hsl, hnc, hBg, hgb, hlen⟩ := h
  have hg : n = 0 ∨ g < w.heap.size := by
    rcases Nat.eq_zero_or_pos n with h0 | h0
    · exact .inl h0
    · exact .inr (World.block_lt_of_cell? w _ (hsl.2 0 h0))
  refine ⟨hBb, g, off, n, c, p, (hb.block b (lt_of_heap hh) (fun e => hr b e.symm hBb)).trans hh, ?_, hnc, hBg, hgb, hlen⟩
  rcases hg with rfl | hg
  · exact ⟨hsl.1, fun j hj => by omega⟩
  · exact hsl.kept (hb.block g hg (fun e => hr g e.symm hBg))
theorem pBelow_row {B : Nat} {w w1 w2 : World} {row : Option Nat} (h : Below B w w1) (hg : w1.grownBy w2 row) (hB : B ≤ w.heap.size) (hr : ∀ k, row = some k → B ≤ k) : Below B w w2 :=
  ⟨hg.os.trans h.os, hg.tape.trans h.tape, hg.output.trans h.output, Nat.le_trans h.size hg.size, fun k hk => (hg.block k (Nat.lt_of_lt_of_le hk (Nat.le_trans hB h.size)) (fun e => by have := hr k e.symm; omega)).trans (h.block k hk)⟩
def SrP (L T k : Nat) : Prop := L ≤ k ∧ k < T
theorem pBytes_below (w : World) (e : TypeId) (s : ByteArray) : Below w.heap.size w (Lib.bytesWorld w e s) :=
  ⟨rfl, rfl, rfl, by rw [Lib.bytesWorld_size]; omega, fun k hk => Lib.bytesWorld_at_old w e s k hk⟩
theorem pGrown_set4 (w : World) (R : Nat) (a b c d : Value) : w.grownBy ((((w.setCell ⟨R, 0, none⟩ a).setCell ⟨R, 1, none⟩ b).setCell ⟨R, 2, none⟩ c).setCell ⟨R, 3, none⟩ d) (some R) :=
  grown_trans (grown_trans (grown_trans (grown_setCell _ _ _ _) (grown_setCell _ _ _ _)) (grown_setCell _ _ _ _)) (grown_setCell _ _ _ _)

def pipeV (p : PipeT) : Value := .agg #[.int .i64 p.epoch, .int .i64 p.readers, .int .i64 p.writers, .string p.bytes]
/-- What Decode leaves. -/
def PipePost (w : World) (p : PipeT × Nat) (r : Ending) (w' : World) : Prop := r = .returned (.tuple #[pipeV p.1, .int .i64 p.2]) ∧ Below w.heap.size w w'

end Go.Proofs.YtfobmfenjdiimaaGreatDoor
