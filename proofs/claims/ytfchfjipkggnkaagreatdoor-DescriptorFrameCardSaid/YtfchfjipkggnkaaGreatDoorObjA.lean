/- object: the table of usages; names. -/
import Derived.Test.YtfchfjipkggnkaaGreatDoorLinV
namespace Go.Proofs.YtfchfjipkggnkaaGreatDoor
open Go.RowKit

/-- One row of the table. -/
structure UseT where
  word : List UInt8
  owner : Bool
  number : Bool
  index : Bool
  text : Bool
  most : Int
def useT : Nat → UseT
  | 1 => ⟨[112, 114, 111, 99, 101, 115, 115], true, false, false, false, 0⟩
  | 2 => ⟨[114, 101, 103, 105, 115, 116, 101, 114, 115], true, false, false, false, 0⟩
  | 3 => ⟨[112, 97, 103, 101], true, false, true, false, 63⟩
  | 4 => ⟨[116, 97, 98, 108, 101], true, false, false, false, 0⟩
  | 5 => ⟨[99, 111, 117, 110, 116, 101, 114], true, false, false, false, 0⟩
  | 6 => ⟨[112, 101, 110, 100, 105, 110, 103], true, false, false, false, 0⟩
  | 7 => ⟨[110, 111, 100, 101], true, true, false, false, 0⟩
  | 8 => ⟨[98, 108, 111, 99, 107], true, true, true, false, 63⟩
  | 9 => ⟨[101, 110, 116, 114, 121], true, true, false, true, 0⟩
  | 10 => ⟨[108, 105, 115, 116, 105, 110, 103], true, true, false, false, 0⟩
  | 11 => ⟨[112, 105, 112, 101], true, true, false, false, 0⟩
  | 12 => ⟨[108, 111, 99, 107], true, true, false, false, 0⟩
  | 13 => ⟨[116, 101, 114, 109, 105, 110, 97, 108], false, true, false, false, 0⟩
  | 14 => ⟨[97, 99, 99, 111, 117, 110, 116], false, false, false, true, 0⟩
  | 15 => ⟨[99, 108, 111, 99, 107], false, false, false, false, 0⟩
  | 16 => ⟨[112, 111, 114, 116], false, true, false, false, 0⟩
  | 17 => ⟨[98, 111, 120], false, false, false, true, 0⟩
  | 18 => ⟨[111, 117, 116], true, true, true, false, 1073741824⟩
  | 19 => ⟨[115, 104, 101, 108, 108], true, false, false, false, 0⟩
  | 20 => ⟨[101, 112, 111, 99, 104], false, false, false, false, 0⟩
  | _ => ⟨[], false, false, false, false, 0⟩
/-- The table lies in the world. -/
def Usages (w : World) : Prop := ∀ k, k ≤ 20 →
  w.cell? ⟨0, k * 6, none⟩ = some (.string ⟨(useT k).word.toArray⟩) ∧ w.cell? ⟨0, k * 6 + 1, none⟩ = some (.bool (useT k).owner) ∧ w.cell? ⟨0, k * 6 + 2, none⟩ = some (.bool (useT k).number) ∧
  w.cell? ⟨0, k * 6 + 3, none⟩ = some (.bool (useT k).index) ∧ w.cell? ⟨0, k * 6 + 4, none⟩ = some (.bool (useT k).text) ∧ w.cell? ⟨0, k * 6 + 5, none⟩ = some (.int .i64 (useT k).most)

theorem Usages.pos {w : World} (h : Usages w) : 0 < w.heap.size := World.block_lt_of_cell? w _ (h 0 (by decide)).1
theorem Usages.below {B : Nat} {w w' : World} (h : Usages w) (hb : Below B w w') (hB : 0 < B) : Usages w' := fun k hk => by
  obtain ⟨h0, h1, h2, h3, h4, h5⟩ := h k hk
  exact ⟨(hb.cell (p := ⟨0, _, none⟩) hB).trans h0, (hb.cell (p := ⟨0, _, none⟩) hB).trans h1, (hb.cell (p := ⟨0, _, none⟩) hB).trans h2, (hb.cell (p := ⟨0, _, none⟩) hB).trans h3, (hb.cell (p := ⟨0, _, none⟩) hB).trans h4, (hb.cell (p := ⟨0, _, none⟩) hB).trans h5⟩

/-- The name of an object. -/
structure NameT where
  kind : Int
  owner : ByteArray
  number : Int
  index : Int
  text : ByteArray
  deriving DecidableEq
def nameV (n : NameT) : Value := .agg #[.int .i64 n.kind, .string n.owner, .int .i64 n.number, .int .i64 n.index, .string n.text]
theorem emp_le : (⟨#[]⟩ : ByteArray).size ≤ 70368744177664 := by decide
/-- A name whose texts a machine can hold. -/
def FitN (n : NameT) : Prop := n.owner.size ≤ 70368744177664 ∧ n.text.size ≤ 70368744177664

set_option maxHeartbeats 400000 in
theorem isKind_any (k : Int) (w : World) (h1 : 1 ≤ k) (h2 : k ≤ 20) : Calls Tryz.prog 81 #[.int .i64 k] w fun r w' => r = .returned (.bool true) ∧ w = w' := by
  go_enter Tryz.func81, Tryz.ntmps81
  go_wp2
  go_ret
  exact ⟨rfl, rfl⟩

set_option maxHeartbeats 400000 in
theorem oWithin_any (n m : Int) (w : World) : Calls Tryz.prog 82 #[.int .i64 n, .int .i64 m] w fun r w' => r = .returned (.bool (decide (0 ≤ n ∧ n ≤ m))) ∧ w = w' := by
  by_cases h1 : 0 ≤ n
  · by_cases h2 : n ≤ m
    · go_enter Tryz.func82, Tryz.ntmps82
      go_wp2
      go_ret
      exact ⟨by simp [h1, h2], rfl⟩
    · go_enter Tryz.func82, Tryz.ntmps82
      go_wp2
      go_ret
      exact ⟨by simp [h2], rfl⟩
  · go_enter Tryz.func82, Tryz.ntmps82
    go_wp2
    go_ret
    exact ⟨by simp; omega, rfl⟩

end Go.Proofs.YtfchfjipkggnkaaGreatDoor
