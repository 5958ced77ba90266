/- port: the plain words; OfPort; Word; isNumber. -/
import Derived.Test.YtijfdgoeppehlaaGreatDoorViewH
import Derived.Test.YtijfdgoeppehlaaGreatDoorCodecH
import Derived.Test.YtijfdgoeppehlaaGreatDoorWrdA
namespace Go.Proofs.YtijfdgoeppehlaaGreatDoor
open Go.RowKit

/-- A packet, and a port, as values. -/
structure PackT where
  src : ByteArray
  bytes : ByteArray
  deriving DecidableEq
structure PortT where
  owner : ByteArray
  epoch : Int
  lost : Int
  queue : List PackT
  deriving DecidableEq
def zeroPk : PackT := ⟨⟨#[]⟩, ⟨#[]⟩⟩
def packE (p : PackT) : Nat := if wordB p.src = false then 12 else if 512 < p.bytes.size then 5 else 0
def packsE : List PackT → Nat
  | [] => 0
  | s :: r => if packE s ≠ 0 then packE s else packsE r
def numB (n : Int) : Bool := decide (0 ≤ n ∧ n ≤ 1073741824)
def checkQ (p : PortT) : Nat :=
  if validB p.owner = false then 12 else if numB p.epoch = false ∨ numB p.lost = false then 2 else if 16 < p.queue.length then 9 else packsE p.queue

/-- A slice of packets that can be read. -/
def PSl (w : World) (a : Option Addr) (n : Nat) (ls : List PackT) : Prop :=
  ls.length = n ∧ (0 < n → ∃ g off, a = some ⟨g, off, none⟩ ∧ ∀ j, j < n → w.cell? ⟨g, off + j * 2, none⟩ = some (.string (ls.getD j zeroPk).src) ∧ w.cell? ⟨g, off + j * 2 + 1, none⟩ = some (.string (ls.getD j zeroPk).bytes))
theorem PSl.later {w w' : World} {a : Option Addr} {n : Nat} {ls : List PackT} (h : PSl w a n ls) (hb : Below w.heap.size w w') : PSl w' a n ls := by
  refine ⟨h.1, fun h0 => ?_⟩
  obtain ⟨g, off, ha, hc⟩ := h.2 h0
  refine ⟨g, off, ha, fun j hj => ?_⟩
  have hlt := World.block_lt_of_cell? w ⟨g, _, none⟩ (hc j hj).1
  exact ⟨((bcell hb).1 g _ hlt).trans (hc j hj).1, ((bcell hb).1 g _ hlt).trans (hc j hj).2⟩
theorem PSl.nil (w : World) : PSl w none 0 [] := ⟨rfl, fun h => absurd h (Nat.lt_irrefl _)⟩

def ofPortN (number : Int) : NameT := ⟨16, ⟨#[]⟩, number, 0, ⟨#[]⟩⟩

set_option maxRecDepth 100000 in
set_option maxHeartbeats 1000000 in
theorem ofPort_any (n : Int) (w : World) : Calls Tryz.prog 17 #[.int .i64 n] w fun r w' => r = .returned (.agg #[.int .i64 16, .string ⟨#[]⟩, .int .i64 n, .int .i64 0, .string ⟨#[]⟩]) ∧ Below w.heap.size w w' := by
  go_enter Tryz.func17, Tryz.ntmps17
  go_wp2
  refine bodyPost_ret (v := .agg #[.int .i64 16, .string ⟨#[]⟩, .int .i64 n, .int .i64 0, .string ⟨#[]⟩]) (by simp [results, Tryz.results17, go_sem]) rfl ⟨rfl, ?_⟩
  exact (Below.refl _ _).alloc (Nat.le_refl _) _

set_option maxRecDepth 100000 in
set_option maxHeartbeats 2000000 in
theorem checkPort_any (n : Int) (w : World) (hu : Usages w) (h0 : 0 ≤ n) (h1 : n ≤ 1073741824) :
    Calls Tryz.prog 70 #[.agg #[.int .i64 16, .string ⟨#[]⟩, .int .i64 n, .int .i64 0, .string ⟨#[]⟩]] w fun r w' => r = .returned (.int .i64 0) ∧ Below w.heap.size w w' := by
  have hp := hu.pos
  obtain ⟨u0, u1, u2, u3, u4, u5⟩ := hu 16 (by decide)
  have v0 : w.cell? ⟨0, 96, none⟩ = some (.string ⟨#[112, 111, 114, 116]⟩) := u0
  have v1 : w.cell? ⟨0, 97, none⟩ = some (.bool false) := u1
  have v2 : w.cell? ⟨0, 98, none⟩ = some (.bool true) := u2
  have v3 : w.cell? ⟨0, 99, none⟩ = some (.bool false) := u3
  have v4 : w.cell? ⟨0, 100, none⟩ = some (.bool false) := u4
  have v5 : w.cell? ⟨0, 101, none⟩ = some (.int .i64 0) := u5
  clear u0 u1 u2 u3 u4 u5
  have Hu := Lib.hid hu; clear hu
  go_enter Tryz.func70, Tryz.ntmps70
  go_wp2_with fail
  refine (isKind_any 16 _ (by decide) (by decide)).mono ?_
  rintro e w1 ⟨rfl, rfl⟩
  go_wp2_with fail
  refine (oWithin_any n 1073741824 _).mono ?_
  rintro e w1 ⟨rfl, rfl⟩
  rw [show decide (0 ≤ n ∧ n ≤ 1073741824) = true by simp [h0, h1]]
  go_wp2
  go_ret
  refine ⟨rfl, ?_⟩
  exact ((Below.refl _ _).alloc (Nat.le_refl _) _).alloc (by simp) _
theorem nameOk_port (k : Int) (h0 : 0 ≤ k) (h1 : k ≤ 1073741824) : NameOk (ofPortN k) := ⟨⟨emp_le, emp_le⟩, fun W hu => checkPort_any k W hu h0 h1⟩

set_option maxHeartbeats 400000 in
theorem isNumber_any (n : Int) (w : World) : Calls Tryz.prog 63 #[.int .i64 n] w fun r w' => r = .returned (.bool (numB n)) ∧ w = w' := by
  by_cases h1 : 0 ≤ n
  · by_cases h2 : n ≤ 1073741824
    · go_enter Tryz.func63, Tryz.ntmps63
      go_wp2
      go_ret
      exact ⟨by simp [numB, h1, h2], rfl⟩
    · go_enter Tryz.func63, Tryz.ntmps63
      go_wp2
      go_ret
      exact ⟨by simp [numB, h2], rfl⟩
  · go_enter Tryz.func63, Tryz.ntmps63
    go_wp2
    go_ret
    exact ⟨by simp [numB]; omega, rfl⟩
theorem isNumber_is (n : Int) (v : Bool) (h : numB n = v) (w : World) : Calls Tryz.prog 63 #[.int .i64 n] w fun r w' => r = .returned (.bool v) ∧ w = w' := by
  subst h; exact isNumber_any n w



set_option maxRecDepth 100000 in
set_option maxHeartbeats 1000000 in
theorem packCheck_any (src by_ : ByteArray) (w : World) (hs : src.size ≤ 9223372036854775807) (hb : by_.size ≤ 9223372036854775807) :
    Calls Tryz.prog 38 #[.agg #[.string src, .string by_]] w fun r w' => r = .returned (.int .i64 (packE ⟨src, by_⟩)) ∧ Below w.heap.size w w' := by
  have Hbx : Hid (∀ v t, Below w.heap.size w (w.alloc (.cells v t))) := fun v t => (Below.refl _ _).alloc (Nat.le_refl _) _
  cases h1 : wordB src with
  | false =>
    have he : Hid (packE ⟨src, by_⟩ = 12) := by show _ = _; simp [packE, h1]
    go_enter Tryz.func38, Tryz.ntmps38
    go_wp2_with fail
    refine (word_is src _ h1 _ hs).mono ?_
    rintro e w1 ⟨rfl, rfl⟩
    go_wp2
    go_ret
    rw [he.out]
    exact ⟨rfl, Hbx.out _ _⟩
  | true =>
    by_cases h2 : 512 < by_.size
    · have he : Hid (packE ⟨src, by_⟩ = 5) := by show _ = _; simp [packE, h1, h2]
      go_enter Tryz.func38, Tryz.ntmps38
      go_wp2_with fail
      refine (word_is src _ h1 _ hs).mono ?_
      rintro e w1 ⟨rfl, rfl⟩
      go_wp2
      go_ret
      rw [he.out]
      exact ⟨rfl, Hbx.out _ _⟩
    · have he : Hid (packE ⟨src, by_⟩ = 0) := by show _ = _; simp [packE, h1, h2]
      go_enter Tryz.func38, Tryz.ntmps38
      go_wp2_with fail
      refine (word_is src _ h1 _ hs).mono ?_
      rintro e w1 ⟨rfl, rfl⟩
      go_wp2
      go_ret
      rw [he.out]
      exact ⟨rfl, Hbx.out _ _⟩
theorem packCheck_is (src by_ : ByteArray) (q : Nat) (h : packE ⟨src, by_⟩ = q) (w : World) (hs : src.size ≤ 9223372036854775807) (hb : by_.size ≤ 9223372036854775807) :
    Calls Tryz.prog 38 #[.agg #[.string src, .string by_]] w fun r w' => r = .returned (.int .i64 q) ∧ Below w.heap.size w w' := by
  subst h; exact packCheck_any src by_ w hs hb

end Go.Proofs.YtijfdgoeppehlaaGreatDoor
