/- pipe: the calls without a view. PipeErrors: what the calls answer, plain. -/
import Derived.Test.YtemmeopaihmlcaaGreatDoorPipH
import Derived.Test.YtemmeopaihmlcaaGreatDoorQvA
import Derived.Test.YtemmeopaihmlcaaGreatDoorPipK
import Derived.Test.YtemmeopaihmlcaaGreatDoorRefH
import Derived.Test.YtemmeopaihmlcaaGreatDoorStaG
namespace Go.Proofs.YtemmeopaihmlcaaGreatDoor
open Go.RowKit
attribute [local go_sem ↓] Go.wp_at_zero Go.wp_at_succ

set_option maxRecDepth 100000 in
set_option maxHeartbeats 800000 in
theorem pCheckNil_any (m : ByteArray) (k e : Int) (w : World) : Calls Tryz.prog 81 #[.pointer none, .agg #[.string m, .int .i64 k], .int .i64 e] w fun r w' => r = .returned (.int .i64 1) ∧ Below w.heap.size w w' := by
  have HB : Hid (∀ o1, Below w.heap.size w (w.alloc o1)) := fun o1 => (Below.refl _ _).alloc (Nat.le_refl _) _
  go_enter Tryz.func81, Tryz.ntmps81
  go_wp2
  go_ret
  exact ⟨rfl, HB.out _⟩
set_option maxRecDepth 100000 in
set_option maxHeartbeats 800000 in
theorem pGetNil_any (m : ByteArray) (k e : Int) (w : World) : Calls Tryz.prog 30 #[.pointer none, .agg #[.string m, .int .i64 k], .int .i64 e] w fun r w' => r = .returned (.tuple #[.agg #[.int .i64 0, .int .i64 0, .int .i64 0, .string ⟨#[]⟩], .int .i64 1]) ∧ Below w.heap.size w w' := by
  have HB : Hid (∀ o1 o2, Below w.heap.size w ((w.alloc o1).alloc o2)) := fun o1 o2 => ((Below.refl _ _).alloc (Nat.le_refl _) _).alloc (by simp) _
  have HY : Hid (∀ o1 o2, ((w.alloc o1).alloc o2).heap[w.heap.size + 1]? = some o2) := fun o1 o2 => second_new w o1 o2
  go_enter Tryz.func30, Tryz.ntmps30
  go_wp2_with fail
  refine (pCheckNil_any _ _ _ _).mono ?_
  rintro r w1 ⟨rfl, hb⟩
  have HB1 : Hid (Below w.heap.size w w1) := (HB.out _ _).trans (hb.mono (by simp; omega))
  have hY := (hb.block _ (lt_of_heap (HY.out _ _))).trans (HY.out _ _)
  have r0 : w1.cell? ⟨w.heap.size + 1, 0, none⟩ = some (.int .i64 0) := cell_of_heap hY 0
  have r1 : w1.cell? ⟨w.heap.size + 1, 1, none⟩ = some (.int .i64 0) := cell_of_heap hY 1
  have r2 : w1.cell? ⟨w.heap.size + 1, 2, none⟩ = some (.int .i64 0) := cell_of_heap hY 2
  have r3 : w1.cell? ⟨w.heap.size + 1, 3, none⟩ = some (.string ⟨#[]⟩) := cell_of_heap hY 3
  have g0 : w1.frozen? ⟨w.heap.size + 1, 0, none⟩ = false := frozen_of_heap hY 0
  have g1 : w1.frozen? ⟨w.heap.size + 1, 1, none⟩ = false := frozen_of_heap hY 1
  have g2 : w1.frozen? ⟨w.heap.size + 1, 2, none⟩ = false := frozen_of_heap hY 2
  have g3 : w1.frozen? ⟨w.heap.size + 1, 3, none⟩ = false := frozen_of_heap hY 3
  clear hb hY HB HY
  go_wp2
  refine bodyPost_ret (v := .tuple #[.agg #[.int .i64 0, .int .i64 0, .int .i64 0, .string ⟨#[]⟩], .int .i64 1]) (by simp [results, Tryz.results30, go_sem, r0, r1, r2, r3]) rfl ?_
  exact ⟨rfl, Below.grownRow HB1.out (grown_trans (grown_trans (grown_trans (grown_setCell _ _ _ _) (grown_setCell _ _ _ _)) (grown_setCell _ _ _ _)) (grown_setCell _ _ _ _)) (Nat.le_refl _) (fun k hk => by cases hk; omega)⟩
set_option maxRecDepth 100000 in
set_option maxHeartbeats 800000 in
theorem pChangeNil_any (m : ByteArray) (k e : Int) (f : Value) (w : World) : Calls Tryz.prog 86 #[.pointer none, .agg #[.string m, .int .i64 k], .int .i64 e, f] w fun r w' => r = .returned (.int .i64 1) ∧ Below w.heap.size w w' := by
  have HB : Hid (∀ o1, Below w.heap.size w (w.alloc o1)) := fun o1 => (Below.refl _ _).alloc (Nat.le_refl _) _
  go_enter Tryz.func86, Tryz.ntmps86
  go_wp2_with fail
  refine (pGetNil_any _ _ _ _).mono ?_
  rintro r w1 ⟨rfl, hb⟩
  have HB1 : Hid (Below w.heap.size w w1) := (HB.out _).trans (hb.mono (by simp))
  clear hb HB
  go_wp2
  go_ret
  exact ⟨rfl, HB1.out.alloc HB1.out.size _⟩

set_option maxRecDepth 100000 in
set_option maxHeartbeats 800000 in
theorem pMakeNil_any (m : ByteArray) (k e : Int) (w : World) : Calls Tryz.prog 31 #[.pointer none, .agg #[.string m, .int .i64 k], .int .i64 e] w fun r w' => r = .returned (.int .i64 1) ∧ Below w.heap.size w w' := by
  have hmf : ∀ (fn : Fn) (first cap : Array Value) (w : World), (Instr.makeFunc fn first cap).run Tryz.prog w = .ok (.func fn first cap) w := fun _ _ _ _ => rfl
  have HB : Hid (∀ o1, Below w.heap.size w (w.alloc o1)) := fun o1 => ((Below.refl _ _).alloc (Nat.le_refl _) _)
  go_enter Tryz.func31, Tryz.ntmps31
  go_wp2_with fail
  refine (pCheckNil_any _ _ _ _).mono ?_
  rintro r w1 ⟨rfl, hb⟩
  have HB1 : Hid (Below w.heap.size w w1) := (HB.out _).trans (hb.mono (by simp))
  clear hb HB
  go_wp2
  go_ret
  exact ⟨rfl, HB1.out⟩
set_option maxRecDepth 100000 in
set_option maxHeartbeats 800000 in
theorem pJoinNil_any (m : ByteArray) (k e : Int) (b : Bool) (w : World) : Calls Tryz.prog 35 #[.pointer none, .agg #[.string m, .int .i64 k], .int .i64 e, .bool b] w fun r w' => r = .returned (.int .i64 1) ∧ Below w.heap.size w w' := by
  have hmf : ∀ (fn : Fn) (first cap : Array Value) (w : World), (Instr.makeFunc fn first cap).run Tryz.prog w = .ok (.func fn first cap) w := fun _ _ _ _ => rfl
  have HB : Hid (∀ o1 o2, Below w.heap.size w ((w.alloc o1).alloc o2)) := fun o1 o2 => (((Below.refl _ _).alloc (Nat.le_refl _) _).alloc (by simp) _)
  go_enter Tryz.func35, Tryz.ntmps35
  go_wp2_with fail
  refine (pChangeNil_any _ _ _ _ _).mono ?_
  rintro r w1 ⟨rfl, hb⟩
  have HB1 : Hid (Below w.heap.size w w1) := (HB.out _ _).trans (hb.mono (by simp; omega))
  clear hb HB
  go_wp2
  go_ret
  exact ⟨rfl, HB1.out⟩
set_option maxRecDepth 100000 in
set_option maxHeartbeats 800000 in
theorem pLeaveNil_any (m : ByteArray) (k e : Int) (b : Bool) (w : World) : Calls Tryz.prog 36 #[.pointer none, .agg #[.string m, .int .i64 k], .int .i64 e, .bool b] w fun r w' => r = .returned (.int .i64 1) ∧ Below w.heap.size w w' := by
  have hmf : ∀ (fn : Fn) (first cap : Array Value) (w : World), (Instr.makeFunc fn first cap).run Tryz.prog w = .ok (.func fn first cap) w := fun _ _ _ _ => rfl
  have HB : Hid (∀ o1 o2, Below w.heap.size w ((w.alloc o1).alloc o2)) := fun o1 o2 => (((Below.refl _ _).alloc (Nat.le_refl _) _).alloc (by simp) _)
  go_enter Tryz.func36, Tryz.ntmps36
  go_wp2_with fail
  refine (pChangeNil_any _ _ _ _ _).mono ?_
  rintro r w1 ⟨rfl, hb⟩
  have HB1 : Hid (Below w.heap.size w w1) := (HB.out _ _).trans (hb.mono (by simp; omega))
  clear hb HB
  go_wp2
  go_ret
  exact ⟨rfl, HB1.out⟩
set_option maxRecDepth 100000 in
set_option maxHeartbeats 800000 in
theorem pReadNil_any (m : ByteArray) (k e : Int) (n : Int) (w : World) : Calls Tryz.prog 32 #[.pointer none, .agg #[.string m, .int .i64 k], .int .i64 e, .int .i64 n] w fun r w' => r = .returned (.tuple #[.string ⟨#[]⟩, .int .i64 1]) ∧ Below w.heap.size w w' := by
  have hmf : ∀ (fn : Fn) (first cap : Array Value) (w : World), (Instr.makeFunc fn first cap).run Tryz.prog w = .ok (.func fn first cap) w := fun _ _ _ _ => rfl
  have HB : Hid (∀ o1 o2 o3, Below w.heap.size w (((w.alloc o1).alloc o2).alloc o3)) := fun o1 o2 o3 => ((((Below.refl _ _).alloc (Nat.le_refl _) _).alloc (by simp) _).alloc (by simp; omega) _)
  go_enter Tryz.func32, Tryz.ntmps32
  go_wp2_with fail
  refine (pChangeNil_any _ _ _ _ _).mono ?_
  rintro r w1 ⟨rfl, hb⟩
  have HB1 : Hid (Below w.heap.size w w1) := (HB.out _ _ _).trans (hb.mono (by simp; omega))
  clear hb HB
  go_wp2
  go_ret2
  exact ⟨rfl, HB1.out⟩
set_option maxRecDepth 100000 in
set_option maxHeartbeats 800000 in
theorem pWriteNil_any (m : ByteArray) (k e : Int) (s : ByteArray) (w : World) : Calls Tryz.prog 34 #[.pointer none, .agg #[.string m, .int .i64 k], .int .i64 e, .string s] w fun r w' => r = .returned (.tuple #[.int .i64 0, .int .i64 1]) ∧ Below w.heap.size w w' := by
  have hmf : ∀ (fn : Fn) (first cap : Array Value) (w : World), (Instr.makeFunc fn first cap).run Tryz.prog w = .ok (.func fn first cap) w := fun _ _ _ _ => rfl
  have HB : Hid (∀ o1 o2 o3, Below w.heap.size w (((w.alloc o1).alloc o2).alloc o3)) := fun o1 o2 o3 => ((((Below.refl _ _).alloc (Nat.le_refl _) _).alloc (by simp) _).alloc (by simp; omega) _)
  go_enter Tryz.func34, Tryz.ntmps34
  go_wp2_with fail
  refine (pChangeNil_any _ _ _ _ _).mono ?_
  rintro r w1 ⟨rfl, hb⟩
  have HB1 : Hid (Below w.heap.size w w1) := (HB.out _ _ _).trans (hb.mono (by simp; omega))
  clear hb HB
  go_wp2
  go_ret2
  exact ⟨rfl, HB1.out⟩
end Go.Proofs.YtemmeopaihmlcaaGreatDoor

namespace Go.Proofs.YtemmeopaihmlcaaGreatDoor
open Go.RowKit
attribute [local go_sem ↓] Go.wp_at_zero Go.wp_at_succ

def fiveM : ByteArray := ⟨#[53]⟩
theorem five_valid : validB fiveM = true := by decide +kernel
theorem five_ne (k : Int) : ofPipe fiveM k ≠ ofPipe oneM 2 := fun h => by
  have := (NameT.mk.inj h).2.1
  exact absurd this (by decide)
/-- The view of a state that holds a value at the pipe. -/
def peV (s : ByteArray) : AV := ⟨setF (fun _ => none) (ofPipe oneM 2) s, [], []⟩
theorem avGet_base {V : AV} (hc : V.calls = []) (n : NameT) : avGet V n = ((V.base n).getD ⟨#[]⟩, (V.base n).isSome) := by
  unfold avGet
  rw [hc]
  rfl
/-- A view that has seen, and nothing else. -/
structure Seen (s : ByteArray) (V : AV) : Prop where
  base : V.base = setF (fun _ => none) (ofPipe oneM 2) s
  calls : V.calls = []
variable {s : ByteArray} {V : AV}
theorem Seen.start (s : ByteArray) : Seen s (peV s) := ⟨rfl, rfl⟩
theorem Seen.next (h : Seen s V) (n : NameT) : Seen s (avSeen V n) := ⟨(avSeen_base V n).trans h.base, (avSeen_calls V n).trans h.calls⟩
theorem Seen.one (h : Seen s V) : avGet V (ofPipe oneM 2) = (s, true) := by
  rw [avGet_base h.calls, h.base]
  simp [setF]
theorem Seen.five (h : Seen s V) (k : Int) : avGet V (ofPipe fiveM k) = (⟨#[]⟩, false) := by
  rw [avGet_base h.calls, h.base]
  simp [setF, five_ne k]
theorem Seen.ready1 (h : Seen s V) (hs : s.size ≤ 100) : PReady V oneM 2 := ⟨one_size, by rw [h.one]; dsimp only; omega, by rw [h.calls]; decide⟩
theorem Seen.ready5 (h : Seen s V) (k : Int) : PReady V fiveM k := ⟨by decide, by rw [h.five k]; decide, by rw [h.calls]; decide⟩
theorem args3 : pArgs oneM 2 3 = 0 := one_args (by decide)
/-- What Get says of a value. -/
def peQ (s : ByteArray) : Nat := if (decP_ s).2 ≠ 0 ∨ (decP_ s).1.epoch ≠ 3 then 8 else 0
def peP (s : ByteArray) : PipeT := if (decP_ s).2 ≠ 0 ∨ (decP_ s).1.epoch ≠ 3 then zeroP else (decP_ s).1
theorem Seen.get (h : Seen s V) : pGet V oneM 2 3 = (peP s, peQ s) := by
  unfold pGet peP peQ
  rw [args3, if_neg (by simp), h.one, ofPV_true]
  split <;> rfl
theorem Seen.seen (h : Seen s V) : Seen s (pSeen V oneM 2 3) := by
  unfold pSeen
  rw [args3, if_neg (by simp)]
  exact h.next _
theorem Seen.make (h : Seen s V) : pMake V oneM 2 3 = (avSeen V (ofPipe oneM 2), 13) := by
  unfold pMake
  rw [args3, if_neg (by simp), h.one, if_pos rfl]
/-- What Read says of another birth. -/
def peW (k e : Int) : Nat := if pArgs fiveM k e ≠ 0 then pArgs fiveM k e else 8
theorem Seen.read (h : Seen s V) (k e : Int) : (pChange (opRead 1) V fiveM k e).2 = peW k e := by
  have hg : (pGet V fiveM k e).2 = peW k e := by
    unfold pGet peW ofPV
    rw [h.five k]
    split
    · rfl
    · rfl
  have hne : peW k e ≠ 0 := by
    unfold peW
    split
    · assumption
    · decide
  unfold pChange
  rw [if_pos (by rw [hg]; exact hne)]
  exact hg
theorem birth5 (k : Int) : birthB fiveM k = if 0 ≤ k ∧ k ≤ 1073741824 then 0 else 2 := by
  unfold birthB
  rw [if_neg (by rw [five_valid]; simp)]
theorem peW_bad {k : Int} (e : Int) (hk : ¬ (0 ≤ k ∧ k ≤ 1073741824)) : peW k e = 2 ∧ birthB fiveM k = 2 := by
  have h : birthB fiveM k = 2 := by rw [birth5, if_neg hk]
  unfold peW pArgs
  rw [h]
  exact ⟨rfl, rfl⟩
theorem peW_ep {k e : Int} (hk : 0 ≤ k ∧ k ≤ 1073741824) (he : ¬ (0 ≤ e ∧ e ≤ 1073741824)) : peW k e = 2 ∧ birthB fiveM k = 0 := by
  have h : birthB fiveM k = 0 := by rw [birth5, if_pos hk]
  have h2 : pEpochB e = false := decide_eq_false he
  unfold peW pArgs
  rw [h, h2]
  exact ⟨rfl, rfl⟩
theorem peW_ok {k e : Int} (hk : 0 ≤ k ∧ k ≤ 1073741824) (he : 0 ≤ e ∧ e ≤ 1073741824) : peW k e = 8 ∧ birthB fiveM k = 0 := by
  have h : birthB fiveM k = 0 := by rw [birth5, if_pos hk]
  have h2 : pEpochB e = true := decide_eq_true he
  unfold peW pArgs
  rw [h, h2]
  exact ⟨rfl, rfl⟩
theorem peNew (w w5 : World) (hu : Usages w5) (sp : Nat) (s : ByteArray) (hb : Below w.heap.size w w5) (h : BaseOk w5.heap.size w5 sp (setF (fun _ => none) (ofPipe oneM 2) s)) :
    Calls Tryz.prog 17 #[.pointer (some ⟨sp, 0, none⟩)] w5 fun r w' => r = .returned (.pointer (some ⟨w5.heap.size + 2, 0, none⟩)) ∧ QV w w' (w5.heap.size + 2) (peV s) (fun _ => False) :=
  (viewNew_any sp _ w5 hu h).mono fun _ _ ⟨h1, h2, h3⟩ => ⟨h1, qv_new hb h2 h3⟩
end Go.Proofs.YtemmeopaihmlcaaGreatDoor
