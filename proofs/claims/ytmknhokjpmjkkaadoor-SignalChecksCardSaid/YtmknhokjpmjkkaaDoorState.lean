/- state: New, Get of the empty state. -/
import Derived.Test.YtmknhokjpmjkkaaDoorMaps
import Derived.Deep.RegionHeld3
import Derived.Deep.DrawnRows
import Derived.BigQuiet
namespace Go.Proofs.YtmknhokjpmjkkaaDoor
open Go.RowKit
attribute [local go_sem ↓] Go.wp_at_zero Go.wp_at_succ

set_option maxHeartbeats 400000 in
theorem stateNew_any (w : World) : Calls Tryd.prog 17 #[] w fun r w' => r = .returned (.pointer (some ⟨w.heap.size, 0, none⟩)) ∧ w' = w.alloc (.cells #[.pointer none] 124) := by
  go_enter Tryd.func17, Tryd.ntmps17
  go_wp2
  go_ret
  exact ⟨rfl, rfl⟩

set_option maxRecDepth 100000 in
set_option maxHeartbeats 800000 in
theorem findNil_any (n : NameT) (w : World) : Calls Tryd.prog 150 #[.pointer none, nameV n] w fun r w' => r = .returned (.pointer none) ∧ Below w.heap.size w w' := by
  unfold nameV
  go_enter Tryd.func150, Tryd.ntmps150
  go_wp2
  refine wp_loop_rounds 1 ?_
  rw [rounds_succ]
  go_wp2
  go_ret
  exact ⟨rfl, (Below.refl _ _).alloc (Nat.le_refl _) _⟩

/-- What the state's Get answers. -/
def GetPost (w : World) (v : Option ByteArray) (r : Ending) (w' : World) : Prop := r = .returned (.tuple #[.string (v.getD ⟨#[]⟩), .bool v.isSome]) ∧ Below w.heap.size w w'

set_option maxRecDepth 100000 in
set_option maxHeartbeats 1600000 in
theorem stateGet_empty (sp : Nat) (n : NameT) (w : World) (hc : w.cell? ⟨sp, 0, none⟩ = some (.pointer none)) :
    Calls Tryd.prog 116 #[.pointer (some ⟨sp, 0, none⟩), nameV n] w (GetPost w none) := by
  have hlt : sp < w.heap.size := World.block_lt_of_cell? w _ hc
  have hne := World.new_ne w ⟨sp, 0, none⟩ hc
  unfold nameV
  go_enter Tryd.func116, Tryd.ntmps116
  go_wp2
  go_region_held3 (fun w' => w'.cell? ⟨sp, 0, none⟩ = some (.pointer none) ∧ w'.cell? ⟨w.heap.size, 0, none⟩ = some (.int .i64 n.kind) ∧ w'.cell? ⟨w.heap.size, 1, none⟩ = some (.string n.owner) ∧ w'.cell? ⟨w.heap.size, 2, none⟩ = some (.int .i64 n.number) ∧ w'.cell? ⟨w.heap.size, 3, none⟩ = some (.int .i64 n.index) ∧ w'.cell? ⟨w.heap.size, 4, none⟩ = some (.string n.text)) (first | go_keep | (go_split_ands; refine ⟨?_, ?_, ?_, ?_, ?_, ?_⟩ <;> (rw [(bcell hb).1 _ _ (by simp <;> omega)]; go_keep)))
    (first | (go_at_call 150; refine (findNil_any n _).mono ?_; rintro e w1 ⟨rfl, hb⟩))
  all_goals go_wp2
  all_goals go_ret2
  all_goals exact ⟨rfl, (((Below.refl _ _).alloc (Nat.le_refl _) _).drew).trans (hb.mono (by simp))⟩

end Go.Proofs.YtmknhokjpmjkkaaDoor
