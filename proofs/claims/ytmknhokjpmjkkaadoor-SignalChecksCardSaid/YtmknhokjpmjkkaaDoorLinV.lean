/- lineage: Valid. -/
import Derived.Test.YtmknhokjpmjkkaaDoorLinC
namespace Go.Proofs.YtmknhokjpmjkkaaDoor
open Go.RowKit

set_option maxRecDepth 100000 in
set_option maxHeartbeats 1000000 in
theorem valid_any (s : ByteArray) (hs : s.size ≤ 70368744177664) (w : World) :
    Calls Tryd.prog 29 #[.string s] w fun r W' => r = .returned (.bool (validB s)) ∧ Below w.heap.size w W' := by
  go_enter Tryd.func29, Tryd.ntmps29
  go_wp2_with fail
  refine (lParse_any s hs _).mono ?_
  rintro e w1 ⟨⟨n, p, rfl⟩, hb⟩
  generalize hq0 : lineErr s.data.toList = q at *
  have Hq0 := Lib.hid hq0; clear hq0
  by_cases hq : q = 0
  · subst hq
    go_wp2
    go_ret
    exact ⟨by simp [validB, Hq0.out], hb⟩
  · have hq' : ((q : Int) == 0) = false := beq_eq_false_iff_ne.2 (by omega)
    have Hq := Lib.hid hq; clear hq
    go_wp2
    go_ret
    exact ⟨by simp [validB, Hq0.out, Hq.out], hb⟩

theorem valid_is (s : ByteArray) (v : Bool) (hs : s.size ≤ 70368744177664) (h : validB s = v) (w : World) :
    Calls Tryd.prog 29 #[.string s] w fun r W' => r = .returned (.bool v) ∧ Below w.heap.size w W' := by
  subst h; exact valid_any s hs w

end Go.Proofs.YtmknhokjpmjkkaaDoor
