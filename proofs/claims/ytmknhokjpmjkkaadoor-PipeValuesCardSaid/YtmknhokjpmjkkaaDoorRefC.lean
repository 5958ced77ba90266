/- The reference of layer 32: Check. -/
import Derived.Test.YtmknhokjpmjkkaaDoorRefB
import Derived.Test.YtmknhokjpmjkkaaDoorPipA
namespace Go.Proofs.YtmknhokjpmjkkaaDoor
open Go.RowKit

set_option maxRecDepth 100000 in
set_option maxHeartbeats 4000000 in
theorem rfCheck_any (ep re wr : Int) (by_ : ByteArray) (w : World) :
    Calls Tryd.prog 51 #[.agg #[.int .i64 ep, .int .i64 re, .int .i64 wr, .string by_]] w fun r w' => r = .returned (.int .i64 (checkP ⟨ep, re, wr, by_⟩)) ∧ Below w.heap.size w w' := by
  have Hbx : Hid (∀ v t, Below w.heap.size w (w.alloc (.cells v t))) := fun v t => (Below.refl _ _).alloc (Nat.le_refl _) _
  by_cases hr : ep < 0 ∨ 1073741824 < ep ∨ re < 0 ∨ 64 < re ∨ wr < 0 ∨ 64 < wr
  · have he : Hid (checkP ⟨ep, re, wr, by_⟩ = 2) := by
      show _ = _
      unfold checkP pEpochB pEndsB
      rw [if_pos]
      simp
      omega
    have hways : ep < 0 ∨ (0 ≤ ep ∧ 1073741824 < ep) ∨ (0 ≤ ep ∧ ep ≤ 1073741824 ∧ re < 0) ∨ (0 ≤ ep ∧ ep ≤ 1073741824 ∧ 0 ≤ re ∧ 64 < re) ∨ (0 ≤ ep ∧ ep ≤ 1073741824 ∧ 0 ≤ re ∧ re ≤ 64 ∧ wr < 0) ∨ (0 ≤ ep ∧ ep ≤ 1073741824 ∧ 0 ≤ re ∧ re ≤ 64 ∧ 0 ≤ wr ∧ 64 < wr) := by omega
    clear hr
    rcases hways with a1 | ⟨a1, a2⟩ | ⟨a1, a2, a3⟩ | ⟨a1, a2, a3, a4⟩ | ⟨a1, a2, a3, a4, a5⟩ | ⟨a1, a2, a3, a4, a5, a6⟩
    all_goals
      go_enter Tryd.func51, Tryd.ntmps51
      go_wp2
      go_ret
      rw [he.out]
      exact ⟨rfl, Hbx.out _ _⟩
  · obtain ⟨a1, a2, a3, a4, a5, a6⟩ : 0 ≤ ep ∧ ep ≤ 1073741824 ∧ 0 ≤ re ∧ re ≤ 64 ∧ 0 ≤ wr ∧ wr ≤ 64 := by omega
    clear hr
    have h1 : pEpochB ep = true := by simp [pEpochB, a1, a2]
    have h2 : pEndsB re = true := by simp [pEndsB, a3, a4]
    have h3 : pEndsB wr = true := by simp [pEndsB, a5, a6]
    by_cases h4 : re = 0 ∧ wr = 0
    · have he : Hid (checkP ⟨ep, re, wr, by_⟩ = 1) := by show _ = _; simp [checkP, h1, h4.1, h4.2]; decide
      obtain ⟨rfl, rfl⟩ := h4
      clear h1 h2 h3
      go_enter Tryd.func51, Tryd.ntmps51
      go_wp2
      go_ret
      rw [he.out]
      exact ⟨rfl, Hbx.out _ _⟩
    · have hways : ((re == 0) = false) ∨ ((re == 0) = true ∧ (wr == 0) = false) := by
        by_cases h : re = 0
        · exact .inr ⟨by simp [h], by simp; intro h'; exact h4 ⟨h, h'⟩⟩
        · exact .inl (by simp [h])
      by_cases h5 : 256 < by_.size
      · have he : Hid (checkP ⟨ep, re, wr, by_⟩ = 5) := by show _ = _; simp [checkP, h1, h2, h3, h4, h5]
        clear h4 h1 h2 h3
        rcases hways with h4 | ⟨h4, h6⟩
        all_goals
          go_enter Tryd.func51, Tryd.ntmps51
          go_wp2
          go_ret
          rw [he.out]
          exact ⟨rfl, Hbx.out _ _⟩
      · have he : Hid (checkP ⟨ep, re, wr, by_⟩ = 0) := by show _ = _; simp [checkP, h1, h2, h3, h4, h5]
        clear h4 h1 h2 h3
        rcases hways with h4 | ⟨h4, h6⟩
        all_goals
          go_enter Tryd.func51, Tryd.ntmps51
          go_wp2
          go_ret
          rw [he.out]
          exact ⟨rfl, Hbx.out _ _⟩
theorem rfCheck_is (ep re wr : Int) (by_ : ByteArray) (q : Nat) (h : checkP ⟨ep, re, wr, by_⟩ = q) (w : World) :
    Calls Tryd.prog 51 #[.agg #[.int .i64 ep, .int .i64 re, .int .i64 wr, .string by_]] w fun r w' => r = .returned (.int .i64 q) ∧ Below w.heap.size w w' := by
  subst h; exact rfCheck_any ep re wr by_ w

end Go.Proofs.YtmknhokjpmjkkaaDoor
