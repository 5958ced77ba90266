/- reference 08: before, After, Before. -/
import Derived.Test.YteiddebjbiadbaaGmT
import Derived.Test.YteiddebjbiadbaaGmS
namespace Go.Proofs.Yteiddebjbiadbaa
open Go.RowKit Gr
attribute [local go_sem ↓] Go.wp_at_zero Go.wp_at_succ

def befB (a b : Int × Int) : Bool := decide (a.1 < b.1) || (decide (a.1 = b.1) && decide (a.2 < b.2))
theorem before_any (a b : Int × Int) (w : World) : Calls Try.prog 49 #[.agg #[.int .i64 a.1, .int .i64 a.2], .agg #[.int .i64 b.1, .int .i64 b.2]] w fun r w' => r = .returned (.bool (befB a b)) ∧ Below w.heap.size w w' := by
  obtain ⟨x1, hx1⟩ : ∃ x1, w.alloc (.cells #[.int .i64 a.1, .int .i64 a.2] 71) = x1 := ⟨_, rfl⟩
  have z1 : x1.heap.size = w.heap.size + 1 := by rw [← hx1, World.size_alloc]
  obtain ⟨x2, hx2⟩ : ∃ x2, x1.alloc (.cells #[.int .i64 b.1, .int .i64 b.2] 71) = x2 := ⟨_, rfl⟩
  have b1 : Below w.heap.size w x1 := by rw [← hx1]; exact (Below.refl _ _).alloc (Nat.le_refl _) _
  have b2 : Below x1.heap.size x1 x2 := by rw [← hx2]; exact (Below.refl _ _).alloc (Nat.le_refl _) _
  have r1 : RowIs x1 w.heap.size 71 [.int .i64 a.1, .int .i64 a.2] := by rw [← hx1]; exact new_row _ _ _
  have r2 : RowIs x2 (w.heap.size + 1) 71 [.int .i64 b.1, .int .i64 b.2] := by rw [← hx2, ← z1]; exact new_row _ _ _
  have hB : Below w.heap.size w x2 := b1.trans (b2.mono (by omega))
  have p1 := (r1.later b2).cell (i := 0) rfl
  have p2 := (r1.later b2).cell (i := 1) rfl
  have p3 := r2.cell (i := 0) rfl
  have p4 := r2.cell (i := 1) rfl
  have HB := Lib.hid hB
  have Hx1 := Lib.hid hx1
  have Hx2 := Lib.hid hx2
  obtain ⟨a1, a2⟩ := a
  obtain ⟨c1, c2⟩ := b
  dsimp only at *
  clear z1 b1 b2 r1 r2 hB hx1 hx2
  obtain ⟨e, he⟩ : ∃ e, befB (a1, a2) (c1, c2) = e := ⟨_, rfl⟩
  rw [he]
  unfold befB at he
  dsimp only at he
  have He := Lib.hid he
  clear he
  go_enter Try.func49, Try.ntmps49
  go_upto_region 1 with fail
  rw [Hx1.out, Hx2.out]
  clear Hx1 Hx2
  by_cases h1 : a1 < c1
  · obtain rfl : e = true := by rw [← He.out, decide_eq_true h1]; rfl
    go_wp2
    go_ret
    exact ⟨rfl, HB.out⟩
  · by_cases h2 : a1 = c1
    · by_cases h3 : a2 < c2
      · obtain rfl : e = true := by rw [← He.out, decide_eq_false h1, decide_eq_true h2, decide_eq_true h3]; rfl
        go_wp2
        go_ret
        exact ⟨rfl, HB.out⟩
      · obtain rfl : e = false := by rw [← He.out, decide_eq_false h1, decide_eq_true h2, decide_eq_false h3]; rfl
        go_wp2
        go_ret
        exact ⟨rfl, HB.out⟩
    · obtain rfl : e = false := by rw [← He.out, decide_eq_false h1, decide_eq_false h2]; rfl
      go_wp2
      go_ret
      exact ⟨rfl, HB.out⟩
end Go.Proofs.Yteiddebjbiadbaa
