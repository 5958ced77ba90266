/- view: Has. -/
import Derived.Test.YtemmeopaihmlcaaGreatDoorViewD
namespace Go.Proofs.YtemmeopaihmlcaaGreatDoor
open Go.RowKit
attribute [local go_sem ↓] Go.wp_at_zero Go.wp_at_succ

set_option maxRecDepth 100000 in
set_option maxHeartbeats 1600000 in
theorem vHas_any (h : VH) (V : AV) (n : NameT) (w : World) (hv : ViewAt w h V) (hn : NameOk n) :
    Calls Tryz.prog 83 #[.pointer (some ⟨h.b, 0, none⟩), nameV n] w fun r w' => r = .returned (.bool (avGet V n).2) ∧ VPost h w (avSeen V n) w' := by
  have Hv := Lib.hid hv; clear hv
  have Hn := Lib.hid hn; clear hn
  have Ha : Hid (∀ o, Below w.heap.size w (w.alloc o)) := fun o => (Below.refl _ _).alloc (Nat.le_refl _) _
  have Hg : Hid (∀ o, Calls Tryz.prog 57 #[.pointer (some ⟨h.b, 0, none⟩), nameV n] (w.alloc o) fun r w' => r = .returned (.tuple #[.string (avGet V n).1, .bool (avGet V n).2]) ∧ VPost h (w.alloc o) (avSeen V n) w') := fun o => vGet_any h V n _ (Hv.out.later (Ha.out o)) Hn.out
  obtain ⟨nk, no, nn, ni, nt⟩ := n
  dsimp only [nameV] at *
  go_enter Tryz.func83, Tryz.ntmps83
  go_wp2_with fail
  refine (Hg.out _).mono ?_
  rintro e w1 ⟨rfl, hp⟩
  have Hp := Lib.hid (VPost.after (Ha.out _) hp); clear hp
  generalize (avGet V ⟨nk, no, nn, ni, nt⟩).1 = s at *
  generalize hb : (avGet V ⟨nk, no, nn, ni, nt⟩).2 = b at *
  have Hb := Lib.hid hb; clear hb
  go_wp2
  go_ret
  rw [Hb.out]
  exact ⟨rfl, Hp.out⟩

end Go.Proofs.YtemmeopaihmlcaaGreatDoor
