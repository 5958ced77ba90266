/- view: Delete. view: Has. view: Mark. -/
import Derived.Test.YtfobmfenjdiimaaGreatDoorViewC
namespace Go.Proofs.YtfobmfenjdiimaaGreatDoor
open Go.RowKit
attribute [local go_sem ↓] Go.wp_at_zero Go.wp_at_succ

end Go.Proofs.YtfobmfenjdiimaaGreatDoor

namespace Go.Proofs.YtfobmfenjdiimaaGreatDoor
open Go.RowKit
attribute [local go_sem ↓] Go.wp_at_zero Go.wp_at_succ

end Go.Proofs.YtfobmfenjdiimaaGreatDoor

namespace Go.Proofs.YtfobmfenjdiimaaGreatDoor
open Go.RowKit
attribute [local go_sem ↓] Go.wp_at_zero Go.wp_at_succ

set_option maxRecDepth 100000 in
set_option maxHeartbeats 3200000 in
theorem vMark_any (h : VH) (V : AV) (w : World) (hv : ViewAt w h V) :
    Calls Tryz.prog 37 #[.pointer (some ⟨h.b, 0, none⟩)] w fun r w' => r = .returned (.int .i64 V.calls.length) ∧ w = w' := by
  obtain ⟨av, cap, hcv, _⟩ := row_form hv.calls
  have c2 : w.cell? ⟨h.b, 2, none⟩ = some (.slice av V.calls.length cap) := by rw [← hcv]; exact cell_of_heap hv.heap 2
  clear hv hcv
  generalize V.calls.length = N at *
  go_enter Tryz.func37, Tryz.ntmps37
  go_wp2
  go_ret
  exact ⟨rfl, rfl⟩

end Go.Proofs.YtfobmfenjdiimaaGreatDoor
