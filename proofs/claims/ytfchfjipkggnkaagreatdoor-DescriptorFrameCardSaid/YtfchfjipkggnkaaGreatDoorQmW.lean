/- A view upon a state of at most M objects: Writes, After. -/
import Derived.Test.YtfchfjipkggnkaaGreatDoorQmC
import Derived.Test.YtfchfjipkggnkaaGreatDoorAftB
namespace Go.Proofs.YtfchfjipkggnkaaGreatDoor
open Go.RowKit
section
variable {w0 w : World} {b M : Nat} {V V' : AV} {G : Nat → Prop} {e : Int} (s : QM w0 w b M V G)
include s
theorem qmWrites : Calls Tryz.prog 18 #[.pointer (some ⟨b, 0, none⟩)] w fun r w' => ∃ v cs, r = .returned v ∧ RowC w' v cs ∧ cs.Perm (writesU V.calls) ∧ SortedC cs ∧ Below w.heap.size w w' ∧ QM w0 w' b M V G := by
  have s' := s
  obtain ⟨⟨h, hv, hn, rfl, h2, h4⟩, h5⟩ := s
  refine (writes_any h V w hv).mono ?_
  rintro r w' ⟨v, cs, h1, h2, h3, h4, h6⟩
  exact ⟨v, cs, h1, h2, h3, h4, h6, s'.later h6⟩
theorem qmAfter (hN : M + V.calls.length < 60000) : Calls Tryz.prog 22 #[.pointer (some ⟨b, 0, none⟩)] w fun r w' => ∃ sp', r = .returned (.tuple #[.pointer (some ⟨sp', 0, none⟩), .int .i64 0]) ∧ Below w.heap.size w w' ∧ BaseN (M + V.calls.length) w'.heap.size w' sp' (stOf V) := by
  obtain ⟨⟨h, hv, hn, rfl, h2, h4⟩, h5⟩ := s
  exact after_any M h V w hv hn hN
end
end Go.Proofs.YtfchfjipkggnkaaGreatDoor
