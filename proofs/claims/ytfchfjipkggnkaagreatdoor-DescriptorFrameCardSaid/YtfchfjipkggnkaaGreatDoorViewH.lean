/- view: Delete. view: Has. view: Mark. -/
import Derived.Test.YtfchfjipkggnkaaGreatDoorViewC
namespace Go.Proofs.YtfchfjipkggnkaaGreatDoor
open Go.RowKit
attribute [local go_sem ↓] Go.wp_at_zero Go.wp_at_succ

set_option maxRecDepth 100000 in
set_option maxHeartbeats 3200000 in
theorem vDel_any (h : VH) (V : AV) (n : NameT) (w : World) (hv : ViewAt w h V) (hn : NameOk n) (hlen : V.calls.length < 1000000) :
    Calls Tryz.prog 30 #[.pointer (some ⟨h.b, 0, none⟩), nameV n] w fun r w' => r = .returned (.int .i64 0) ∧ VPost h w ⟨V.base, V.reads, V.calls ++ [⟨n, ⟨#[]⟩, true⟩]⟩ w' := by
  have Hv := Lib.hid hv; clear hv
  have Hn := Lib.hid hn; clear hn
  have Hlen := Lib.hid hlen; clear hlen
  obtain ⟨nk, no, nn, ni, nt⟩ := n
  dsimp only [nameV] at *
  go_enter Tryz.func30, Tryz.ntmps30
  go_wp2_with fail
  refine (Hn.out.2 _ (Hv.out.usages.below ((Below.refl _ _).alloc (Nat.le_refl _) _) Hv.out.usages.pos)).mono ?_
  rintro e w1 ⟨rfl, hb1⟩
  have hb1' : Below w.heap.size w w1 := ((Below.refl _ _).alloc (Nat.le_refl _) _).trans (hb1.mono (by simp))
  have q : ∀ j, w1.cell? ⟨w.heap.size, j, none⟩ = (#[.int .i64 nk, .string no, .int .i64 nn, .int .i64 ni, .string nt] : Array Value)[j]? := fun j => ((bcell hb1).1 _ _ (by simp)).trans (cell_of_heap (World.alloc_heap_new w _) j)
  have q0 := q 0
  have q1 := q 1
  have q2 := q 2
  have q3 := q 3
  have q4 := q 4
  clear q hb1
  dsimp at q0 q1 q2 q3 q4
  have Hb1 := Lib.hid hb1'; clear hb1'
  go_wp2_with fail
  refine (vCall_any h V ⟨⟨nk, no, nn, ni, nt⟩, ⟨#[]⟩, true⟩ w1 (Hv.out.later Hb1.out) Hlen.out ⟨Hn.out, (show (⟨#[]⟩ : ByteArray).size ≤ 65536 by decide)⟩).mono ?_
  rintro e w2 ⟨rfl, hp⟩
  have Hp := Lib.hid hp; clear hp
  go_wp2
  go_ret
  exact ⟨rfl, VPost.after Hb1.out Hp.out⟩

end Go.Proofs.YtfchfjipkggnkaaGreatDoor

namespace Go.Proofs.YtfchfjipkggnkaaGreatDoor
open Go.RowKit
attribute [local go_sem ↓] Go.wp_at_zero Go.wp_at_succ

set_option maxRecDepth 100000 in
set_option maxHeartbeats 1600000 in
theorem vHas_any (h : VH) (V : AV) (n : NameT) (w : World) (hv : ViewAt w h V) (hn : NameOk n) :
    Calls Tryz.prog 31 #[.pointer (some ⟨h.b, 0, none⟩), nameV n] w fun r w' => r = .returned (.bool (avGet V n).2) ∧ VPost h w (avSeen V n) w' := by
  have Hv := Lib.hid hv; clear hv
  have Hn := Lib.hid hn; clear hn
  have Ha : Hid (∀ o, Below w.heap.size w (w.alloc o)) := fun o => (Below.refl _ _).alloc (Nat.le_refl _) _
  have Hg : Hid (∀ o, Calls Tryz.prog 28 #[.pointer (some ⟨h.b, 0, none⟩), nameV n] (w.alloc o) fun r w' => r = .returned (.tuple #[.string (avGet V n).1, .bool (avGet V n).2]) ∧ VPost h (w.alloc o) (avSeen V n) w') := fun o => vGet_any h V n _ (Hv.out.later (Ha.out o)) Hn.out
  obtain ⟨nk, no, nn, ni, nt⟩ := n
  dsimp only [nameV] at *
  go_enter Tryz.func31, Tryz.ntmps31
  go_wp2_with fail
  refine (Hg.out _).mono ?_
  rintro e w1 ⟨rfl, hp⟩
  have Hp := Lib.hid (VPost.after (Ha.out _) hp); clear hp
  generalize (avGet V ⟨nk, no, nn, ni, nt⟩).1 = s at *
  generalize hb : (avGet V ⟨nk, no, nn, ni, nt⟩).2 = b at *
  have Hb := Lib.hid hb; clear hb
  go_wp2
  go_ret
  rw [Hb.out]
  exact ⟨rfl, Hp.out⟩

end Go.Proofs.YtfchfjipkggnkaaGreatDoor

namespace Go.Proofs.YtfchfjipkggnkaaGreatDoor
open Go.RowKit
attribute [local go_sem ↓] Go.wp_at_zero Go.wp_at_succ

end Go.Proofs.YtfchfjipkggnkaaGreatDoor
