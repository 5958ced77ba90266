/- descriptor, upon a view whose value is known: Seek, Advance. (printed by wip/gen_dscq.py) -/
import Derived.Test.YtfchfjipkggnkaaDoorDscQ
namespace Go.Proofs.YtfchfjipkggnkaaDoor
open Go.RowKit

section
variable {w0 w : World} {b M : Nat} {V : AV} {G : Nat → Prop} (s : QM w0 w b M V G)
include s
set_option maxRecDepth 100000 in
set_option maxHeartbeats 1600000 in
theorem qdSeek (who : ByteArray) (hw : who.size ≤ 70368744177664) (fd d : Int) (hlen : V.calls.length < 1000000) : Calls Tryd.prog 22 #[.pointer (some ⟨b, 0, none⟩), .string who, .int .i64 fd, .int .i64 d] w (QMP w0 b M ((dOne who (moveF fd (fun _ => d))).run V).1 G w (.int .i64 ((dOne who (moveF fd (fun _ => d))).run V).2.E)) := by
  have hE0 : ∀ k, k = w.heap.size → w.heap.size ≤ k ∧ k < (w.alloc (.cells #[.int .i64 d] 3)).heap.size := fun k hk => by subst hk; simp
  have Q0 := Lib.hid (s.qi (W := (w.alloc (.cells #[.int .i64 d] 3))) (E := fun k => k = w.heap.size) ((Below.refl _ _).alloc (Nat.le_refl _) _) hE0)
  have hB : (w.alloc (.cells #[.int .i64 d] 3)).heap[w.heap.size]? = some (.cells #[.int .i64 d] 3 (0, 0)) := World.alloc_heap_new w _
  have HC := Lib.hid (qdMove Q0.out.s who hw fd hlen 48 w.heap.size (fun _ => d) (.inr rfl) ⟨_, hB⟩ (fun W old _ _ h => seekCl w.heap.size d old W (cell_of_heap (h.trans hB) 0)) (callFunc_d Tryd.func48 (by kernel_rfl) (by kernel_rfl)))
  clear hE0 s hlen hB
  go_enter Tryd.func22, Tryd.ntmps22
  go_wp2_with fail
  refine HC.out.mono ?_
  rintro r w2 ⟨rfl, s2, hk⟩
  have Q1 := Lib.hid (Q0.out.step s2 hk)
  clear s2 hk Q0 HC
  go_wp2
  go_ret
  exact Q1.out.post _
set_option maxRecDepth 100000 in
set_option maxHeartbeats 1600000 in
theorem qdAdvance (who : ByteArray) (hw : who.size ≤ 70368744177664) (fd d : Int) (hd : -9223372036854775808 ≤ d ∧ d ≤ 9223372036854775807) (hlen : V.calls.length < 1000000) : Calls Tryd.prog 23 #[.pointer (some ⟨b, 0, none⟩), .string who, .int .i64 fd, .int .i64 d] w (QMP w0 b M ((dOne who (moveF fd (advG d))).run V).1 G w (.int .i64 ((dOne who (moveF fd (advG d))).run V).2.E)) := by
  have hE0 : ∀ k, k = w.heap.size → w.heap.size ≤ k ∧ k < (w.alloc (.cells #[.int .i64 d] 3)).heap.size := fun k hk => by subst hk; simp
  have Q0 := Lib.hid (s.qi (W := (w.alloc (.cells #[.int .i64 d] 3))) (E := fun k => k = w.heap.size) ((Below.refl _ _).alloc (Nat.le_refl _) _) hE0)
  have hB : (w.alloc (.cells #[.int .i64 d] 3)).heap[w.heap.size]? = some (.cells #[.int .i64 d] 3 (0, 0)) := World.alloc_heap_new w _
  have HC := Lib.hid (qdMove Q0.out.s who hw fd hlen 49 w.heap.size (advG d) (.inr rfl) ⟨_, hB⟩ (fun W old h0 h1 h => advCl w.heap.size d old h0 h1 hd W (cell_of_heap (h.trans hB) 0)) (callFunc_d Tryd.func49 (by kernel_rfl) (by kernel_rfl)))
  clear hE0 s hlen hB
  go_enter Tryd.func23, Tryd.ntmps23
  go_wp2_with fail
  refine HC.out.mono ?_
  rintro r w2 ⟨rfl, s2, hk⟩
  have Q1 := Lib.hid (Q0.out.step s2 hk)
  clear s2 hk Q0 HC
  go_wp2
  go_ret
  exact Q1.out.post _
end
end Go.Proofs.YtfchfjipkggnkaaDoor
