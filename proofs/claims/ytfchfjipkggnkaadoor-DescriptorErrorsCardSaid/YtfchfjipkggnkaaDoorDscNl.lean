/- descriptor without a view. (printed by wip/gen_dscnl.py) -/
import Derived.Test.YtfchfjipkggnkaaDoorDscO
import Derived.Test.YtfchfjipkggnkaaDoorDscQ
namespace Go.Proofs.YtfchfjipkggnkaaDoor
open Go.RowKit
attribute [local go_sem ↓] run_eql_opn run_neq_opn

theorem below_row {w w1 : World} (h : Below w.heap.size w w1) (cs : Array Value) : Below w.heap.size w (w1.setRow w.heap.size cs) :=
  h.grown (grown_setRow w1 w.heap.size cs) h.size (fun k hk => by cases hk; exact Nat.le_refl _)
set_option maxRecDepth 100000 in
set_option maxHeartbeats 3200000 in
theorem nAll (who : ByteArray) (w : World) : Calls Tryd.prog 27 #[.pointer none, .string who] w fun r w' => r = .returned (.tuple #[.agg (tabA zeroTab), .int .i64 1]) ∧ Below w.heap.size w w' := by
  have HB0 : Hid (Below w.heap.size w (w.alloc (.cells Tryd.zeroCells31 31))) := (Below.refl _ _).alloc (Nat.le_refl _) _
  have R0 := Lib.hid (new_tab0 w)
  have hsc := R0.out.store0
  have HT := Lib.hid (R0.out.set (t' := zeroTab) zeroTab_len)
  rw [← zero_tab] at HT
  have HF := Lib.hid (below_row HB0.out Tryd.zeroCells31)
  go_enter Tryd.func27, Tryd.ntmps27
  go_wp2
  refine bodyPost_ret (v := .tuple #[.agg (tabA zeroTab), .int .i64 1]) (results_tab rfl _ _ w.heap.size (by rfl) (by rfl) HT.out) rfl ?_
  exact ⟨rfl, HF.out⟩
set_option maxRecDepth 100000 in
set_option maxHeartbeats 3200000 in
theorem nOpen (who : ByteArray) (fd : Int) (w : World) : Calls Tryd.prog 46 #[.pointer none, .string who, .int .i64 fd] w fun r w' => r = .returned (.tuple #[.agg (tabA zeroTab), .int .i64 1]) ∧ Below w.heap.size w w' := by
  have HB0 : Hid (Below w.heap.size w (w.alloc (.cells Tryd.zeroCells31 31))) := (Below.refl _ _).alloc (Nat.le_refl _) _
  have R0 := Lib.hid (new_tab0 w)
  go_enter Tryd.func46, Tryd.ntmps46
  go_wp2_with fail
  refine (nAll who _).mono ?_
  rintro r w2 ⟨rfl, hb⟩
  have R1 := Lib.hid (R0.out.later hb)
  have HB1 := Lib.hid (HB0.out.trans (hb.mono HB0.out.size))
  clear R0 HB0
  have hns := new_store w2 zeroTab_len
  have hsz := tabA_128 zeroTab_len
  have hb3 : Below w2.heap.size w2 (w2.alloc (.cells (tabA zeroTab) 31)) := (Below.refl _ _).alloc (Nat.le_refl _) _
  have HB2 := Lib.hid (HB1.out.trans (hb3.mono HB1.out.size))
  have R2 := Lib.hid (R1.out.later hb3)
  clear hb hb3 HB1 R1
  have hsc := R2.out.store0
  have HT := Lib.hid (R2.out.set (t' := zeroTab) zeroTab_len)
  rw [← zero_tab] at HT
  have HF := Lib.hid (below_row HB2.out Tryd.zeroCells31)
  go_wp2
  refine bodyPost_ret (v := .tuple #[.agg (tabA zeroTab), .int .i64 1]) (results_tab rfl _ _ w.heap.size (by rfl) (by rfl) HT.out) rfl ?_
  exact ⟨rfl, HF.out⟩
set_option maxRecDepth 100000 in
set_option maxHeartbeats 3200000 in
theorem nDrop (who : ByteArray) (w : World) : Calls Tryd.prog 52 #[.pointer none, .string who] w fun r w' => r = .returned (.tuple #[.agg (tabA zeroTab), .int .i64 1]) ∧ Below w.heap.size w w' := by
  have HB0 : Hid (Below w.heap.size w (w.alloc (.cells Tryd.zeroCells31 31))) := (Below.refl _ _).alloc (Nat.le_refl _) _
  have R0 := Lib.hid (new_tab0 w)
  go_enter Tryd.func52, Tryd.ntmps52
  go_wp2_with fail
  refine (nAll who _).mono ?_
  rintro r w2 ⟨rfl, hb⟩
  have R1 := Lib.hid (R0.out.later hb)
  have HB1 := Lib.hid (HB0.out.trans (hb.mono HB0.out.size))
  clear R0 HB0
  have hns := new_store w2 zeroTab_len
  have hsz := tabA_128 zeroTab_len
  have hb3 : Below w2.heap.size w2 (w2.alloc (.cells (tabA zeroTab) 31)) := (Below.refl _ _).alloc (Nat.le_refl _) _
  have HB2 := Lib.hid (HB1.out.trans (hb3.mono HB1.out.size))
  have R2 := Lib.hid (R1.out.later hb3)
  clear hb hb3 HB1 R1
  have hsc := R2.out.store0
  have HT := Lib.hid (R2.out.set (t' := zeroTab) zeroTab_len)
  rw [← zero_tab] at HT
  have HF := Lib.hid (below_row HB2.out Tryd.zeroCells31)
  go_wp2
  refine bodyPost_ret (v := .tuple #[.agg (tabA zeroTab), .int .i64 1]) (results_tab rfl _ _ w.heap.size (by rfl) (by rfl) HT.out) rfl ?_
  exact ⟨rfl, HF.out⟩
set_option maxRecDepth 100000 in
set_option maxHeartbeats 3200000 in
theorem nGet (who : ByteArray) (fd : Int) (w : World) : Calls Tryd.prog 24 #[.pointer none, .string who, .int .i64 fd] w fun r w' => r = .returned (.tuple #[opnA ⟨0, ⟨#[]⟩, 0, 0, 0, false, false, false⟩, .int .i64 1]) ∧ Below w.heap.size w w' := by
  have HB0 : Hid (Below w.heap.size w (w.alloc (.cells #[.int .i64 0, .string ⟨#[]⟩, .int .i64 0, .int .i64 0, .int .i64 0, .bool false, .bool false, .bool false] 26))) := (Below.refl _ _).alloc (Nat.le_refl _) _
  have R0 : Hid (OpnAt (w.alloc (.cells #[.int .i64 0, .string ⟨#[]⟩, .int .i64 0, .int .i64 0, .int .i64 0, .bool false, .bool false, .bool false] 26)) w.heap.size ⟨0, ⟨#[]⟩, 0, 0, 0, false, false, false⟩) := World.alloc_heap_new w _
  go_enter Tryd.func24, Tryd.ntmps24
  go_wp2_with fail
  refine (nOpen who fd _).mono ?_
  rintro r w2 ⟨rfl, hb⟩
  have R1 := Lib.hid (R0.out.later hb)
  have HB1 := Lib.hid (HB0.out.trans (hb.mono HB0.out.size))
  clear R0 HB0
  have hns := new_store w2 zeroTab_len
  have hsz := tabA_128 zeroTab_len
  have hb3 : Below w2.heap.size w2 (w2.alloc (.cells (tabA zeroTab) 31)) := (Below.refl _ _).alloc (Nat.le_refl _) _
  have HB2 := Lib.hid (HB1.out.trans (hb3.mono HB1.out.size))
  have R2 := Lib.hid (R1.out.later hb3)
  clear hb hb3 HB1 R1
  obtain ⟨r0, r1, r2, r3, r4, r5, r6, r7⟩ := R2.out.cells
  have q0 := R2.out.free 0
  have q1 := R2.out.free 1
  have q2 := R2.out.free 2
  have q3 := R2.out.free 3
  have q4 := R2.out.free 4
  have q5 := R2.out.free 5
  have q6 := R2.out.free 6
  have q7 := R2.out.free 7
  have HT := Lib.hid (opn_stored R2.out ⟨0, ⟨#[]⟩, 0, 0, 0, false, false, false⟩)
  have HF := Lib.hid (HB2.out.grown (grown_set8 (w2.alloc (.cells (tabA zeroTab) 31)) w.heap.size (0) (1) (2) (3) (4) (5) (6) (7) (.int .i64 0) (.string ⟨#[]⟩) (.int .i64 0) (.int .i64 0) (.int .i64 0) (.bool false) (.bool false) (.bool false)) HB2.out.size (fun k hk => by cases hk; exact Nat.le_refl _))
  dsimp only at HT
  go_wp2
  refine bodyPost_ret (v := .tuple #[opnA ⟨0, ⟨#[]⟩, 0, 0, 0, false, false, false⟩, .int .i64 1]) (results_opn rfl _ _ w.heap.size (by rfl) (by rfl) HT.out) rfl ?_
  exact ⟨rfl, HF.out⟩
set_option maxRecDepth 100000 in
set_option maxHeartbeats 3200000 in
theorem nClose (who : ByteArray) (fd : Int) (w : World) : Calls Tryd.prog 21 #[.pointer none, .string who, .int .i64 fd] w fun r w' => r = .returned (.tuple #[opnA ⟨0, ⟨#[]⟩, 0, 0, 0, false, false, false⟩, .int .i64 1]) ∧ Below w.heap.size w w' := by
  have HB0 : Hid (Below w.heap.size w (w.alloc (.cells #[.int .i64 0, .string ⟨#[]⟩, .int .i64 0, .int .i64 0, .int .i64 0, .bool false, .bool false, .bool false] 26))) := (Below.refl _ _).alloc (Nat.le_refl _) _
  have R0 : Hid (OpnAt (w.alloc (.cells #[.int .i64 0, .string ⟨#[]⟩, .int .i64 0, .int .i64 0, .int .i64 0, .bool false, .bool false, .bool false] 26)) w.heap.size ⟨0, ⟨#[]⟩, 0, 0, 0, false, false, false⟩) := World.alloc_heap_new w _
  go_enter Tryd.func21, Tryd.ntmps21
  go_wp2_with fail
  refine (nOpen who fd _).mono ?_
  rintro r w2 ⟨rfl, hb⟩
  have R1 := Lib.hid (R0.out.later hb)
  have HB1 := Lib.hid (HB0.out.trans (hb.mono HB0.out.size))
  clear R0 HB0
  have hns := new_store w2 zeroTab_len
  have hsz := tabA_128 zeroTab_len
  have hb3 : Below w2.heap.size w2 (w2.alloc (.cells (tabA zeroTab) 31)) := (Below.refl _ _).alloc (Nat.le_refl _) _
  have HB2 := Lib.hid (HB1.out.trans (hb3.mono HB1.out.size))
  have R2 := Lib.hid (R1.out.later hb3)
  clear hb hb3 HB1 R1
  obtain ⟨r0, r1, r2, r3, r4, r5, r6, r7⟩ := R2.out.cells
  have q0 := R2.out.free 0
  have q1 := R2.out.free 1
  have q2 := R2.out.free 2
  have q3 := R2.out.free 3
  have q4 := R2.out.free 4
  have q5 := R2.out.free 5
  have q6 := R2.out.free 6
  have q7 := R2.out.free 7
  have HT := Lib.hid (opn_stored R2.out ⟨0, ⟨#[]⟩, 0, 0, 0, false, false, false⟩)
  have HF := Lib.hid (HB2.out.grown (grown_set8 (w2.alloc (.cells (tabA zeroTab) 31)) w.heap.size (0) (1) (2) (3) (4) (5) (6) (7) (.int .i64 0) (.string ⟨#[]⟩) (.int .i64 0) (.int .i64 0) (.int .i64 0) (.bool false) (.bool false) (.bool false)) HB2.out.size (fun k hk => by cases hk; exact Nat.le_refl _))
  dsimp only at HT
  go_wp2
  refine bodyPost_ret (v := .tuple #[opnA ⟨0, ⟨#[]⟩, 0, 0, 0, false, false, false⟩, .int .i64 1]) (results_opn rfl _ _ w.heap.size (by rfl) (by rfl) HT.out) rfl ?_
  exact ⟨rfl, HF.out⟩
set_option maxRecDepth 100000 in
set_option maxHeartbeats 3200000 in
theorem nDup (who : ByteArray) (fd : Int) (w : World) : Calls Tryd.prog 20 #[.pointer none, .string who, .int .i64 fd] w fun r w' => r = .returned (.tuple #[.int .i64 0, .int .i64 1]) ∧ Below w.heap.size w w' := by
  go_enter Tryd.func20, Tryd.ntmps20
  go_wp2_with fail
  refine (nOpen who fd _).mono ?_
  rintro r w2 ⟨rfl, hb⟩
  have HB1 := Lib.hid hb
  have hns := new_store w2 zeroTab_len
  have hsz := tabA_128 zeroTab_len
  have hb3 : Below w2.heap.size w2 (w2.alloc (.cells (tabA zeroTab) 31)) := (Below.refl _ _).alloc (Nat.le_refl _) _
  have HB2 := Lib.hid (HB1.out.trans (hb3.mono HB1.out.size))
  clear hb hb3 HB1
  go_wp2
  go_ret2
  exact ⟨rfl, HB2.out⟩
set_option maxRecDepth 100000 in
set_option maxHeartbeats 3200000 in
theorem nMake (who : ByteArray) (w : World) : Calls Tryd.prog 17 #[.pointer none, .string who] w fun r w' => r = .returned (.int .i64 1) ∧ Below w.heap.size w w' := by
  go_enter Tryd.func17, Tryd.ntmps17
  go_wp2
  go_ret
  exact ⟨rfl, Below.refl _ _⟩
set_option maxRecDepth 100000 in
set_option maxHeartbeats 3200000 in
theorem nCopy (who to : ByteArray) (w : World) : Calls Tryd.prog 51 #[.pointer none, .string who, .string to] w fun r w' => r = .returned (.int .i64 1) ∧ Below w.heap.size w w' := by
  go_enter Tryd.func51, Tryd.ntmps51
  go_wp2
  go_ret
  exact ⟨rfl, Below.refl _ _⟩
set_option maxRecDepth 100000 in
set_option maxHeartbeats 3200000 in
theorem nAdd (who : ByteArray) (kd : Int) (mak : ByteArray) (bn num off : Int) (rd wr ap : Bool) (w : World) : Calls Tryd.prog 18 #[.pointer none, .string who, .agg #[.int .i64 kd, .string mak, .int .i64 bn, .int .i64 num, .int .i64 off, .bool rd, .bool wr, .bool ap]] w fun r w' => r = .returned (.tuple #[.int .i64 0, .int .i64 1]) ∧ Below w.heap.size w w' := by
  go_enter Tryd.func18, Tryd.ntmps18
  go_wp2
  go_ret2
  exact ⟨rfl, (Below.refl _ _).alloc (Nat.le_refl _) _⟩
set_option maxRecDepth 100000 in
set_option maxHeartbeats 3200000 in
theorem nPut (who : ByteArray) (fd : Int) (kd : Int) (mak : ByteArray) (bn num off : Int) (rd wr ap : Bool) (w : World) : Calls Tryd.prog 53 #[.pointer none, .string who, .int .i64 fd, .agg #[.int .i64 kd, .string mak, .int .i64 bn, .int .i64 num, .int .i64 off, .bool rd, .bool wr, .bool ap]] w fun r w' => r = .returned (.tuple #[opnA ⟨0, ⟨#[]⟩, 0, 0, 0, false, false, false⟩, .int .i64 1]) ∧ Below w.heap.size w w' := by
  have hbx : Below w.heap.size w (w.alloc (.cells #[.int .i64 kd, .string mak, .int .i64 bn, .int .i64 num, .int .i64 off, .bool rd, .bool wr, .bool ap] 26)) := (Below.refl _ _).alloc (Nat.le_refl _) _
  have HB0 : Hid (Below w.heap.size w ((w.alloc (.cells #[.int .i64 kd, .string mak, .int .i64 bn, .int .i64 num, .int .i64 off, .bool rd, .bool wr, .bool ap] 26)).alloc (.cells #[.int .i64 0, .string ⟨#[]⟩, .int .i64 0, .int .i64 0, .int .i64 0, .bool false, .bool false, .bool false] 26))) := hbx.alloc (by simp) _
  have R0 : Hid (OpnAt ((w.alloc (.cells #[.int .i64 kd, .string mak, .int .i64 bn, .int .i64 num, .int .i64 off, .bool rd, .bool wr, .bool ap] 26)).alloc (.cells #[.int .i64 0, .string ⟨#[]⟩, .int .i64 0, .int .i64 0, .int .i64 0, .bool false, .bool false, .bool false] 26)) (w.heap.size + 1) ⟨0, ⟨#[]⟩, 0, 0, 0, false, false, false⟩) := by
    have := World.alloc_heap_new (w.alloc (.cells #[.int .i64 kd, .string mak, .int .i64 bn, .int .i64 num, .int .i64 off, .bool rd, .bool wr, .bool ap] 26)) (.cells #[.int .i64 0, .string ⟨#[]⟩, .int .i64 0, .int .i64 0, .int .i64 0, .bool false, .bool false, .bool false] 26)
    rw [World.size_alloc] at this
    exact this
  clear hbx
  go_enter Tryd.func53, Tryd.ntmps53
  go_upto_region 2 with fail
  obtain ⟨wy, hwy⟩ : ∃ wy, ((w.alloc (.cells #[.int .i64 kd, .string mak, .int .i64 bn, .int .i64 num, .int .i64 off, .bool rd, .bool wr, .bool ap] 26)).alloc (.cells #[.int .i64 0, .string ⟨#[]⟩, .int .i64 0, .int .i64 0, .int .i64 0, .bool false, .bool false, .bool false] 26)) = wy := ⟨_, rfl⟩
  rw [hwy] at HB0 R0 ⊢
  clear hwy
  obtain ⟨r0, r1, r2, r3, r4, r5, r6, r7⟩ := R0.out.cells
  have q0 := R0.out.free 0
  have q1 := R0.out.free 1
  have q2 := R0.out.free 2
  have q3 := R0.out.free 3
  have q4 := R0.out.free 4
  have q5 := R0.out.free 5
  have q6 := R0.out.free 6
  have q7 := R0.out.free 7
  have HT := Lib.hid (opn_stored R0.out ⟨0, ⟨#[]⟩, 0, 0, 0, false, false, false⟩)
  have HF := Lib.hid (HB0.out.grown (grown_set8 wy (w.heap.size + 1) (0) (1) (2) (3) (4) (5) (6) (7) (.int .i64 0) (.string ⟨#[]⟩) (.int .i64 0) (.int .i64 0) (.int .i64 0) (.bool false) (.bool false) (.bool false)) HB0.out.size (fun k hk => by cases hk; omega))
  dsimp only at HT
  go_wp2
  refine bodyPost_ret (v := .tuple #[opnA ⟨0, ⟨#[]⟩, 0, 0, 0, false, false, false⟩, .int .i64 1]) (results_opn rfl _ _ (w.heap.size + 1) (by rfl) (by rfl) HT.out) rfl ?_
  exact ⟨rfl, HF.out⟩
set_option maxRecDepth 100000 in
set_option maxHeartbeats 3200000 in
theorem nMove (who : ByteArray) (fd : Int) (f : Value) (w : World) : Calls Tryd.prog 47 #[.pointer none, .string who, .int .i64 fd, f] w fun r w' => r = .returned (.int .i64 1) ∧ Below w.heap.size w w' := by
  go_enter Tryd.func47, Tryd.ntmps47
  go_wp2_with fail
  refine (nOpen who fd _).mono ?_
  rintro r w2 ⟨rfl, hb⟩
  have HB1 := Lib.hid hb
  have hns := new_store w2 zeroTab_len
  have hsz := tabA_128 zeroTab_len
  have hb3 : Below w2.heap.size w2 (w2.alloc (.cells (tabA zeroTab) 31)) := (Below.refl _ _).alloc (Nat.le_refl _) _
  have HB2 := Lib.hid (HB1.out.trans (hb3.mono HB1.out.size))
  clear hb hb3 HB1
  go_wp2
  go_ret
  exact ⟨rfl, HB2.out⟩
set_option maxRecDepth 100000 in
set_option maxHeartbeats 3200000 in
theorem nSeek (who : ByteArray) (fd d : Int) (w : World) : Calls Tryd.prog 22 #[.pointer none, .string who, .int .i64 fd, .int .i64 d] w fun r w' => r = .returned (.int .i64 1) ∧ Below w.heap.size w w' := by
  have HB0 : Hid (∀ v t, Below w.heap.size w (w.alloc (.cells v t))) := fun v t => (Below.refl _ _).alloc (Nat.le_refl _) _
  go_enter Tryd.func22, Tryd.ntmps22
  go_wp2_with fail
  refine (nMove who fd _ _).mono ?_
  rintro r w2 ⟨rfl, hb⟩
  have HB1 := Lib.hid ((HB0.out _ _).trans (hb.mono (HB0.out _ _).size))
  clear hb HB0
  go_wp2
  go_ret
  exact ⟨rfl, HB1.out⟩
set_option maxRecDepth 100000 in
set_option maxHeartbeats 3200000 in
theorem nAdvance (who : ByteArray) (fd d : Int) (w : World) : Calls Tryd.prog 23 #[.pointer none, .string who, .int .i64 fd, .int .i64 d] w fun r w' => r = .returned (.int .i64 1) ∧ Below w.heap.size w w' := by
  have HB0 : Hid (∀ v t, Below w.heap.size w (w.alloc (.cells v t))) := fun v t => (Below.refl _ _).alloc (Nat.le_refl _) _
  go_enter Tryd.func23, Tryd.ntmps23
  go_wp2_with fail
  refine (nMove who fd _ _).mono ?_
  rintro r w2 ⟨rfl, hb⟩
  have HB1 := Lib.hid ((HB0.out _ _).trans (hb.mono (HB0.out _ _).size))
  clear hb HB0
  go_wp2
  go_ret
  exact ⟨rfl, HB1.out⟩
end Go.Proofs.YtfchfjipkggnkaaDoor
