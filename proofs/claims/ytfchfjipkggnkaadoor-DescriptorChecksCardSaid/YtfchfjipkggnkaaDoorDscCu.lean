/- Law 31: cut. (printed by wip/gen_dsccu.py) -/
import Derived.Test.YtfchfjipkggnkaaDoorDscO
namespace Go.Proofs.YtfchfjipkggnkaaDoor
open Go.RowKit

def cutB (s : ByteArray) (n : Nat) : ByteArray := if (n : Int) < (s.size : Int) then s.extract 0 n else s
theorem cutB_size (s : ByteArray) (n : Nat) : (cutB s n).size ≤ n := by
  unfold cutB
  split
  · rw [ByteArray.size_extract]; omega
  · omega
def cutO (o : OpnT) : OpnT := ⟨o.kd, cutB o.mak 80, o.bn, o.num, o.off, o.rd, o.wr, o.ap⟩
theorem opn_mak {w : World} {X : Nat} {o : OpnT} (h : OpnAt w X o) (m2 : ByteArray) : OpnAt (w.setCell ⟨X, 1, none⟩ (.string m2)) X ⟨o.kd, m2, o.bn, o.num, o.off, o.rd, o.wr, o.ap⟩ := by
  have := heap_setCell_same h 1 (.string m2)
  exact this
set_option maxRecDepth 100000 in
set_option maxHeartbeats 3200000 in
theorem cut31_in (kd : Int) (mak m2 : ByteArray) (bn num off : Int) (rd wr ap : Bool) (w : World) (hm : mak.size ≤ 9223372036854775807) (hcut : ((80 : Int) < (mak.size : Int) ∧ mak.extract 0 80 = m2) ∨ (¬ (80 : Int) < (mak.size : Int) ∧ mak = m2)) :
    Calls Tryd.prog 8 #[.agg #[.int .i64 kd, .string mak, .int .i64 bn, .int .i64 num, .int .i64 off, .bool rd, .bool wr, .bool ap]] w fun r w' => r = .returned (.agg #[.int .i64 kd, .string m2, .int .i64 bn, .int .i64 num, .int .i64 off, .bool rd, .bool wr, .bool ap]) ∧ Below w.heap.size w w' := by
  have Hcut := Lib.hid hcut; clear hcut
  have HB0 : Hid (Below w.heap.size w ((w.alloc (.cells #[.int .i64 kd, .string mak, .int .i64 bn, .int .i64 num, .int .i64 off, .bool rd, .bool wr, .bool ap] 26)).alloc (.cells #[.int .i64 0, .string ⟨#[]⟩, .int .i64 0, .int .i64 0, .int .i64 0, .bool false, .bool false, .bool false] 26))) := ((Below.refl _ _).alloc (Nat.le_refl _) _).alloc (by simp) _
  have X0 : Hid (OpnAt ((w.alloc (.cells #[.int .i64 kd, .string mak, .int .i64 bn, .int .i64 num, .int .i64 off, .bool rd, .bool wr, .bool ap] 26)).alloc (.cells #[.int .i64 0, .string ⟨#[]⟩, .int .i64 0, .int .i64 0, .int .i64 0, .bool false, .bool false, .bool false] 26)) w.heap.size ⟨kd, mak, bn, num, off, rd, wr, ap⟩) := (Below.heap_alloc _ _ _ (by simp)).trans (World.alloc_heap_new w _)
  have Y0 : Hid (OpnAt ((w.alloc (.cells #[.int .i64 kd, .string mak, .int .i64 bn, .int .i64 num, .int .i64 off, .bool rd, .bool wr, .bool ap] 26)).alloc (.cells #[.int .i64 0, .string ⟨#[]⟩, .int .i64 0, .int .i64 0, .int .i64 0, .bool false, .bool false, .bool false] 26)) (w.heap.size + 1) ⟨0, ⟨#[]⟩, 0, 0, 0, false, false, false⟩) := by
    have := World.alloc_heap_new (w.alloc (.cells #[.int .i64 kd, .string mak, .int .i64 bn, .int .i64 num, .int .i64 off, .bool rd, .bool wr, .bool ap] 26)) (.cells #[.int .i64 0, .string ⟨#[]⟩, .int .i64 0, .int .i64 0, .int .i64 0, .bool false, .bool false, .bool false] 26)
    rw [World.size_alloc] at this
    exact this
  go_enter Tryd.func8, Tryd.ntmps8
  go_upto_region 1 with fail
  obtain ⟨w1, hw1⟩ : ∃ w1, ((w.alloc (.cells #[.int .i64 kd, .string mak, .int .i64 bn, .int .i64 num, .int .i64 off, .bool rd, .bool wr, .bool ap] 26)).alloc (.cells #[.int .i64 0, .string ⟨#[]⟩, .int .i64 0, .int .i64 0, .int .i64 0, .bool false, .bool false, .bool false] 26)) = w1 := ⟨_, rfl⟩
  rw [hw1] at HB0 X0 Y0 ⊢
  clear hw1
  have g1 : w1.grownBy (w1.setCell ⟨w.heap.size, 1, none⟩ (.string m2)) (some w.heap.size) := grown_setCell _ _ _ _
  have HB1 : Hid (Below w.heap.size w (w1.setCell ⟨w.heap.size, 1, none⟩ (.string m2))) := HB0.out.grown g1 HB0.out.size (fun k hk => by cases hk; exact Nat.le_refl _)
  have X1 : Hid (OpnAt (w1.setCell ⟨w.heap.size, 1, none⟩ (.string m2)) w.heap.size ⟨kd, m2, bn, num, off, rd, wr, ap⟩) := opn_mak X0.out m2
  have Y1 : Hid (OpnAt (w1.setCell ⟨w.heap.size, 1, none⟩ (.string m2)) (w.heap.size + 1) ⟨0, ⟨#[]⟩, 0, 0, 0, false, false, false⟩) := (g1.block _ (lt_of_heap Y0.out) (by simp)).trans Y0.out
  obtain ⟨c0, c1, c2, c3, c4, c5, c6, c7⟩ := X0.out.cells
  have q1 := X0.out.free 1
  clear g1 HB0 X0 Y0
  rcases Hcut.out with ⟨hc, ewn⟩ | ⟨hc, ewn⟩
  case' inl => (clear Hcut; go_upto_region 2 with fail; (try rw [ewn]); clear ewn)
  case' inr => (obtain rfl : m2 = mak := ewn.symm; clear Hcut; go_upto_region 2 with fail)
  all_goals
    clear c0 c1 c2 c3 c4 c5 c6 c7 q1 hc
  all_goals
    obtain ⟨w3, hw3⟩ : ∃ w3, (w1.setCell ⟨w.heap.size, 1, none⟩ (.string m2)) = w3 := ⟨_, rfl⟩
    rw [hw3] at HB1 X1 Y1 ⊢
    clear hw3
    obtain ⟨c0, c1, c2, c3, c4, c5, c6, c7⟩ := X1.out.cells
    obtain ⟨d0, d1, d2, d3, d4, d5, d6, d7⟩ := Y1.out.cells
    have q0 := Y1.out.free 0
    have q1 := Y1.out.free 1
    have q2 := Y1.out.free 2
    have q3 := Y1.out.free 3
    have q4 := Y1.out.free 4
    have q5 := Y1.out.free 5
    have q6 := Y1.out.free 6
    have q7 := Y1.out.free 7
    have HT := Lib.hid (opn_stored Y1.out ⟨kd, m2, bn, num, off, rd, wr, ap⟩)
    have HF : Hid (Below w.heap.size w ((((((((w3.setCell ⟨(w.heap.size + 1), 0, none⟩ (.int .i64 kd)).setCell ⟨(w.heap.size + 1), 1, none⟩ (.string m2)).setCell ⟨(w.heap.size + 1), 2, none⟩ (.int .i64 bn)).setCell ⟨(w.heap.size + 1), 3, none⟩ (.int .i64 num)).setCell ⟨(w.heap.size + 1), 4, none⟩ (.int .i64 off)).setCell ⟨(w.heap.size + 1), 5, none⟩ (.bool rd)).setCell ⟨(w.heap.size + 1), 6, none⟩ (.bool wr)).setCell ⟨(w.heap.size + 1), 7, none⟩ (.bool ap))) := HB1.out.grown (grown_set8 _ _ _ _ _ _ _ _ _ _ _ _ _ _ _ _ _ _) HB1.out.size (fun k hk => by cases hk; omega)
    dsimp only at HT
    clear HB1 X1 Y1
    go_wp2
    refine bodyPost_ret (v := .agg #[.int .i64 kd, .string m2, .int .i64 bn, .int .i64 num, .int .i64 off, .bool rd, .bool wr, .bool ap]) (results_cell_row rfl _ _ (w.heap.size + 1) _ _ _ _ (by rfl) HT.out Tryd.underlying26 rfl infoOpn) rfl ?_
    exact ⟨rfl, HF.out⟩
theorem cut31_any (kd : Int) (mak : ByteArray) (bn num off : Int) (rd wr ap : Bool) (w : World) (hm : mak.size ≤ 9223372036854775807) : Calls Tryd.prog 8 #[.agg #[.int .i64 kd, .string mak, .int .i64 bn, .int .i64 num, .int .i64 off, .bool rd, .bool wr, .bool ap]] w fun r w' => r = .returned (.agg #[.int .i64 kd, .string (cutB mak 80), .int .i64 bn, .int .i64 num, .int .i64 off, .bool rd, .bool wr, .bool ap]) ∧ Below w.heap.size w w' := by
  refine cut31_in kd mak (cutB mak 80) bn num off rd wr ap w hm ?_
  by_cases h : (80 : Int) < (mak.size : Int)
  · exact .inl ⟨h, (if_pos h).symm⟩
  · exact .inr ⟨h, (if_neg h).symm⟩
end Go.Proofs.YtfchfjipkggnkaaDoor
