/- Law 31: cut. (printed by wip/gen_dsccu.py) Law 31: check. (printed by wip/gen_dsck31.py) -/
import Derived.Test.YtfchfjipkggnkaaGreatDoorDscO
namespace Go.Proofs.YtfchfjipkggnkaaGreatDoor
open Go.RowKit

def cutB (s : ByteArray) (n : Nat) : ByteArray := if (n : Int) < (s.size : Int) then s.extract 0 n else s
theorem cutB_size (s : ByteArray) (n : Nat) : (cutB s n).size ≤ n := by
  unfold cutB
  split
  · rw [ByteArray.size_extract]; omega
  · omega
theorem opn_mak {w : World} {X : Nat} {o : OpnT} (h : OpnAt w X o) (m2 : ByteArray) : OpnAt (w.setCell ⟨X, 1, none⟩ (.string m2)) X ⟨o.kd, m2, o.bn, o.num, o.off, o.rd, o.wr, o.ap⟩ := by
  have := heap_setCell_same h 1 (.string m2)
  exact this
set_option maxRecDepth 100000 in
set_option maxHeartbeats 3200000 in
theorem cut31_in (kd : Int) (mak m2 : ByteArray) (bn num off : Int) (rd wr ap : Bool) (w : World) (hm : mak.size ≤ 9223372036854775807) (hcut : ((80 : Int) < (mak.size : Int) ∧ mak.extract 0 80 = m2) ∨ (¬ (80 : Int) < (mak.size : Int) ∧ mak = m2)) :
    Calls Tryz.prog 14 #[.agg #[.int .i64 kd, .string mak, .int .i64 bn, .int .i64 num, .int .i64 off, .bool rd, .bool wr, .bool ap]] w fun r w' => r = .returned (.agg #[.int .i64 kd, .string m2, .int .i64 bn, .int .i64 num, .int .i64 off, .bool rd, .bool wr, .bool ap]) ∧ Below w.heap.size w w' := by
  have Hcut := Lib.hid hcut; clear hcut
  have HB0 : Hid (Below w.heap.size w ((w.alloc (.cells #[.int .i64 kd, .string mak, .int .i64 bn, .int .i64 num, .int .i64 off, .bool rd, .bool wr, .bool ap] 34)).alloc (.cells #[.int .i64 0, .string ⟨#[]⟩, .int .i64 0, .int .i64 0, .int .i64 0, .bool false, .bool false, .bool false] 34))) := ((Below.refl _ _).alloc (Nat.le_refl _) _).alloc (by simp) _
  have X0 : Hid (OpnAt ((w.alloc (.cells #[.int .i64 kd, .string mak, .int .i64 bn, .int .i64 num, .int .i64 off, .bool rd, .bool wr, .bool ap] 34)).alloc (.cells #[.int .i64 0, .string ⟨#[]⟩, .int .i64 0, .int .i64 0, .int .i64 0, .bool false, .bool false, .bool false] 34)) w.heap.size ⟨kd, mak, bn, num, off, rd, wr, ap⟩) := (Below.heap_alloc _ _ _ (by simp)).trans (World.alloc_heap_new w _)
  have Y0 : Hid (OpnAt ((w.alloc (.cells #[.int .i64 kd, .string mak, .int .i64 bn, .int .i64 num, .int .i64 off, .bool rd, .bool wr, .bool ap] 34)).alloc (.cells #[.int .i64 0, .string ⟨#[]⟩, .int .i64 0, .int .i64 0, .int .i64 0, .bool false, .bool false, .bool false] 34)) (w.heap.size + 1) ⟨0, ⟨#[]⟩, 0, 0, 0, false, false, false⟩) := by
    have := World.alloc_heap_new (w.alloc (.cells #[.int .i64 kd, .string mak, .int .i64 bn, .int .i64 num, .int .i64 off, .bool rd, .bool wr, .bool ap] 34)) (.cells #[.int .i64 0, .string ⟨#[]⟩, .int .i64 0, .int .i64 0, .int .i64 0, .bool false, .bool false, .bool false] 34)
    rw [World.size_alloc] at this
    exact this
  go_enter Tryz.func14, Tryz.ntmps14
  go_upto_region 1 with fail
  obtain ⟨w1, hw1⟩ : ∃ w1, ((w.alloc (.cells #[.int .i64 kd, .string mak, .int .i64 bn, .int .i64 num, .int .i64 off, .bool rd, .bool wr, .bool ap] 34)).alloc (.cells #[.int .i64 0, .string ⟨#[]⟩, .int .i64 0, .int .i64 0, .int .i64 0, .bool false, .bool false, .bool false] 34)) = w1 := ⟨_, rfl⟩
  rw [hw1] at HB0 X0 Y0 ⊢
  clear hw1
  have g1 : w1.grownBy (w1.setCell ⟨w.heap.size, 1, none⟩ (.string m2)) (some w.heap.size) := grown_setCell _ _ _ _
  have HB1 : Hid (Below w.heap.size w (w1.setCell ⟨w.heap.size, 1, none⟩ (.string m2))) := HB0.out.grown g1 HB0.out.size (fun k hk => by cases hk; exact Nat.le_refl _)
  have X1 : Hid (OpnAt (w1.setCell ⟨w.heap.size, 1, none⟩ (.string m2)) w.heap.size ⟨kd, m2, bn, num, off, rd, wr, ap⟩) := opn_mak X0.out m2
  have Y1 : Hid (OpnAt (w1.setCell ⟨w.heap.size, 1, none⟩ (.string m2)) (w.heap.size + 1) ⟨0, ⟨#[]⟩, 0, 0, 0, false, false, false⟩) := (g1.block _ (lt_of_heap Y0.out) (by simp)).trans Y0.out
  obtain ⟨c0, c1, c2, c3, c4, c5, c6, c7⟩ := X0.out.cells
  have q1 := X0.out.free 1
  clear g1 HB0 X0 Y0
  rcases Hcut.out with ⟨hc, ewn⟩ | ⟨hc, ewn⟩
  case' inl => (clear Hcut; go_upto_region 2 with fail; (try rw [ewn]); clear ewn)
  case' inr => (obtain rfl : m2 = mak := ewn.symm; clear Hcut; go_upto_region 2 with fail)
  all_goals
    clear c0 c1 c2 c3 c4 c5 c6 c7 q1 hc
  all_goals
    obtain ⟨w3, hw3⟩ : ∃ w3, (w1.setCell ⟨w.heap.size, 1, none⟩ (.string m2)) = w3 := ⟨_, rfl⟩
    rw [hw3] at HB1 X1 Y1 ⊢
    clear hw3
    obtain ⟨c0, c1, c2, c3, c4, c5, c6, c7⟩ := X1.out.cells
    obtain ⟨d0, d1, d2, d3, d4, d5, d6, d7⟩ := Y1.out.cells
    have q0 := Y1.out.free 0
    have q1 := Y1.out.free 1
    have q2 := Y1.out.free 2
    have q3 := Y1.out.free 3
    have q4 := Y1.out.free 4
    have q5 := Y1.out.free 5
    have q6 := Y1.out.free 6
    have q7 := Y1.out.free 7
    have HT := Lib.hid (opn_stored Y1.out ⟨kd, m2, bn, num, off, rd, wr, ap⟩)
    have HF : Hid (Below w.heap.size w ((((((((w3.setCell ⟨(w.heap.size + 1), 0, none⟩ (.int .i64 kd)).setCell ⟨(w.heap.size + 1), 1, none⟩ (.string m2)).setCell ⟨(w.heap.size + 1), 2, none⟩ (.int .i64 bn)).setCell ⟨(w.heap.size + 1), 3, none⟩ (.int .i64 num)).setCell ⟨(w.heap.size + 1), 4, none⟩ (.int .i64 off)).setCell ⟨(w.heap.size + 1), 5, none⟩ (.bool rd)).setCell ⟨(w.heap.size + 1), 6, none⟩ (.bool wr)).setCell ⟨(w.heap.size + 1), 7, none⟩ (.bool ap))) := HB1.out.grown (grown_set8 _ _ _ _ _ _ _ _ _ _ _ _ _ _ _ _ _ _) HB1.out.size (fun k hk => by cases hk; omega)
    dsimp only at HT
    clear HB1 X1 Y1
    go_wp2
    refine bodyPost_ret (v := .agg #[.int .i64 kd, .string m2, .int .i64 bn, .int .i64 num, .int .i64 off, .bool rd, .bool wr, .bool ap]) (results_cell_row rfl _ _ (w.heap.size + 1) _ _ _ _ (by rfl) HT.out Tryz.underlying34 rfl infoOpn) rfl ?_
    exact ⟨rfl, HF.out⟩
theorem cut31_any (kd : Int) (mak : ByteArray) (bn num off : Int) (rd wr ap : Bool) (w : World) (hm : mak.size ≤ 9223372036854775807) : Calls Tryz.prog 14 #[.agg #[.int .i64 kd, .string mak, .int .i64 bn, .int .i64 num, .int .i64 off, .bool rd, .bool wr, .bool ap]] w fun r w' => r = .returned (.agg #[.int .i64 kd, .string (cutB mak 80), .int .i64 bn, .int .i64 num, .int .i64 off, .bool rd, .bool wr, .bool ap]) ∧ Below w.heap.size w w' := by
  refine cut31_in kd mak (cutB mak 80) bn num off rd wr ap w hm ?_
  by_cases h : (80 : Int) < (mak.size : Int)
  · exact .inl ⟨h, (if_pos h).symm⟩
  · exact .inr ⟨h, (if_neg h).symm⟩
end Go.Proofs.YtfchfjipkggnkaaGreatDoor

namespace Go.Proofs.YtfchfjipkggnkaaGreatDoor
open Go.RowKit
attribute [local go_sem ↓] run_eql_opn run_neq_opn run_neq_birth

set_option maxRecDepth 100000 in
set_option maxHeartbeats 6400000 in
theorem check31_any (kd : Int) (mak : ByteArray) (bn num off : Int) (rd wr ap : Bool) (w : World) (hm : mak.size ≤ 70368744177664) : Calls Tryz.prog 46 #[.agg #[.int .i64 kd, .string mak, .int .i64 bn, .int .i64 num, .int .i64 off, .bool rd, .bool wr, .bool ap]] w fun r w' => r = .returned (.int .i64 (checkO ⟨kd, mak, bn, num, off, rd, wr, ap⟩)) ∧ Below w.heap.size w w' := by
  have HA : Hid (∀ o, Below w.heap.size w (w.alloc o)) := fun o => (Below.refl _ _).alloc (Nat.le_refl _) _
  have HO : Hid (OpnAt (w.alloc (.cells #[.int .i64 kd, .string mak, .int .i64 bn, .int .i64 num, .int .i64 off, .bool rd, .bool wr, .bool ap] 34)) w.heap.size ⟨kd, mak, bn, num, off, rd, wr, ap⟩) := World.alloc_heap_new w _
  by_cases hk : kd < 1 ∨ 5 < kd
  · have hf : Hid (checkO ⟨kd, mak, bn, num, off, rd, wr, ap⟩ = 11) := if_pos hk
    have hk2 : kd < 1 ∨ (¬ kd < 1 ∧ 5 < kd) := by omega
    clear hk HO
    go_enter Tryz.func46, Tryz.ntmps46
    rcases hk2 with h1 | ⟨h1, h2⟩
    all_goals
      go_wp2
      go_ret
      rw [hf.out]
      exact ⟨rfl, HA.out _⟩
  have h1 : ¬ kd < 1 := by omega
  have h2 : ¬ 5 < kd := by omega
  have Hc : Hid (checkO ⟨kd, mak, bn, num, off, rd, wr, ap⟩ = if formedO ⟨kd, mak, bn, num, off, rd, wr, ap⟩ = false then 3 else if num < 0 ∨ 9999 < num ∨ off < 0 ∨ 4096 < off then 2 else if kd = 1 ∨ kd = 2 ∨ kd = 3 then birthO mak bn else 0) := if_neg hk
  clear hk
  go_enter Tryz.func46, Tryz.ntmps46
  rcases (by omega : kd = 1 ∨ kd = 2 ∨ kd = 3 ∨ kd = 4 ∨ kd = 5) with rfl | rfl | rfl | rfl | rfl
  · by_cases z : num = 0
    · subst z
      cases rd <;> cases wr <;> cases ap
      · have hf : Hid (checkO ⟨1, mak, bn, 0, off, false, false, false⟩ = 3) := Hc.out.trans (if_pos (by rfl))
        clear Hc
        go_wp2
        go_ret
        rw [hf.out]
        exact ⟨rfl, HA.out _⟩
      · have hf : Hid (checkO ⟨1, mak, bn, 0, off, false, false, true⟩ = 3) := Hc.out.trans (if_pos (by rfl))
        clear Hc
        go_wp2
        go_ret
        rw [hf.out]
        exact ⟨rfl, HA.out _⟩
      · have hg : formedO ⟨1, mak, bn, 0, off, false, true, false⟩ = true := by rfl
        have Hc2 := Lib.hid (Hc.out.trans (if_neg (by rw [hg]; decide)))
        clear hg Hc
        by_cases r1 : off < 0
        · have hf := Lib.hid (Hc2.out.trans (if_pos (by omega)))
          clear Hc2
          go_wp2
          go_ret
          rw [hf.out]
          exact ⟨rfl, HA.out _⟩
        by_cases r2 : 4096 < off
        · have hf := Lib.hid (Hc2.out.trans (if_pos (by omega)))
          clear Hc2
          go_wp2
          go_ret
          rw [hf.out]
          exact ⟨rfl, HA.out _⟩
        have Hc3 := Lib.hid (Hc2.out.trans (if_neg (by omega)))
        clear Hc2
        have hf := Lib.hid (Hc3.out.trans (if_pos (by decide)))
        clear Hc3
        go_wp2_with fail
        refine (birthO_any mak bn _ hm).mono ?_
        rintro r w1 ⟨rfl, hb1⟩
        have HB1 : Hid (Below w.heap.size w w1) := (HA.out _).trans (hb1.mono (HA.out _).size)
        clear hb1
        go_wp2
        go_ret
        rw [hf.out]
        exact ⟨rfl, HB1.out⟩
      · have hg : formedO ⟨1, mak, bn, 0, off, false, true, true⟩ = true := by rfl
        have Hc2 := Lib.hid (Hc.out.trans (if_neg (by rw [hg]; decide)))
        clear hg Hc
        by_cases r1 : off < 0
        · have hf := Lib.hid (Hc2.out.trans (if_pos (by omega)))
          clear Hc2
          go_wp2
          go_ret
          rw [hf.out]
          exact ⟨rfl, HA.out _⟩
        by_cases r2 : 4096 < off
        · have hf := Lib.hid (Hc2.out.trans (if_pos (by omega)))
          clear Hc2
          go_wp2
          go_ret
          rw [hf.out]
          exact ⟨rfl, HA.out _⟩
        have Hc3 := Lib.hid (Hc2.out.trans (if_neg (by omega)))
        clear Hc2
        have hf := Lib.hid (Hc3.out.trans (if_pos (by decide)))
        clear Hc3
        go_wp2_with fail
        refine (birthO_any mak bn _ hm).mono ?_
        rintro r w1 ⟨rfl, hb1⟩
        have HB1 : Hid (Below w.heap.size w w1) := (HA.out _).trans (hb1.mono (HA.out _).size)
        clear hb1
        go_wp2
        go_ret
        rw [hf.out]
        exact ⟨rfl, HB1.out⟩
      · have hg : formedO ⟨1, mak, bn, 0, off, true, false, false⟩ = true := by rfl
        have Hc2 := Lib.hid (Hc.out.trans (if_neg (by rw [hg]; decide)))
        clear hg Hc
        by_cases r1 : off < 0
        · have hf := Lib.hid (Hc2.out.trans (if_pos (by omega)))
          clear Hc2
          go_wp2
          go_ret
          rw [hf.out]
          exact ⟨rfl, HA.out _⟩
        by_cases r2 : 4096 < off
        · have hf := Lib.hid (Hc2.out.trans (if_pos (by omega)))
          clear Hc2
          go_wp2
          go_ret
          rw [hf.out]
          exact ⟨rfl, HA.out _⟩
        have Hc3 := Lib.hid (Hc2.out.trans (if_neg (by omega)))
        clear Hc2
        have hf := Lib.hid (Hc3.out.trans (if_pos (by decide)))
        clear Hc3
        go_wp2_with fail
        refine (birthO_any mak bn _ hm).mono ?_
        rintro r w1 ⟨rfl, hb1⟩
        have HB1 : Hid (Below w.heap.size w w1) := (HA.out _).trans (hb1.mono (HA.out _).size)
        clear hb1
        go_wp2
        go_ret
        rw [hf.out]
        exact ⟨rfl, HB1.out⟩
      · have hf : Hid (checkO ⟨1, mak, bn, 0, off, true, false, true⟩ = 3) := Hc.out.trans (if_pos (by rfl))
        clear Hc
        go_wp2
        go_ret
        rw [hf.out]
        exact ⟨rfl, HA.out _⟩
      · have hg : formedO ⟨1, mak, bn, 0, off, true, true, false⟩ = true := by rfl
        have Hc2 := Lib.hid (Hc.out.trans (if_neg (by rw [hg]; decide)))
        clear hg Hc
        by_cases r1 : off < 0
        · have hf := Lib.hid (Hc2.out.trans (if_pos (by omega)))
          clear Hc2
          go_wp2
          go_ret
          rw [hf.out]
          exact ⟨rfl, HA.out _⟩
        by_cases r2 : 4096 < off
        · have hf := Lib.hid (Hc2.out.trans (if_pos (by omega)))
          clear Hc2
          go_wp2
          go_ret
          rw [hf.out]
          exact ⟨rfl, HA.out _⟩
        have Hc3 := Lib.hid (Hc2.out.trans (if_neg (by omega)))
        clear Hc2
        have hf := Lib.hid (Hc3.out.trans (if_pos (by decide)))
        clear Hc3
        go_wp2_with fail
        refine (birthO_any mak bn _ hm).mono ?_
        rintro r w1 ⟨rfl, hb1⟩
        have HB1 : Hid (Below w.heap.size w w1) := (HA.out _).trans (hb1.mono (HA.out _).size)
        clear hb1
        go_wp2
        go_ret
        rw [hf.out]
        exact ⟨rfl, HB1.out⟩
      · have hg : formedO ⟨1, mak, bn, 0, off, true, true, true⟩ = true := by rfl
        have Hc2 := Lib.hid (Hc.out.trans (if_neg (by rw [hg]; decide)))
        clear hg Hc
        by_cases r1 : off < 0
        · have hf := Lib.hid (Hc2.out.trans (if_pos (by omega)))
          clear Hc2
          go_wp2
          go_ret
          rw [hf.out]
          exact ⟨rfl, HA.out _⟩
        by_cases r2 : 4096 < off
        · have hf := Lib.hid (Hc2.out.trans (if_pos (by omega)))
          clear Hc2
          go_wp2
          go_ret
          rw [hf.out]
          exact ⟨rfl, HA.out _⟩
        have Hc3 := Lib.hid (Hc2.out.trans (if_neg (by omega)))
        clear Hc2
        have hf := Lib.hid (Hc3.out.trans (if_pos (by decide)))
        clear Hc3
        go_wp2_with fail
        refine (birthO_any mak bn _ hm).mono ?_
        rintro r w1 ⟨rfl, hb1⟩
        have HB1 : Hid (Below w.heap.size w w1) := (HA.out _).trans (hb1.mono (HA.out _).size)
        clear hb1
        go_wp2
        go_ret
        rw [hf.out]
        exact ⟨rfl, HB1.out⟩
    · have z1 : (num != 0) = true := bne_iff_ne.2 z
      have hf : Hid (checkO ⟨1, mak, bn, num, off, rd, wr, ap⟩ = 3) := Hc.out.trans (if_pos (by simp [formedO, z]))
      clear z
      clear Hc
      go_wp2
      go_ret
      rw [hf.out]
      exact ⟨rfl, HA.out _⟩
  · by_cases z : num = 0
    · subst z
      by_cases y : off = 0
      · subst y
        cases rd <;> cases wr <;> cases ap
        · have hf : Hid (checkO ⟨2, mak, bn, 0, 0, false, false, false⟩ = 3) := Hc.out.trans (if_pos (by rfl))
          clear Hc
          go_wp2
          go_ret
          rw [hf.out]
          exact ⟨rfl, HA.out _⟩
        · have hf : Hid (checkO ⟨2, mak, bn, 0, 0, false, false, true⟩ = 3) := Hc.out.trans (if_pos (by rfl))
          clear Hc
          go_wp2
          go_ret
          rw [hf.out]
          exact ⟨rfl, HA.out _⟩
        · have hf : Hid (checkO ⟨2, mak, bn, 0, 0, false, true, false⟩ = 3) := Hc.out.trans (if_pos (by rfl))
          clear Hc
          go_wp2
          go_ret
          rw [hf.out]
          exact ⟨rfl, HA.out _⟩
        · have hf : Hid (checkO ⟨2, mak, bn, 0, 0, false, true, true⟩ = 3) := Hc.out.trans (if_pos (by rfl))
          clear Hc
          go_wp2
          go_ret
          rw [hf.out]
          exact ⟨rfl, HA.out _⟩
        · have hg : formedO ⟨2, mak, bn, 0, 0, true, false, false⟩ = true := by rfl
          have Hc2 := Lib.hid (Hc.out.trans (if_neg (by rw [hg]; decide)))
          clear hg Hc
          have Hc3 := Lib.hid (Hc2.out.trans (if_neg (by omega)))
          clear Hc2
          have hf := Lib.hid (Hc3.out.trans (if_pos (by decide)))
          clear Hc3
          go_wp2_with fail
          refine (birthO_any mak bn _ hm).mono ?_
          rintro r w1 ⟨rfl, hb1⟩
          have HB1 : Hid (Below w.heap.size w w1) := (HA.out _).trans (hb1.mono (HA.out _).size)
          clear hb1
          go_wp2
          go_ret
          rw [hf.out]
          exact ⟨rfl, HB1.out⟩
        · have hf : Hid (checkO ⟨2, mak, bn, 0, 0, true, false, true⟩ = 3) := Hc.out.trans (if_pos (by rfl))
          clear Hc
          go_wp2
          go_ret
          rw [hf.out]
          exact ⟨rfl, HA.out _⟩
        · have hf : Hid (checkO ⟨2, mak, bn, 0, 0, true, true, false⟩ = 3) := Hc.out.trans (if_pos (by rfl))
          clear Hc
          go_wp2
          go_ret
          rw [hf.out]
          exact ⟨rfl, HA.out _⟩
        · have hf : Hid (checkO ⟨2, mak, bn, 0, 0, true, true, true⟩ = 3) := Hc.out.trans (if_pos (by rfl))
          clear Hc
          go_wp2
          go_ret
          rw [hf.out]
          exact ⟨rfl, HA.out _⟩
      · have y1 : (off != 0) = true := bne_iff_ne.2 y
        have hf : Hid (checkO ⟨2, mak, bn, 0, off, rd, wr, ap⟩ = 3) := Hc.out.trans (if_pos (by simp [formedO, y]))
        clear y
        clear Hc
        go_wp2
        go_ret
        rw [hf.out]
        exact ⟨rfl, HA.out _⟩
    · have z1 : (num != 0) = true := bne_iff_ne.2 z
      have hf : Hid (checkO ⟨2, mak, bn, num, off, rd, wr, ap⟩ = 3) := Hc.out.trans (if_pos (by simp [formedO, z]))
      clear z
      clear Hc
      go_wp2
      go_ret
      rw [hf.out]
      exact ⟨rfl, HA.out _⟩
  · by_cases z : num = 0
    · subst z
      by_cases y : off = 0
      · subst y
        cases rd <;> cases wr <;> cases ap
        · have hf : Hid (checkO ⟨3, mak, bn, 0, 0, false, false, false⟩ = 3) := Hc.out.trans (if_pos (by rfl))
          clear Hc
          go_wp2
          go_ret
          rw [hf.out]
          exact ⟨rfl, HA.out _⟩
        · have hf : Hid (checkO ⟨3, mak, bn, 0, 0, false, false, true⟩ = 3) := Hc.out.trans (if_pos (by rfl))
          clear Hc
          go_wp2
          go_ret
          rw [hf.out]
          exact ⟨rfl, HA.out _⟩
        · have hg : formedO ⟨3, mak, bn, 0, 0, false, true, false⟩ = true := by rfl
          have Hc2 := Lib.hid (Hc.out.trans (if_neg (by rw [hg]; decide)))
          clear hg Hc
          have Hc3 := Lib.hid (Hc2.out.trans (if_neg (by omega)))
          clear Hc2
          have hf := Lib.hid (Hc3.out.trans (if_pos (by decide)))
          clear Hc3
          go_wp2_with fail
          refine (birthO_any mak bn _ hm).mono ?_
          rintro r w1 ⟨rfl, hb1⟩
          have HB1 : Hid (Below w.heap.size w w1) := (HA.out _).trans (hb1.mono (HA.out _).size)
          clear hb1
          go_wp2
          go_ret
          rw [hf.out]
          exact ⟨rfl, HB1.out⟩
        · have hf : Hid (checkO ⟨3, mak, bn, 0, 0, false, true, true⟩ = 3) := Hc.out.trans (if_pos (by rfl))
          clear Hc
          go_wp2
          go_ret
          rw [hf.out]
          exact ⟨rfl, HA.out _⟩
        · have hf : Hid (checkO ⟨3, mak, bn, 0, 0, true, false, false⟩ = 3) := Hc.out.trans (if_pos (by rfl))
          clear Hc
          go_wp2
          go_ret
          rw [hf.out]
          exact ⟨rfl, HA.out _⟩
        · have hf : Hid (checkO ⟨3, mak, bn, 0, 0, true, false, true⟩ = 3) := Hc.out.trans (if_pos (by rfl))
          clear Hc
          go_wp2
          go_ret
          rw [hf.out]
          exact ⟨rfl, HA.out _⟩
        · have hf : Hid (checkO ⟨3, mak, bn, 0, 0, true, true, false⟩ = 3) := Hc.out.trans (if_pos (by rfl))
          clear Hc
          go_wp2
          go_ret
          rw [hf.out]
          exact ⟨rfl, HA.out _⟩
        · have hf : Hid (checkO ⟨3, mak, bn, 0, 0, true, true, true⟩ = 3) := Hc.out.trans (if_pos (by rfl))
          clear Hc
          go_wp2
          go_ret
          rw [hf.out]
          exact ⟨rfl, HA.out _⟩
      · have y1 : (off != 0) = true := bne_iff_ne.2 y
        have hf : Hid (checkO ⟨3, mak, bn, 0, off, rd, wr, ap⟩ = 3) := Hc.out.trans (if_pos (by simp [formedO, y]))
        clear y
        clear Hc
        go_wp2
        go_ret
        rw [hf.out]
        exact ⟨rfl, HA.out _⟩
    · have z1 : (num != 0) = true := bne_iff_ne.2 z
      have hf : Hid (checkO ⟨3, mak, bn, num, off, rd, wr, ap⟩ = 3) := Hc.out.trans (if_pos (by simp [formedO, z]))
      clear z
      clear Hc
      go_wp2
      go_ret
      rw [hf.out]
      exact ⟨rfl, HA.out _⟩
  · cases hs : sameBi mak bn ⟨#[]⟩ 0 with
    | false =>
      have hs2 : (decide (mak = ⟨#[]⟩) && decide (bn = 0)) = false := hs
      have hf : Hid (checkO ⟨4, mak, bn, num, off, rd, wr, ap⟩ = 3) := Hc.out.trans (if_pos (by unfold formedO; dsimp only; rw [if_neg (by decide), hs2]; rfl))
      clear hs2
      clear Hc
      go_wp2
      go_ret
      rw [hf.out]
      exact ⟨rfl, HA.out _⟩
    | true =>
      have Hs : Hid ((decide (mak = ⟨#[]⟩) && decide (bn = 0)) = true) := hs
      by_cases y : off = 0
      · subst y
        cases rd <;> cases wr <;> cases ap
        · have hf : Hid (checkO ⟨4, mak, bn, num, 0, false, false, false⟩ = 3) := Hc.out.trans (if_pos (by unfold formedO; dsimp only; rw [if_neg (by decide), Hs.out]; rfl))
          clear Hc
          go_wp2
          go_ret
          rw [hf.out]
          exact ⟨rfl, HA.out _⟩
        · have hf : Hid (checkO ⟨4, mak, bn, num, 0, false, false, true⟩ = 3) := Hc.out.trans (if_pos (by unfold formedO; dsimp only; rw [if_neg (by decide), Hs.out]; rfl))
          clear Hc
          go_wp2
          go_ret
          rw [hf.out]
          exact ⟨rfl, HA.out _⟩
        · have hg : formedO ⟨4, mak, bn, num, 0, false, true, false⟩ = true := by unfold formedO; dsimp only; rw [if_neg (by decide), Hs.out]; rfl
          have Hc2 := Lib.hid (Hc.out.trans (if_neg (by rw [hg]; decide)))
          clear hg Hc
          by_cases r1 : num < 0
          · have hf := Lib.hid (Hc2.out.trans (if_pos (by omega)))
            clear Hc2
            go_wp2
            go_ret
            rw [hf.out]
            exact ⟨rfl, HA.out _⟩
          by_cases r2 : 9999 < num
          · have hf := Lib.hid (Hc2.out.trans (if_pos (by omega)))
            clear Hc2
            go_wp2
            go_ret
            rw [hf.out]
            exact ⟨rfl, HA.out _⟩
          have Hc3 := Lib.hid (Hc2.out.trans (if_neg (by omega)))
          clear Hc2
          have hf := Lib.hid (Hc3.out.trans (if_neg (by decide)))
          clear Hc3
          go_wp2
          go_ret
          rw [hf.out]
          exact ⟨rfl, HA.out _⟩
        · have hf : Hid (checkO ⟨4, mak, bn, num, 0, false, true, true⟩ = 3) := Hc.out.trans (if_pos (by unfold formedO; dsimp only; rw [if_neg (by decide), Hs.out]; rfl))
          clear Hc
          go_wp2
          go_ret
          rw [hf.out]
          exact ⟨rfl, HA.out _⟩
        · have hg : formedO ⟨4, mak, bn, num, 0, true, false, false⟩ = true := by unfold formedO; dsimp only; rw [if_neg (by decide), Hs.out]; rfl
          have Hc2 := Lib.hid (Hc.out.trans (if_neg (by rw [hg]; decide)))
          clear hg Hc
          by_cases r1 : num < 0
          · have hf := Lib.hid (Hc2.out.trans (if_pos (by omega)))
            clear Hc2
            go_wp2
            go_ret
            rw [hf.out]
            exact ⟨rfl, HA.out _⟩
          by_cases r2 : 9999 < num
          · have hf := Lib.hid (Hc2.out.trans (if_pos (by omega)))
            clear Hc2
            go_wp2
            go_ret
            rw [hf.out]
            exact ⟨rfl, HA.out _⟩
          have Hc3 := Lib.hid (Hc2.out.trans (if_neg (by omega)))
          clear Hc2
          have hf := Lib.hid (Hc3.out.trans (if_neg (by decide)))
          clear Hc3
          go_wp2
          go_ret
          rw [hf.out]
          exact ⟨rfl, HA.out _⟩
        · have hf : Hid (checkO ⟨4, mak, bn, num, 0, true, false, true⟩ = 3) := Hc.out.trans (if_pos (by unfold formedO; dsimp only; rw [if_neg (by decide), Hs.out]; rfl))
          clear Hc
          go_wp2
          go_ret
          rw [hf.out]
          exact ⟨rfl, HA.out _⟩
        · have hg : formedO ⟨4, mak, bn, num, 0, true, true, false⟩ = true := by unfold formedO; dsimp only; rw [if_neg (by decide), Hs.out]; rfl
          have Hc2 := Lib.hid (Hc.out.trans (if_neg (by rw [hg]; decide)))
          clear hg Hc
          by_cases r1 : num < 0
          · have hf := Lib.hid (Hc2.out.trans (if_pos (by omega)))
            clear Hc2
            go_wp2
            go_ret
            rw [hf.out]
            exact ⟨rfl, HA.out _⟩
          by_cases r2 : 9999 < num
          · have hf := Lib.hid (Hc2.out.trans (if_pos (by omega)))
            clear Hc2
            go_wp2
            go_ret
            rw [hf.out]
            exact ⟨rfl, HA.out _⟩
          have Hc3 := Lib.hid (Hc2.out.trans (if_neg (by omega)))
          clear Hc2
          have hf := Lib.hid (Hc3.out.trans (if_neg (by decide)))
          clear Hc3
          go_wp2
          go_ret
          rw [hf.out]
          exact ⟨rfl, HA.out _⟩
        · have hf : Hid (checkO ⟨4, mak, bn, num, 0, true, true, true⟩ = 3) := Hc.out.trans (if_pos (by unfold formedO; dsimp only; rw [if_neg (by decide), Hs.out]; rfl))
          clear Hc
          go_wp2
          go_ret
          rw [hf.out]
          exact ⟨rfl, HA.out _⟩
      · have y1 : (off != 0) = true := bne_iff_ne.2 y
        have hf : Hid (checkO ⟨4, mak, bn, num, off, rd, wr, ap⟩ = 3) := Hc.out.trans (if_pos (by simp [formedO, y]))
        clear y
        clear Hc
        go_wp2
        go_ret
        rw [hf.out]
        exact ⟨rfl, HA.out _⟩
  · cases hs : sameBi mak bn ⟨#[]⟩ 0 with
    | false =>
      have hs2 : (decide (mak = ⟨#[]⟩) && decide (bn = 0)) = false := hs
      have hf : Hid (checkO ⟨5, mak, bn, num, off, rd, wr, ap⟩ = 3) := Hc.out.trans (if_pos (by unfold formedO; dsimp only; rw [if_neg (by decide), hs2]; rfl))
      clear hs2
      clear Hc
      go_wp2
      go_ret
      rw [hf.out]
      exact ⟨rfl, HA.out _⟩
    | true =>
      have Hs : Hid ((decide (mak = ⟨#[]⟩) && decide (bn = 0)) = true) := hs
      by_cases y : off = 0
      · subst y
        cases rd <;> cases wr <;> cases ap
        · have hf : Hid (checkO ⟨5, mak, bn, num, 0, false, false, false⟩ = 3) := Hc.out.trans (if_pos (by unfold formedO; dsimp only; rw [if_neg (by decide), Hs.out]; rfl))
          clear Hc
          go_wp2
          go_ret
          rw [hf.out]
          exact ⟨rfl, HA.out _⟩
        · have hf : Hid (checkO ⟨5, mak, bn, num, 0, false, false, true⟩ = 3) := Hc.out.trans (if_pos (by unfold formedO; dsimp only; rw [if_neg (by decide), Hs.out]; rfl))
          clear Hc
          go_wp2
          go_ret
          rw [hf.out]
          exact ⟨rfl, HA.out _⟩
        · have hg : formedO ⟨5, mak, bn, num, 0, false, true, false⟩ = true := by unfold formedO; dsimp only; rw [if_neg (by decide), Hs.out]; rfl
          have Hc2 := Lib.hid (Hc.out.trans (if_neg (by rw [hg]; decide)))
          clear hg Hc
          by_cases r1 : num < 0
          · have hf := Lib.hid (Hc2.out.trans (if_pos (by omega)))
            clear Hc2
            go_wp2
            go_ret
            rw [hf.out]
            exact ⟨rfl, HA.out _⟩
          by_cases r2 : 9999 < num
          · have hf := Lib.hid (Hc2.out.trans (if_pos (by omega)))
            clear Hc2
            go_wp2
            go_ret
            rw [hf.out]
            exact ⟨rfl, HA.out _⟩
          have Hc3 := Lib.hid (Hc2.out.trans (if_neg (by omega)))
          clear Hc2
          have hf := Lib.hid (Hc3.out.trans (if_neg (by decide)))
          clear Hc3
          go_wp2
          go_ret
          rw [hf.out]
          exact ⟨rfl, HA.out _⟩
        · have hf : Hid (checkO ⟨5, mak, bn, num, 0, false, true, true⟩ = 3) := Hc.out.trans (if_pos (by unfold formedO; dsimp only; rw [if_neg (by decide), Hs.out]; rfl))
          clear Hc
          go_wp2
          go_ret
          rw [hf.out]
          exact ⟨rfl, HA.out _⟩
        · have hg : formedO ⟨5, mak, bn, num, 0, true, false, false⟩ = true := by unfold formedO; dsimp only; rw [if_neg (by decide), Hs.out]; rfl
          have Hc2 := Lib.hid (Hc.out.trans (if_neg (by rw [hg]; decide)))
          clear hg Hc
          by_cases r1 : num < 0
          · have hf := Lib.hid (Hc2.out.trans (if_pos (by omega)))
            clear Hc2
            go_wp2
            go_ret
            rw [hf.out]
            exact ⟨rfl, HA.out _⟩
          by_cases r2 : 9999 < num
          · have hf := Lib.hid (Hc2.out.trans (if_pos (by omega)))
            clear Hc2
            go_wp2
            go_ret
            rw [hf.out]
            exact ⟨rfl, HA.out _⟩
          have Hc3 := Lib.hid (Hc2.out.trans (if_neg (by omega)))
          clear Hc2
          have hf := Lib.hid (Hc3.out.trans (if_neg (by decide)))
          clear Hc3
          go_wp2
          go_ret
          rw [hf.out]
          exact ⟨rfl, HA.out _⟩
        · have hf : Hid (checkO ⟨5, mak, bn, num, 0, true, false, true⟩ = 3) := Hc.out.trans (if_pos (by unfold formedO; dsimp only; rw [if_neg (by decide), Hs.out]; rfl))
          clear Hc
          go_wp2
          go_ret
          rw [hf.out]
          exact ⟨rfl, HA.out _⟩
        · have hg : formedO ⟨5, mak, bn, num, 0, true, true, false⟩ = true := by unfold formedO; dsimp only; rw [if_neg (by decide), Hs.out]; rfl
          have Hc2 := Lib.hid (Hc.out.trans (if_neg (by rw [hg]; decide)))
          clear hg Hc
          by_cases r1 : num < 0
          · have hf := Lib.hid (Hc2.out.trans (if_pos (by omega)))
            clear Hc2
            go_wp2
            go_ret
            rw [hf.out]
            exact ⟨rfl, HA.out _⟩
          by_cases r2 : 9999 < num
          · have hf := Lib.hid (Hc2.out.trans (if_pos (by omega)))
            clear Hc2
            go_wp2
            go_ret
            rw [hf.out]
            exact ⟨rfl, HA.out _⟩
          have Hc3 := Lib.hid (Hc2.out.trans (if_neg (by omega)))
          clear Hc2
          have hf := Lib.hid (Hc3.out.trans (if_neg (by decide)))
          clear Hc3
          go_wp2
          go_ret
          rw [hf.out]
          exact ⟨rfl, HA.out _⟩
        · have hf : Hid (checkO ⟨5, mak, bn, num, 0, true, true, true⟩ = 3) := Hc.out.trans (if_pos (by unfold formedO; dsimp only; rw [if_neg (by decide), Hs.out]; rfl))
          clear Hc
          go_wp2
          go_ret
          rw [hf.out]
          exact ⟨rfl, HA.out _⟩
      · have y1 : (off != 0) = true := bne_iff_ne.2 y
        have hf : Hid (checkO ⟨5, mak, bn, num, off, rd, wr, ap⟩ = 3) := Hc.out.trans (if_pos (by simp [formedO, y]))
        clear y
        clear Hc
        go_wp2
        go_ret
        rw [hf.out]
        exact ⟨rfl, HA.out _⟩
theorem check31_is (kd : Int) (mak : ByteArray) (bn num off : Int) (rd wr ap : Bool) (q : Nat) (h : checkO ⟨kd, mak, bn, num, off, rd, wr, ap⟩ = q) (w : World) (hm : mak.size ≤ 70368744177664) : Calls Tryz.prog 46 #[.agg #[.int .i64 kd, .string mak, .int .i64 bn, .int .i64 num, .int .i64 off, .bool rd, .bool wr, .bool ap]] w fun r w' => r = .returned (.int .i64 q) ∧ Below w.heap.size w w' := by
  subst h; exact check31_any kd mak bn num off rd wr ap w hm
end Go.Proofs.YtfchfjipkggnkaaGreatDoor
