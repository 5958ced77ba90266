/- Law 31: check. (printed by wip/gen_dsck31.py) -/
import Derived.Test.YtfchfjipkggnkaaDoorDscO
namespace Go.Proofs.YtfchfjipkggnkaaDoor
open Go.RowKit
attribute [local go_sem ↓] run_eql_opn run_neq_opn run_neq_birth

set_option maxRecDepth 100000 in
set_option maxHeartbeats 6400000 in
theorem check31_any (kd : Int) (mak : ByteArray) (bn num off : Int) (rd wr ap : Bool) (w : World) (hm : mak.size ≤ 70368744177664) : Calls Tryd.prog 9 #[.agg #[.int .i64 kd, .string mak, .int .i64 bn, .int .i64 num, .int .i64 off, .bool rd, .bool wr, .bool ap]] w fun r w' => r = .returned (.int .i64 (checkO ⟨kd, mak, bn, num, off, rd, wr, ap⟩)) ∧ Below w.heap.size w w' := by
  have HA : Hid (∀ o, Below w.heap.size w (w.alloc o)) := fun o => (Below.refl _ _).alloc (Nat.le_refl _) _
  have HO : Hid (OpnAt (w.alloc (.cells #[.int .i64 kd, .string mak, .int .i64 bn, .int .i64 num, .int .i64 off, .bool rd, .bool wr, .bool ap] 26)) w.heap.size ⟨kd, mak, bn, num, off, rd, wr, ap⟩) := World.alloc_heap_new w _
  by_cases hk : kd < 1 ∨ 5 < kd
  · have hf : Hid (checkO ⟨kd, mak, bn, num, off, rd, wr, ap⟩ = 11) := if_pos hk
    have hk2 : kd < 1 ∨ (¬ kd < 1 ∧ 5 < kd) := by omega
    clear hk HO
    go_enter Tryd.func9, Tryd.ntmps9
    rcases hk2 with h1 | ⟨h1, h2⟩
    all_goals
      go_wp2
      go_ret
      rw [hf.out]
      exact ⟨rfl, HA.out _⟩
  have h1 : ¬ kd < 1 := by omega
  have h2 : ¬ 5 < kd := by omega
  have Hc : Hid (checkO ⟨kd, mak, bn, num, off, rd, wr, ap⟩ = if formedO ⟨kd, mak, bn, num, off, rd, wr, ap⟩ = false then 3 else if num < 0 ∨ 9999 < num ∨ off < 0 ∨ 4096 < off then 2 else if kd = 1 ∨ kd = 2 ∨ kd = 3 then birthO mak bn else 0) := if_neg hk
  clear hk
  go_enter Tryd.func9, Tryd.ntmps9
  rcases (by omega : kd = 1 ∨ kd = 2 ∨ kd = 3 ∨ kd = 4 ∨ kd = 5) with rfl | rfl | rfl | rfl | rfl
  · by_cases z : num = 0
    · subst z
      cases rd <;> cases wr <;> cases ap
      · have hf : Hid (checkO ⟨1, mak, bn, 0, off, false, false, false⟩ = 3) := Hc.out.trans (if_pos (by rfl))
        clear Hc
        go_wp2
        go_ret
        rw [hf.out]
        exact ⟨rfl, HA.out _⟩
      · have hf : Hid (checkO ⟨1, mak, bn, 0, off, false, false, true⟩ = 3) := Hc.out.trans (if_pos (by rfl))
        clear Hc
        go_wp2
        go_ret
        rw [hf.out]
        exact ⟨rfl, HA.out _⟩
      · have hg : formedO ⟨1, mak, bn, 0, off, false, true, false⟩ = true := by rfl
        have Hc2 := Lib.hid (Hc.out.trans (if_neg (by rw [hg]; decide)))
        clear hg Hc
        by_cases r1 : off < 0
        · have hf := Lib.hid (Hc2.out.trans (if_pos (by omega)))
          clear Hc2
          go_wp2
          go_ret
          rw [hf.out]
          exact ⟨rfl, HA.out _⟩
        by_cases r2 : 4096 < off
        · have hf := Lib.hid (Hc2.out.trans (if_pos (by omega)))
          clear Hc2
          go_wp2
          go_ret
          rw [hf.out]
          exact ⟨rfl, HA.out _⟩
        have Hc3 := Lib.hid (Hc2.out.trans (if_neg (by omega)))
        clear Hc2
        have hf := Lib.hid (Hc3.out.trans (if_pos (by decide)))
        clear Hc3
        go_wp2_with fail
        refine (birthO_any mak bn _ hm).mono ?_
        rintro r w1 ⟨rfl, hb1⟩
        have HB1 : Hid (Below w.heap.size w w1) := (HA.out _).trans (hb1.mono (HA.out _).size)
        clear hb1
        go_wp2
        go_ret
        rw [hf.out]
        exact ⟨rfl, HB1.out⟩
      · have hg : formedO ⟨1, mak, bn, 0, off, false, true, true⟩ = true := by rfl
        have Hc2 := Lib.hid (Hc.out.trans (if_neg (by rw [hg]; decide)))
        clear hg Hc
        by_cases r1 : off < 0
        · have hf := Lib.hid (Hc2.out.trans (if_pos (by omega)))
          clear Hc2
          go_wp2
          go_ret
          rw [hf.out]
          exact ⟨rfl, HA.out _⟩
        by_cases r2 : 4096 < off
        · have hf := Lib.hid (Hc2.out.trans (if_pos (by omega)))
          clear Hc2
          go_wp2
          go_ret
          rw [hf.out]
          exact ⟨rfl, HA.out _⟩
        have Hc3 := Lib.hid (Hc2.out.trans (if_neg (by omega)))
        clear Hc2
        have hf := Lib.hid (Hc3.out.trans (if_pos (by decide)))
        clear Hc3
        go_wp2_with fail
        refine (birthO_any mak bn _ hm).mono ?_
        rintro r w1 ⟨rfl, hb1⟩
        have HB1 : Hid (Below w.heap.size w w1) := (HA.out _).trans (hb1.mono (HA.out _).size)
        clear hb1
        go_wp2
        go_ret
        rw [hf.out]
        exact ⟨rfl, HB1.out⟩
      · have hg : formedO ⟨1, mak, bn, 0, off, true, false, false⟩ = true := by rfl
        have Hc2 := Lib.hid (Hc.out.trans (if_neg (by rw [hg]; decide)))
        clear hg Hc
        by_cases r1 : off < 0
        · have hf := Lib.hid (Hc2.out.trans (if_pos (by omega)))
          clear Hc2
          go_wp2
          go_ret
          rw [hf.out]
          exact ⟨rfl, HA.out _⟩
        by_cases r2 : 4096 < off
        · have hf := Lib.hid (Hc2.out.trans (if_pos (by omega)))
          clear Hc2
          go_wp2
          go_ret
          rw [hf.out]
          exact ⟨rfl, HA.out _⟩
        have Hc3 := Lib.hid (Hc2.out.trans (if_neg (by omega)))
        clear Hc2
        have hf := Lib.hid (Hc3.out.trans (if_pos (by decide)))
        clear Hc3
        go_wp2_with fail
        refine (birthO_any mak bn _ hm).mono ?_
        rintro r w1 ⟨rfl, hb1⟩
        have HB1 : Hid (Below w.heap.size w w1) := (HA.out _).trans (hb1.mono (HA.out _).size)
        clear hb1
        go_wp2
        go_ret
        rw [hf.out]
        exact ⟨rfl, HB1.out⟩
      · have hf : Hid (checkO ⟨1, mak, bn, 0, off, true, false, true⟩ = 3) := Hc.out.trans (if_pos (by rfl))
        clear Hc
        go_wp2
        go_ret
        rw [hf.out]
        exact ⟨rfl, HA.out _⟩
      · have hg : formedO ⟨1, mak, bn, 0, off, true, true, false⟩ = true := by rfl
        have Hc2 := Lib.hid (Hc.out.trans (if_neg (by rw [hg]; decide)))
        clear hg Hc
        by_cases r1 : off < 0
        · have hf := Lib.hid (Hc2.out.trans (if_pos (by omega)))
          clear Hc2
          go_wp2
          go_ret
          rw [hf.out]
          exact ⟨rfl, HA.out _⟩
        by_cases r2 : 4096 < off
        · have hf := Lib.hid (Hc2.out.trans (if_pos (by omega)))
          clear Hc2
          go_wp2
          go_ret
          rw [hf.out]
          exact ⟨rfl, HA.out _⟩
        have Hc3 := Lib.hid (Hc2.out.trans (if_neg (by omega)))
        clear Hc2
        have hf := Lib.hid (Hc3.out.trans (if_pos (by decide)))
        clear Hc3
        go_wp2_with fail
        refine (birthO_any mak bn _ hm).mono ?_
        rintro r w1 ⟨rfl, hb1⟩
        have HB1 : Hid (Below w.heap.size w w1) := (HA.out _).trans (hb1.mono (HA.out _).size)
        clear hb1
        go_wp2
        go_ret
        rw [hf.out]
        exact ⟨rfl, HB1.out⟩
      · have hg : formedO ⟨1, mak, bn, 0, off, true, true, true⟩ = true := by rfl
        have Hc2 := Lib.hid (Hc.out.trans (if_neg (by rw [hg]; decide)))
        clear hg Hc
        by_cases r1 : off < 0
        · have hf := Lib.hid (Hc2.out.trans (if_pos (by omega)))
          clear Hc2
          go_wp2
          go_ret
          rw [hf.out]
          exact ⟨rfl, HA.out _⟩
        by_cases r2 : 4096 < off
        · have hf := Lib.hid (Hc2.out.trans (if_pos (by omega)))
          clear Hc2
          go_wp2
          go_ret
          rw [hf.out]
          exact ⟨rfl, HA.out _⟩
        have Hc3 := Lib.hid (Hc2.out.trans (if_neg (by omega)))
        clear Hc2
        have hf := Lib.hid (Hc3.out.trans (if_pos (by decide)))
        clear Hc3
        go_wp2_with fail
        refine (birthO_any mak bn _ hm).mono ?_
        rintro r w1 ⟨rfl, hb1⟩
        have HB1 : Hid (Below w.heap.size w w1) := (HA.out _).trans (hb1.mono (HA.out _).size)
        clear hb1
        go_wp2
        go_ret
        rw [hf.out]
        exact ⟨rfl, HB1.out⟩
    · have z1 : (num != 0) = true := bne_iff_ne.2 z
      have hf : Hid (checkO ⟨1, mak, bn, num, off, rd, wr, ap⟩ = 3) := Hc.out.trans (if_pos (by simp [formedO, z]))
      clear z
      clear Hc
      go_wp2
      go_ret
      rw [hf.out]
      exact ⟨rfl, HA.out _⟩
  · by_cases z : num = 0
    · subst z
      by_cases y : off = 0
      · subst y
        cases rd <;> cases wr <;> cases ap
        · have hf : Hid (checkO ⟨2, mak, bn, 0, 0, false, false, false⟩ = 3) := Hc.out.trans (if_pos (by rfl))
          clear Hc
          go_wp2
          go_ret
          rw [hf.out]
          exact ⟨rfl, HA.out _⟩
        · have hf : Hid (checkO ⟨2, mak, bn, 0, 0, false, false, true⟩ = 3) := Hc.out.trans (if_pos (by rfl))
          clear Hc
          go_wp2
          go_ret
          rw [hf.out]
          exact ⟨rfl, HA.out _⟩
        · have hf : Hid (checkO ⟨2, mak, bn, 0, 0, false, true, false⟩ = 3) := Hc.out.trans (if_pos (by rfl))
          clear Hc
          go_wp2
          go_ret
          rw [hf.out]
          exact ⟨rfl, HA.out _⟩
        · have hf : Hid (checkO ⟨2, mak, bn, 0, 0, false, true, true⟩ = 3) := Hc.out.trans (if_pos (by rfl))
          clear Hc
          go_wp2
          go_ret
          rw [hf.out]
          exact ⟨rfl, HA.out _⟩
        · have hg : formedO ⟨2, mak, bn, 0, 0, true, false, false⟩ = true := by rfl
          have Hc2 := Lib.hid (Hc.out.trans (if_neg (by rw [hg]; decide)))
          clear hg Hc
          have Hc3 := Lib.hid (Hc2.out.trans (if_neg (by omega)))
          clear Hc2
          have hf := Lib.hid (Hc3.out.trans (if_pos (by decide)))
          clear Hc3
          go_wp2_with fail
          refine (birthO_any mak bn _ hm).mono ?_
          rintro r w1 ⟨rfl, hb1⟩
          have HB1 : Hid (Below w.heap.size w w1) := (HA.out _).trans (hb1.mono (HA.out _).size)
          clear hb1
          go_wp2
          go_ret
          rw [hf.out]
          exact ⟨rfl, HB1.out⟩
        · have hf : Hid (checkO ⟨2, mak, bn, 0, 0, true, false, true⟩ = 3) := Hc.out.trans (if_pos (by rfl))
          clear Hc
          go_wp2
          go_ret
          rw [hf.out]
          exact ⟨rfl, HA.out _⟩
        · have hf : Hid (checkO ⟨2, mak, bn, 0, 0, true, true, false⟩ = 3) := Hc.out.trans (if_pos (by rfl))
          clear Hc
          go_wp2
          go_ret
          rw [hf.out]
          exact ⟨rfl, HA.out _⟩
        · have hf : Hid (checkO ⟨2, mak, bn, 0, 0, true, true, true⟩ = 3) := Hc.out.trans (if_pos (by rfl))
          clear Hc
          go_wp2
          go_ret
          rw [hf.out]
          exact ⟨rfl, HA.out _⟩
      · have y1 : (off != 0) = true := bne_iff_ne.2 y
        have hf : Hid (checkO ⟨2, mak, bn, 0, off, rd, wr, ap⟩ = 3) := Hc.out.trans (if_pos (by simp [formedO, y]))
        clear y
        clear Hc
        go_wp2
        go_ret
        rw [hf.out]
        exact ⟨rfl, HA.out _⟩
    · have z1 : (num != 0) = true := bne_iff_ne.2 z
      have hf : Hid (checkO ⟨2, mak, bn, num, off, rd, wr, ap⟩ = 3) := Hc.out.trans (if_pos (by simp [formedO, z]))
      clear z
      clear Hc
      go_wp2
      go_ret
      rw [hf.out]
      exact ⟨rfl, HA.out _⟩
  · by_cases z : num = 0
    · subst z
      by_cases y : off = 0
      · subst y
        cases rd <;> cases wr <;> cases ap
        · have hf : Hid (checkO ⟨3, mak, bn, 0, 0, false, false, false⟩ = 3) := Hc.out.trans (if_pos (by rfl))
          clear Hc
          go_wp2
          go_ret
          rw [hf.out]
          exact ⟨rfl, HA.out _⟩
        · have hf : Hid (checkO ⟨3, mak, bn, 0, 0, false, false, true⟩ = 3) := Hc.out.trans (if_pos (by rfl))
          clear Hc
          go_wp2
          go_ret
          rw [hf.out]
          exact ⟨rfl, HA.out _⟩
        · have hg : formedO ⟨3, mak, bn, 0, 0, false, true, false⟩ = true := by rfl
          have Hc2 := Lib.hid (Hc.out.trans (if_neg (by rw [hg]; decide)))
          clear hg Hc
          have Hc3 := Lib.hid (Hc2.out.trans (if_neg (by omega)))
          clear Hc2
          have hf := Lib.hid (Hc3.out.trans (if_pos (by decide)))
          clear Hc3
          go_wp2_with fail
          refine (birthO_any mak bn _ hm).mono ?_
          rintro r w1 ⟨rfl, hb1⟩
          have HB1 : Hid (Below w.heap.size w w1) := (HA.out _).trans (hb1.mono (HA.out _).size)
          clear hb1
          go_wp2
          go_ret
          rw [hf.out]
          exact ⟨rfl, HB1.out⟩
        · have hf : Hid (checkO ⟨3, mak, bn, 0, 0, false, true, true⟩ = 3) := Hc.out.trans (if_pos (by rfl))
          clear Hc
          go_wp2
          go_ret
          rw [hf.out]
          exact ⟨rfl, HA.out _⟩
        · have hf : Hid (checkO ⟨3, mak, bn, 0, 0, true, false, false⟩ = 3) := Hc.out.trans (if_pos (by rfl))
          clear Hc
          go_wp2
          go_ret
          rw [hf.out]
          exact ⟨rfl, HA.out _⟩
        · have hf : Hid (checkO ⟨3, mak, bn, 0, 0, true, false, true⟩ = 3) := Hc.out.trans (if_pos (by rfl))
          clear Hc
          go_wp2
          go_ret
          rw [hf.out]
          exact ⟨rfl, HA.out _⟩
        · have hf : Hid (checkO ⟨3, mak, bn, 0, 0, true, true, false⟩ = 3) := Hc.out.trans (if_pos (by rfl))
          clear Hc
          go_wp2
          go_ret
          rw [hf.out]
          exact ⟨rfl, HA.out _⟩
        · have hf : Hid (checkO ⟨3, mak, bn, 0, 0, true, true, true⟩ = 3) := Hc.out.trans (if_pos (by rfl))
          clear Hc
          go_wp2
          go_ret
          rw [hf.out]
          exact ⟨rfl, HA.out _⟩
      · have y1 : (off != 0) = true := bne_iff_ne.2 y
        have hf : Hid (checkO ⟨3, mak, bn, 0, off, rd, wr, ap⟩ = 3) := Hc.out.trans (if_pos (by simp [formedO, y]))
        clear y
        clear Hc
        go_wp2
        go_ret
        rw [hf.out]
        exact ⟨rfl, HA.out _⟩
    · have z1 : (num != 0) = true := bne_iff_ne.2 z
      have hf : Hid (checkO ⟨3, mak, bn, num, off, rd, wr, ap⟩ = 3) := Hc.out.trans (if_pos (by simp [formedO, z]))
      clear z
      clear Hc
      go_wp2
      go_ret
      rw [hf.out]
      exact ⟨rfl, HA.out _⟩
  · cases hs : sameBi mak bn ⟨#[]⟩ 0 with
    | false =>
      have hs2 : (decide (mak = ⟨#[]⟩) && decide (bn = 0)) = false := hs
      have hf : Hid (checkO ⟨4, mak, bn, num, off, rd, wr, ap⟩ = 3) := Hc.out.trans (if_pos (by unfold formedO; dsimp only; rw [if_neg (by decide), hs2]; rfl))
      clear hs2
      clear Hc
      go_wp2
      go_ret
      rw [hf.out]
      exact ⟨rfl, HA.out _⟩
    | true =>
      have Hs : Hid ((decide (mak = ⟨#[]⟩) && decide (bn = 0)) = true) := hs
      by_cases y : off = 0
      · subst y
        cases rd <;> cases wr <;> cases ap
        · have hf : Hid (checkO ⟨4, mak, bn, num, 0, false, false, false⟩ = 3) := Hc.out.trans (if_pos (by unfold formedO; dsimp only; rw [if_neg (by decide), Hs.out]; rfl))
          clear Hc
          go_wp2
          go_ret
          rw [hf.out]
          exact ⟨rfl, HA.out _⟩
        · have hf : Hid (checkO ⟨4, mak, bn, num, 0, false, false, true⟩ = 3) := Hc.out.trans (if_pos (by unfold formedO; dsimp only; rw [if_neg (by decide), Hs.out]; rfl))
          clear Hc
          go_wp2
          go_ret
          rw [hf.out]
          exact ⟨rfl, HA.out _⟩
        · have hg : formedO ⟨4, mak, bn, num, 0, false, true, false⟩ = true := by unfold formedO; dsimp only; rw [if_neg (by decide), Hs.out]; rfl
          have Hc2 := Lib.hid (Hc.out.trans (if_neg (by rw [hg]; decide)))
          clear hg Hc
          by_cases r1 : num < 0
          · have hf := Lib.hid (Hc2.out.trans (if_pos (by omega)))
            clear Hc2
            go_wp2
            go_ret
            rw [hf.out]
            exact ⟨rfl, HA.out _⟩
          by_cases r2 : 9999 < num
          · have hf := Lib.hid (Hc2.out.trans (if_pos (by omega)))
            clear Hc2
            go_wp2
            go_ret
            rw [hf.out]
            exact ⟨rfl, HA.out _⟩
          have Hc3 := Lib.hid (Hc2.out.trans (if_neg (by omega)))
          clear Hc2
          have hf := Lib.hid (Hc3.out.trans (if_neg (by decide)))
          clear Hc3
          go_wp2
          go_ret
          rw [hf.out]
          exact ⟨rfl, HA.out _⟩
        · have hf : Hid (checkO ⟨4, mak, bn, num, 0, false, true, true⟩ = 3) := Hc.out.trans (if_pos (by unfold formedO; dsimp only; rw [if_neg (by decide), Hs.out]; rfl))
          clear Hc
          go_wp2
          go_ret
          rw [hf.out]
          exact ⟨rfl, HA.out _⟩
        · have hg : formedO ⟨4, mak, bn, num, 0, true, false, false⟩ = true := by unfold formedO; dsimp only; rw [if_neg (by decide), Hs.out]; rfl
          have Hc2 := Lib.hid (Hc.out.trans (if_neg (by rw [hg]; decide)))
          clear hg Hc
          by_cases r1 : num < 0
          · have hf := Lib.hid (Hc2.out.trans (if_pos (by omega)))
            clear Hc2
            go_wp2
            go_ret
            rw [hf.out]
            exact ⟨rfl, HA.out _⟩
          by_cases r2 : 9999 < num
          · have hf := Lib.hid (Hc2.out.trans (if_pos (by omega)))
            clear Hc2
            go_wp2
            go_ret
            rw [hf.out]
            exact ⟨rfl, HA.out _⟩
          have Hc3 := Lib.hid (Hc2.out.trans (if_neg (by omega)))
          clear Hc2
          have hf := Lib.hid (Hc3.out.trans (if_neg (by decide)))
          clear Hc3
          go_wp2
          go_ret
          rw [hf.out]
          exact ⟨rfl, HA.out _⟩
        · have hf : Hid (checkO ⟨4, mak, bn, num, 0, true, false, true⟩ = 3) := Hc.out.trans (if_pos (by unfold formedO; dsimp only; rw [if_neg (by decide), Hs.out]; rfl))
          clear Hc
          go_wp2
          go_ret
          rw [hf.out]
          exact ⟨rfl, HA.out _⟩
        · have hg : formedO ⟨4, mak, bn, num, 0, true, true, false⟩ = true := by unfold formedO; dsimp only; rw [if_neg (by decide), Hs.out]; rfl
          have Hc2 := Lib.hid (Hc.out.trans (if_neg (by rw [hg]; decide)))
          clear hg Hc
          by_cases r1 : num < 0
          · have hf := Lib.hid (Hc2.out.trans (if_pos (by omega)))
            clear Hc2
            go_wp2
            go_ret
            rw [hf.out]
            exact ⟨rfl, HA.out _⟩
          by_cases r2 : 9999 < num
          · have hf := Lib.hid (Hc2.out.trans (if_pos (by omega)))
            clear Hc2
            go_wp2
            go_ret
            rw [hf.out]
            exact ⟨rfl, HA.out _⟩
          have Hc3 := Lib.hid (Hc2.out.trans (if_neg (by omega)))
          clear Hc2
          have hf := Lib.hid (Hc3.out.trans (if_neg (by decide)))
          clear Hc3
          go_wp2
          go_ret
          rw [hf.out]
          exact ⟨rfl, HA.out _⟩
        · have hf : Hid (checkO ⟨4, mak, bn, num, 0, true, true, true⟩ = 3) := Hc.out.trans (if_pos (by unfold formedO; dsimp only; rw [if_neg (by decide), Hs.out]; rfl))
          clear Hc
          go_wp2
          go_ret
          rw [hf.out]
          exact ⟨rfl, HA.out _⟩
      · have y1 : (off != 0) = true := bne_iff_ne.2 y
        have hf : Hid (checkO ⟨4, mak, bn, num, off, rd, wr, ap⟩ = 3) := Hc.out.trans (if_pos (by simp [formedO, y]))
        clear y
        clear Hc
        go_wp2
        go_ret
        rw [hf.out]
        exact ⟨rfl, HA.out _⟩
  · cases hs : sameBi mak bn ⟨#[]⟩ 0 with
    | false =>
      have hs2 : (decide (mak = ⟨#[]⟩) && decide (bn = 0)) = false := hs
      have hf : Hid (checkO ⟨5, mak, bn, num, off, rd, wr, ap⟩ = 3) := Hc.out.trans (if_pos (by unfold formedO; dsimp only; rw [if_neg (by decide), hs2]; rfl))
      clear hs2
      clear Hc
      go_wp2
      go_ret
      rw [hf.out]
      exact ⟨rfl, HA.out _⟩
    | true =>
      have Hs : Hid ((decide (mak = ⟨#[]⟩) && decide (bn = 0)) = true) := hs
      by_cases y : off = 0
      · subst y
        cases rd <;> cases wr <;> cases ap
        · have hf : Hid (checkO ⟨5, mak, bn, num, 0, false, false, false⟩ = 3) := Hc.out.trans (if_pos (by unfold formedO; dsimp only; rw [if_neg (by decide), Hs.out]; rfl))
          clear Hc
          go_wp2
          go_ret
          rw [hf.out]
          exact ⟨rfl, HA.out _⟩
        · have hf : Hid (checkO ⟨5, mak, bn, num, 0, false, false, true⟩ = 3) := Hc.out.trans (if_pos (by unfold formedO; dsimp only; rw [if_neg (by decide), Hs.out]; rfl))
          clear Hc
          go_wp2
          go_ret
          rw [hf.out]
          exact ⟨rfl, HA.out _⟩
        · have hg : formedO ⟨5, mak, bn, num, 0, false, true, false⟩ = true := by unfold formedO; dsimp only; rw [if_neg (by decide), Hs.out]; rfl
          have Hc2 := Lib.hid (Hc.out.trans (if_neg (by rw [hg]; decide)))
          clear hg Hc
          by_cases r1 : num < 0
          · have hf := Lib.hid (Hc2.out.trans (if_pos (by omega)))
            clear Hc2
            go_wp2
            go_ret
            rw [hf.out]
            exact ⟨rfl, HA.out _⟩
          by_cases r2 : 9999 < num
          · have hf := Lib.hid (Hc2.out.trans (if_pos (by omega)))
            clear Hc2
            go_wp2
            go_ret
            rw [hf.out]
            exact ⟨rfl, HA.out _⟩
          have Hc3 := Lib.hid (Hc2.out.trans (if_neg (by omega)))
          clear Hc2
          have hf := Lib.hid (Hc3.out.trans (if_neg (by decide)))
          clear Hc3
          go_wp2
          go_ret
          rw [hf.out]
          exact ⟨rfl, HA.out _⟩
        · have hf : Hid (checkO ⟨5, mak, bn, num, 0, false, true, true⟩ = 3) := Hc.out.trans (if_pos (by unfold formedO; dsimp only; rw [if_neg (by decide), Hs.out]; rfl))
          clear Hc
          go_wp2
          go_ret
          rw [hf.out]
          exact ⟨rfl, HA.out _⟩
        · have hg : formedO ⟨5, mak, bn, num, 0, true, false, false⟩ = true := by unfold formedO; dsimp only; rw [if_neg (by decide), Hs.out]; rfl
          have Hc2 := Lib.hid (Hc.out.trans (if_neg (by rw [hg]; decide)))
          clear hg Hc
          by_cases r1 : num < 0
          · have hf := Lib.hid (Hc2.out.trans (if_pos (by omega)))
            clear Hc2
            go_wp2
            go_ret
            rw [hf.out]
            exact ⟨rfl, HA.out _⟩
          by_cases r2 : 9999 < num
          · have hf := Lib.hid (Hc2.out.trans (if_pos (by omega)))
            clear Hc2
            go_wp2
            go_ret
            rw [hf.out]
            exact ⟨rfl, HA.out _⟩
          have Hc3 := Lib.hid (Hc2.out.trans (if_neg (by omega)))
          clear Hc2
          have hf := Lib.hid (Hc3.out.trans (if_neg (by decide)))
          clear Hc3
          go_wp2
          go_ret
          rw [hf.out]
          exact ⟨rfl, HA.out _⟩
        · have hf : Hid (checkO ⟨5, mak, bn, num, 0, true, false, true⟩ = 3) := Hc.out.trans (if_pos (by unfold formedO; dsimp only; rw [if_neg (by decide), Hs.out]; rfl))
          clear Hc
          go_wp2
          go_ret
          rw [hf.out]
          exact ⟨rfl, HA.out _⟩
        · have hg : formedO ⟨5, mak, bn, num, 0, true, true, false⟩ = true := by unfold formedO; dsimp only; rw [if_neg (by decide), Hs.out]; rfl
          have Hc2 := Lib.hid (Hc.out.trans (if_neg (by rw [hg]; decide)))
          clear hg Hc
          by_cases r1 : num < 0
          · have hf := Lib.hid (Hc2.out.trans (if_pos (by omega)))
            clear Hc2
            go_wp2
            go_ret
            rw [hf.out]
            exact ⟨rfl, HA.out _⟩
          by_cases r2 : 9999 < num
          · have hf := Lib.hid (Hc2.out.trans (if_pos (by omega)))
            clear Hc2
            go_wp2
            go_ret
            rw [hf.out]
            exact ⟨rfl, HA.out _⟩
          have Hc3 := Lib.hid (Hc2.out.trans (if_neg (by omega)))
          clear Hc2
          have hf := Lib.hid (Hc3.out.trans (if_neg (by decide)))
          clear Hc3
          go_wp2
          go_ret
          rw [hf.out]
          exact ⟨rfl, HA.out _⟩
        · have hf : Hid (checkO ⟨5, mak, bn, num, 0, true, true, true⟩ = 3) := Hc.out.trans (if_pos (by unfold formedO; dsimp only; rw [if_neg (by decide), Hs.out]; rfl))
          clear Hc
          go_wp2
          go_ret
          rw [hf.out]
          exact ⟨rfl, HA.out _⟩
      · have y1 : (off != 0) = true := bne_iff_ne.2 y
        have hf : Hid (checkO ⟨5, mak, bn, num, off, rd, wr, ap⟩ = 3) := Hc.out.trans (if_pos (by simp [formedO, y]))
        clear y
        clear Hc
        go_wp2
        go_ret
        rw [hf.out]
        exact ⟨rfl, HA.out _⟩
theorem check31_is (kd : Int) (mak : ByteArray) (bn num off : Int) (rd wr ap : Bool) (q : Nat) (h : checkO ⟨kd, mak, bn, num, off, rd, wr, ap⟩ = q) (w : World) (hm : mak.size ≤ 70368744177664) : Calls Tryd.prog 9 #[.agg #[.int .i64 kd, .string mak, .int .i64 bn, .int .i64 num, .int .i64 off, .bool rd, .bool wr, .bool ap]] w fun r w' => r = .returned (.int .i64 q) ∧ Below w.heap.size w w' := by
  subst h; exact check31_any kd mak bn num off rd wr ap w hm
end Go.Proofs.YtfchfjipkggnkaaDoor
