/- A thing that is open: isFormed, Check; the law's check. (printed by wip/gen_dscc.py) -/
import Derived.Test.YtfchfjipkggnkaaDoorDscB
namespace Go.Proofs.YtfchfjipkggnkaaDoor
open Go.RowKit
attribute [local go_sem ↓] run_eql_opn run_neq_opn
def sameBi (m : ByteArray) (k : Int) (m' : ByteArray) (k' : Int) : Bool := decide (m = m') && decide (k = k')
set_option maxRecDepth 100000 in
theorem run_neq_birth (w : World) (a1 : ByteArray) (a2 : Int) (b1 : ByteArray) (b2 : Int) : (binOp .neq 24 (.agg #[.string a1, .int .i64 a2]) (.agg #[.string b1, .int .i64 b2])).run Tryd.prog w = .ok (.bool (!sameBi a1 a2 b1 b2)) w := by
  have hu : Tryd.prog.underlying 24 = some (.struct (Tryd.prog.fieldsOf 24)) := by kernel_rfl
  have hst : Tryd.prog.stoodInHeld 24 = false := by kernel_rfl
  have h : (Op.equalIn 10000 24 (.agg #[.string a1, .int .i64 a2]) (.agg #[.string b1, .int .i64 b2])).run Tryd.prog w = .ok (sameBi a1 a2 b1 b2) w := by
    rw [run_equalIn_struct w 9999 _ _ _ hu hst]
    simp [go_sem, Tryd.underlying24, Tryd.underlying3, Tryd.underlying22]
    have hb : ∀ x y : ByteArray, x.toList = y.toList ↔ x = y := fun x y => by have := str_beq x y; rw [Bool.eq_iff_iff] at this; simpa using this
    simp only [hb, sameBi]
    by_cases h1 : a1 = b1 <;> by_cases h2 : a2 = b2 <;> simp [h1, h2]
  rw [run_neq_struct, h]
  rfl
attribute [local go_sem ↓] run_neq_birth
/-- A thing that is open lies in a block. -/
def OpnAt (w : World) (X : Nat) (o : OpnT) : Prop := w.heap[X]? = some (.cells #[.int .i64 o.kd, .string o.mak, .int .i64 o.bn, .int .i64 o.num, .int .i64 o.off, .bool o.rd, .bool o.wr, .bool o.ap] 26 (0, 0))
theorem OpnAt.cells {w : World} {X : Nat} {kd : Int} {mak : ByteArray} {bn num off : Int} {rd wr ap : Bool} (h : OpnAt w X ⟨kd, mak, bn, num, off, rd, wr, ap⟩) : w.cell? ⟨X, 0, none⟩ = some (.int .i64 kd) ∧ w.cell? ⟨X, 1, none⟩ = some (.string mak) ∧ w.cell? ⟨X, 2, none⟩ = some (.int .i64 bn) ∧ w.cell? ⟨X, 3, none⟩ = some (.int .i64 num) ∧ w.cell? ⟨X, 4, none⟩ = some (.int .i64 off) ∧ w.cell? ⟨X, 5, none⟩ = some (.bool rd) ∧ w.cell? ⟨X, 6, none⟩ = some (.bool wr) ∧ w.cell? ⟨X, 7, none⟩ = some (.bool ap) :=
  ⟨cell_of_heap h 0, cell_of_heap h 1, cell_of_heap h 2, cell_of_heap h 3, cell_of_heap h 4, cell_of_heap h 5, cell_of_heap h 6, cell_of_heap h 7⟩
theorem OpnAt.later {w w' : World} {X : Nat} {o : OpnT} (h : OpnAt w X o) (hb : Below w.heap.size w w') : OpnAt w' X o := (hb.block _ (lt_of_heap h)).trans h
set_option maxRecDepth 100000 in
set_option maxHeartbeats 6400000 in
theorem isFormed_any (kd : Int) (mak : ByteArray) (bn num off : Int) (rd wr ap : Bool) (w : World) : Calls Tryd.prog 36 #[.agg #[.int .i64 kd, .string mak, .int .i64 bn, .int .i64 num, .int .i64 off, .bool rd, .bool wr, .bool ap]] w fun r w' => r = .returned (.bool (formedO ⟨kd, mak, bn, num, off, rd, wr, ap⟩)) ∧ Below w.heap.size w w' := by
  have HA : Hid (∀ o, Below w.heap.size w (w.alloc o)) := fun o => (Below.refl _ _).alloc (Nat.le_refl _) _
  have HO : Hid (OpnAt (w.alloc (.cells #[.int .i64 kd, .string mak, .int .i64 bn, .int .i64 num, .int .i64 off, .bool rd, .bool wr, .bool ap] 26)) w.heap.size ⟨kd, mak, bn, num, off, rd, wr, ap⟩) := World.alloc_heap_new w _
  go_enter Tryd.func36, Tryd.ntmps36
  go_wp2_with fail
  refine (hasBirth_any kd mak bn num off rd wr ap _).mono ?_
  rintro r w1 ⟨rfl, hb1⟩
  obtain ⟨q0, q1, q2, q3, q4, q5, q6, q7⟩ := (HO.out.later hb1).cells
  have HB1 : Hid (Below w.heap.size w w1) := (HA.out _).trans (hb1.mono (HA.out _).size)
  clear hb1 HO HA
  by_cases k1 : kd = 1
  · subst k1
    have hn : namedB 1 = true := rfl
    rw [hn]
    by_cases z : num = 0
    · subst z
      cases rd <;> cases wr <;> cases ap
      all_goals
        go_wp2
        go_ret
        exact ⟨by rfl, HB1.out⟩
    · have z1 : (num != 0) = true := bne_iff_ne.2 z
      have hf : Hid (formedO ⟨1, mak, bn, num, off, rd, wr, ap⟩ = false) := by show _ = _; simp [formedO, z]
      clear z
      go_wp2
      go_ret
      rw [hf.out]
      exact ⟨rfl, HB1.out⟩
  by_cases k2 : kd = 2
  · subst k2
    have hn : namedB 2 = true := rfl
    rw [hn]
    by_cases z : num = 0
    · subst z
      by_cases y : off = 0
      · subst y
        cases rd <;> cases wr <;> cases ap
        all_goals
          go_wp2
          go_ret
          exact ⟨by rfl, HB1.out⟩
      · have y1 : (off != 0) = true := bne_iff_ne.2 y
        have hf : Hid (formedO ⟨2, mak, bn, 0, off, rd, wr, ap⟩ = false) := by show _ = _; simp [formedO, y]
        clear y
        go_wp2
        go_ret
        rw [hf.out]
        exact ⟨rfl, HB1.out⟩
    · have z1 : (num != 0) = true := bne_iff_ne.2 z
      have hf : Hid (formedO ⟨2, mak, bn, num, off, rd, wr, ap⟩ = false) := by show _ = _; simp [formedO, z]
      clear z
      go_wp2
      go_ret
      rw [hf.out]
      exact ⟨rfl, HB1.out⟩
  by_cases k3 : kd = 3
  · subst k3
    have hn : namedB 3 = true := rfl
    rw [hn]
    by_cases z : num = 0
    · subst z
      by_cases y : off = 0
      · subst y
        cases rd <;> cases wr <;> cases ap
        all_goals
          go_wp2
          go_ret
          exact ⟨by rfl, HB1.out⟩
      · have y1 : (off != 0) = true := bne_iff_ne.2 y
        have hf : Hid (formedO ⟨3, mak, bn, 0, off, rd, wr, ap⟩ = false) := by show _ = _; simp [formedO, y]
        clear y
        go_wp2
        go_ret
        rw [hf.out]
        exact ⟨rfl, HB1.out⟩
    · have z1 : (num != 0) = true := bne_iff_ne.2 z
      have hf : Hid (formedO ⟨3, mak, bn, num, off, rd, wr, ap⟩ = false) := by show _ = _; simp [formedO, z]
      clear z
      go_wp2
      go_ret
      rw [hf.out]
      exact ⟨rfl, HB1.out⟩
  have hn : namedB kd = false := decide_eq_false (by omega)
  rw [hn]
  have e1 : (kd == 1) = false := beq_eq_false_iff_ne.2 k1
  have e1n : (kd != 1) = true := bne_iff_ne.2 k1
  have e2 : (kd == 2) = false := beq_eq_false_iff_ne.2 k2
  have e3 : (kd == 3) = false := beq_eq_false_iff_ne.2 k3
  have Hk : Hid (¬ (kd = 1 ∨ kd = 2 ∨ kd = 3) ∧ kd ≠ 1 ∧ kd ≠ 2 ∧ kd ≠ 3) := ⟨by omega, k1, k2, k3⟩
  clear k1 k2 k3 hn
  cases hs : sameBi mak bn ⟨#[]⟩ 0 with
  | false =>
    have hf : Hid (formedO ⟨kd, mak, bn, num, off, rd, wr, ap⟩ = false) := by
      show _ = _
      unfold sameBi at hs
      unfold formedO
      dsimp only
      rw [if_neg Hk.out.1, hs]
      rfl
    clear Hk
    go_wp2
    go_ret
    rw [hf.out]
    exact ⟨rfl, HB1.out⟩
  | true =>
    have Hs : Hid (decide (mak = ⟨#[]⟩) && decide (bn = 0)) := hs
    by_cases y : off = 0
    · subst y
      have hf : Hid (∀ a b c : Bool, formedO ⟨kd, mak, bn, num, 0, a, b, c⟩ = ((!c && !(c && !b)) && (a || b))) := fun a b c => by
        unfold formedO
        dsimp only
        rw [if_neg Hk.out.1, if_neg Hk.out.2.2.1, if_neg Hk.out.2.2.2, Hs.out, decide_eq_true Hk.out.2.1]
        rfl
      clear Hk Hs
      cases rd <;> cases wr <;> cases ap
      all_goals
        go_wp2
        go_ret
        rw [hf.out]
        exact ⟨rfl, HB1.out⟩
    · have y1 : (off != 0) = true := bne_iff_ne.2 y
      have hf : Hid (formedO ⟨kd, mak, bn, num, off, rd, wr, ap⟩ = false) := by
        show _ = _
        unfold formedO
        dsimp only
        rw [if_neg Hk.out.1, Hs.out, decide_eq_true Hk.out.2.1, decide_eq_true y]
        rfl
      clear y Hk Hs
      go_wp2
      go_ret
      rw [hf.out]
      exact ⟨rfl, HB1.out⟩
theorem isFormed_is (kd : Int) (mak : ByteArray) (bn num off : Int) (rd wr ap : Bool) (b : Bool) (h : formedO ⟨kd, mak, bn, num, off, rd, wr, ap⟩ = b) (w : World) : Calls Tryd.prog 36 #[.agg #[.int .i64 kd, .string mak, .int .i64 bn, .int .i64 num, .int .i64 off, .bool rd, .bool wr, .bool ap]] w fun r w' => r = .returned (.bool b) ∧ Below w.heap.size w w' := by
  subst h; exact isFormed_any kd mak bn num off rd wr ap w
set_option maxRecDepth 100000 in
set_option maxHeartbeats 6400000 in
theorem oCheck_any (kd : Int) (mak : ByteArray) (bn num off : Int) (rd wr ap : Bool) (w : World) (hm : mak.size ≤ 70368744177664) : Calls Tryd.prog 12 #[.agg #[.int .i64 kd, .string mak, .int .i64 bn, .int .i64 num, .int .i64 off, .bool rd, .bool wr, .bool ap]] w fun r w' => r = .returned (.int .i64 (checkO ⟨kd, mak, bn, num, off, rd, wr, ap⟩)) ∧ Below w.heap.size w w' := by
  have HA : Hid (∀ o, Below w.heap.size w (w.alloc o)) := fun o => (Below.refl _ _).alloc (Nat.le_refl _) _
  have HO : Hid (OpnAt (w.alloc (.cells #[.int .i64 kd, .string mak, .int .i64 bn, .int .i64 num, .int .i64 off, .bool rd, .bool wr, .bool ap] 26)) w.heap.size ⟨kd, mak, bn, num, off, rd, wr, ap⟩) := World.alloc_heap_new w _
  by_cases hk : kd < 1 ∨ 5 < kd
  · have hf : Hid (checkO ⟨kd, mak, bn, num, off, rd, wr, ap⟩ = 11) := if_pos hk
    have hk2 : kd < 1 ∨ (¬ kd < 1 ∧ 5 < kd) := by omega
    clear hk HO
    go_enter Tryd.func12, Tryd.ntmps12
    rcases hk2 with h1 | ⟨h1, h2⟩
    all_goals
      go_wp2
      go_ret
      rw [hf.out]
      exact ⟨rfl, HA.out _⟩
  have h1 : ¬ kd < 1 := by omega
  have h2 : ¬ 5 < kd := by omega
  have Hc : Hid (checkO ⟨kd, mak, bn, num, off, rd, wr, ap⟩ = if formedO ⟨kd, mak, bn, num, off, rd, wr, ap⟩ = false then 3 else if num < 0 ∨ 9999 < num ∨ off < 0 ∨ 4096 < off then 2 else if kd = 1 ∨ kd = 2 ∨ kd = 3 then birthO mak bn else 0) := if_neg hk
  clear hk
  go_enter Tryd.func12, Tryd.ntmps12
  go_wp2_with fail
  cases hF : formedO ⟨kd, mak, bn, num, off, rd, wr, ap⟩ with
  | false =>
    have hf : Hid (checkO ⟨kd, mak, bn, num, off, rd, wr, ap⟩ = 3) := Hc.out.trans (if_pos hF)
    refine (isFormed_is kd mak bn num off rd wr ap false hF _).mono ?_
    rintro r w1 ⟨rfl, hb1⟩
    have HB1 : Hid (Below w.heap.size w w1) := (HA.out _).trans (hb1.mono (HA.out _).size)
    clear hb1
    go_wp2
    go_ret
    rw [hf.out]
    exact ⟨rfl, HB1.out⟩
  | true =>
    have Hc2 : Hid (checkO ⟨kd, mak, bn, num, off, rd, wr, ap⟩ = if num < 0 ∨ 9999 < num ∨ off < 0 ∨ 4096 < off then 2 else if kd = 1 ∨ kd = 2 ∨ kd = 3 then birthO mak bn else 0) := Hc.out.trans (if_neg (by rw [hF]; decide))
    refine (isFormed_is kd mak bn num off rd wr ap true hF _).mono ?_
    rintro r w1 ⟨rfl, hb1⟩
    have HO1 := Lib.hid (HO.out.later hb1)
    have HB1 : Hid (Below w.heap.size w w1) := (HA.out _).trans (hb1.mono (HA.out _).size)
    obtain ⟨q0, q1, q2, q3, q4, q5, q6, q7⟩ := HO1.out.cells
    clear hb1 Hc hF HA HO
    by_cases hr : num < 0 ∨ 9999 < num ∨ off < 0 ∨ 4096 < off
    · have hf : Hid (checkO ⟨kd, mak, bn, num, off, rd, wr, ap⟩ = 2) := Hc2.out.trans (if_pos hr)
      have hr2 : num < 0 ∨ (¬ num < 0 ∧ 9999 < num) ∨ (¬ num < 0 ∧ ¬ 9999 < num ∧ off < 0) ∨ (¬ num < 0 ∧ ¬ 9999 < num ∧ ¬ off < 0 ∧ 4096 < off) := by omega
      clear hr Hc2
      rcases hr2 with r1 | ⟨r1, r2⟩ | ⟨r1, r2, r3⟩ | ⟨r1, r2, r3, r4⟩
      all_goals
        go_wp2
        go_ret
        rw [hf.out]
        exact ⟨rfl, HB1.out⟩
    have r1 : ¬ num < 0 := by omega
    have r2 : ¬ 9999 < num := by omega
    have r3 : ¬ off < 0 := by omega
    have r4 : ¬ 4096 < off := by omega
    have Hc3 : Hid (checkO ⟨kd, mak, bn, num, off, rd, wr, ap⟩ = if kd = 1 ∨ kd = 2 ∨ kd = 3 then birthO mak bn else 0) := Hc2.out.trans (if_neg hr)
    clear hr Hc2
    by_cases hn : kd = 1 ∨ kd = 2 ∨ kd = 3
    · have hf : Hid (checkO ⟨kd, mak, bn, num, off, rd, wr, ap⟩ = birthO mak bn) := Hc3.out.trans (if_pos hn)
      have hnb : namedB kd = true := decide_eq_true hn
      have Hm := Lib.hid hm
      clear Hc3 hn hm
      go_wp2_with fail
      refine (hasBirth_is kd mak bn num off rd wr ap true hnb _).mono ?_
      rintro r w2 ⟨rfl, hb2⟩
      have HO2 := Lib.hid (HO1.out.later hb2)
      have HB2 : Hid (Below w.heap.size w w2) := HB1.out.trans (hb2.mono HB1.out.size)
      clear hb2 q0 q1 q2 q3 q4 q5 q6 q7 hnb
      obtain ⟨q0, q1, q2, q3, q4, q5, q6, q7⟩ := HO2.out.cells
      go_wp2_with fail
      refine (birthO_any mak bn _ Hm.out).mono ?_
      rintro r w3 ⟨rfl, hb3⟩
      have HB3 : Hid (Below w.heap.size w w3) := HB2.out.trans (hb3.mono HB2.out.size)
      clear hb3
      go_wp2
      go_ret
      rw [hf.out]
      exact ⟨rfl, HB3.out⟩
    · have hf : Hid (checkO ⟨kd, mak, bn, num, off, rd, wr, ap⟩ = 0) := Hc3.out.trans (if_neg hn)
      have hnb : namedB kd = false := decide_eq_false hn
      clear Hc3 hn
      go_wp2_with fail
      refine (hasBirth_is kd mak bn num off rd wr ap false hnb _).mono ?_
      rintro r w2 ⟨rfl, hb2⟩
      have HB2 : Hid (Below w.heap.size w w2) := HB1.out.trans (hb2.mono HB1.out.size)
      clear hb2
      go_wp2
      go_ret
      rw [hf.out]
      exact ⟨rfl, HB2.out⟩
theorem oCheck_is (kd : Int) (mak : ByteArray) (bn num off : Int) (rd wr ap : Bool) (q : Nat) (h : checkO ⟨kd, mak, bn, num, off, rd, wr, ap⟩ = q) (w : World) (hm : mak.size ≤ 70368744177664) : Calls Tryd.prog 12 #[.agg #[.int .i64 kd, .string mak, .int .i64 bn, .int .i64 num, .int .i64 off, .bool rd, .bool wr, .bool ap]] w fun r w' => r = .returned (.int .i64 q) ∧ Below w.heap.size w w' := by
  subst h; exact oCheck_any kd mak bn num off rd wr ap w hm
end Go.Proofs.YtfchfjipkggnkaaDoor
