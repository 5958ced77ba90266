/- descriptor, upon a view whose value is known: Close. (printed by wip/gen_dsco.py) -/
import Derived.Test.YtfchfjipkggnkaaDoorDscO
namespace Go.Proofs.YtfchfjipkggnkaaDoor
open Go.RowKit
attribute [local go_sem ↓] run_eql_opn run_neq_opn

section
variable {w0 w : World} {b M : Nat} {V : AV} {G : Nat → Prop} (s : QM w0 w b M V G)
include s
set_option maxRecDepth 100000 in
set_option maxHeartbeats 6400000 in
theorem qdClose (who : ByteArray) (hw : who.size ≤ 70368744177664) (fd : Int) (hlen : V.calls.length < 1000000) : Calls Tryd.prog 21 #[.pointer (some ⟨b, 0, none⟩), .string who, .int .i64 fd] w (QMP w0 b M ((dOne who (closeF fd)).run V).1 G w (.tuple #[opnA ((dOne who (closeF fd)).run V).2.O, .int .i64 ((dOne who (closeF fd)).run V).2.E])) := by
  have hE0 : ∀ k, k = w.heap.size → w.heap.size ≤ k ∧ k < (w.alloc (.cells #[.int .i64 0, .string ⟨#[]⟩, .int .i64 0, .int .i64 0, .int .i64 0, .bool false, .bool false, .bool false] 26)).heap.size := fun k hk => by subst hk; simp
  have Q0 := Lib.hid (s.qi (W := w.alloc (.cells #[.int .i64 0, .string ⟨#[]⟩, .int .i64 0, .int .i64 0, .int .i64 0, .bool false, .bool false, .bool false] 26)) (E := fun k => k = w.heap.size) ((Below.refl _ _).alloc (Nat.le_refl _) _) hE0)
  have R0 : Hid (OpnAt (w.alloc (.cells #[.int .i64 0, .string ⟨#[]⟩, .int .i64 0, .int .i64 0, .int .i64 0, .bool false, .bool false, .bool false] 26)) w.heap.size ⟨0, ⟨#[]⟩, 0, 0, 0, false, false, false⟩) := World.alloc_heap_new w _
  have HRn := Lib.hid (opn_run V who fd (closeF fd) (fun t h => if_pos h))
  have HO := Lib.hid (opn_ok (V := V) (who := who) (fd := fd))
  have hl := opn_len V who fd
  have HL := Lib.hid (allV_len (who := who) hlen)
  clear hE0 s hlen
  go_enter Tryd.func21, Tryd.ntmps21
  go_wp2_with fail
  refine (qdOpen Q0.out.s who hw fd).mono ?_
  rintro r w2 ⟨rfl, s2, hk⟩
  have Q1 := Lib.hid (Q0.out.step s2 hk)
  have R1 := Lib.hid (R0.out.kept (hk w.heap.size (.inr rfl)))
  clear s2 hk Q0 R0
  obtain ⟨⟨t, e⟩, ht⟩ : ∃ p, opnR V who fd = p := ⟨_, rfl⟩
  rw [ht] at HRn HO hl ⊢
  clear ht
  dsimp only at HRn HO hl ⊢
  have hns := new_store w2 hl
  have hsz := tabA_128 hl
  have hb3 : Below w2.heap.size w2 (w2.alloc (.cells (tabA t) 31)) := (Below.refl _ _).alloc (Nat.le_refl _) _
  have Q2 := Lib.hid (Q1.out.later hb3)
  have R2 := Lib.hid (R1.out.later hb3)
  have T2 := Lib.hid (new_tab w2 hl)
  have Hsz : Hid (w.heap.size < w2.heap.size) := lt_of_heap R1.out
  have Hl := Lib.hid hl
  clear hb3
  by_cases h0 : e = 0
  · subst h0
    have HB := Lib.hid (HO.out rfl)
    obtain ⟨f0, f1, hz⟩ := badD_no HB.out.1
    clear hz
    have HR := Lib.hid (HRn.out.trans (if_neg (by simp)))
    clear HRn HO
    obtain ⟨n, rfl⟩ := Int.eq_ofNat_of_zero_le (show 0 ≤ fd by omega)
    have hn : n < 16 := by omega
    obtain ⟨x, hx⟩ := ent_some hl hn
    have h1 := entD_at hx
    obtain ⟨kd, mak, bn, num, off, rd, wr, ap⟩ := x
    have e1 : closeF (n : Int) t = (⟨zeroTab, ⟨kd, mak, bn, num, off, rd, wr, ap⟩, 0, 0⟩, some (some (t.set n ⟨0, ⟨#[]⟩, 0, 0, 0, false, false, false⟩))) := by
      unfold closeF
      rw [if_neg (by rw [HB.out.1]; decide), h1]
      rfl
    have HG := Lib.hid (good_close (n : Int) t HB.out.2.1 hl (t.set n ⟨0, ⟨#[]⟩, 0, 0, 0, false, false, false⟩) (by rw [e1]))
    have HR2 : Hid ((dOne who (closeF (n : Int))).run V = (addV (allV V who) (chgD who (some (t.set n ⟨0, ⟨#[]⟩, 0, 0, 0, false, false, false⟩))), ⟨zeroTab, ⟨kd, mak, bn, num, off, rd, wr, ap⟩, 0, 0⟩)) := by
      refine HR.out.trans ?_
      rw [e1]
      rfl
    clear e1 h1 HR
    have hb4 : Below w2.heap.size w2 ((w2.alloc (.cells (tabA t) 31)).alloc (.cells #[.int .i64 kd, .string mak, .int .i64 bn, .int .i64 num, .int .i64 off, .bool rd, .bool wr, .bool ap] 26)) := ((Below.refl _ _).alloc (Nat.le_refl _) _).alloc (by simp) _
    have Q3 := Lib.hid (Q1.out.more (W' := ((w2.alloc (.cells (tabA t) 31)).alloc (.cells #[.int .i64 kd, .string mak, .int .i64 bn, .int .i64 num, .int .i64 off, .bool rd, .bool wr, .bool ap] 26))) (E' := (fun k => k = w.heap.size ∨ k = w2.heap.size ∨ k = w2.heap.size + 1)) hb4 (fun k hk => by
      rcases hk with h | h | h
      · exact .inl h
      · subst h; exact .inr (by simp; omega)
      · subst h; exact .inr (by simp)))
    have hb5 : Below (w2.alloc (.cells (tabA t) 31)).heap.size (w2.alloc (.cells (tabA t) 31)) ((w2.alloc (.cells (tabA t) 31)).alloc (.cells #[.int .i64 kd, .string mak, .int .i64 bn, .int .i64 num, .int .i64 off, .bool rd, .bool wr, .bool ap] 26)) := (Below.refl _ _).alloc (Nat.le_refl _) _
    have R3 := Lib.hid (R2.out.later hb5)
    have T3 := Lib.hid (T2.out.later hb5)
    have X3 : Hid (OpnAt ((w2.alloc (.cells (tabA t) 31)).alloc (.cells #[.int .i64 kd, .string mak, .int .i64 bn, .int .i64 num, .int .i64 off, .bool rd, .bool wr, .bool ap] 26)) (w2.heap.size + 1) ⟨kd, mak, bn, num, off, rd, wr, ap⟩) := by
      have := World.alloc_heap_new (w2.alloc (.cells (tabA t) 31)) (.cells #[.int .i64 kd, .string mak, .int .i64 bn, .int .i64 num, .int .i64 off, .bool rd, .bool wr, .bool ap] 26)
      rw [World.size_alloc] at this
      exact this
    clear hb4 hb5
    have z0 : (w2.alloc (.cells (tabA t) 31)).cell? ⟨w2.heap.size, n * 8, none⟩ = some (.int .i64 kd) := T2.out.cell hx (j := 0) rfl
    have z1 : (w2.alloc (.cells (tabA t) 31)).cell? ⟨w2.heap.size, n * 8 + 1, none⟩ = some (.string mak) := T2.out.cell hx (j := 1) rfl
    have z2 : (w2.alloc (.cells (tabA t) 31)).cell? ⟨w2.heap.size, n * 8 + 2, none⟩ = some (.int .i64 bn) := T2.out.cell hx (j := 2) rfl
    have z3 : (w2.alloc (.cells (tabA t) 31)).cell? ⟨w2.heap.size, n * 8 + 3, none⟩ = some (.int .i64 num) := T2.out.cell hx (j := 3) rfl
    have z4 : (w2.alloc (.cells (tabA t) 31)).cell? ⟨w2.heap.size, n * 8 + 4, none⟩ = some (.int .i64 off) := T2.out.cell hx (j := 4) rfl
    have z5 : (w2.alloc (.cells (tabA t) 31)).cell? ⟨w2.heap.size, n * 8 + 5, none⟩ = some (.bool rd) := T2.out.cell hx (j := 5) rfl
    have z6 : (w2.alloc (.cells (tabA t) 31)).cell? ⟨w2.heap.size, n * 8 + 6, none⟩ = some (.bool wr) := T2.out.cell hx (j := 6) rfl
    have z7 : (w2.alloc (.cells (tabA t) 31)).cell? ⟨w2.heap.size, n * 8 + 7, none⟩ = some (.bool ap) := T2.out.cell hx (j := 7) rfl
    have i0 : (0 : Int) ≤ (n : Int) := by omega
    have i1 : ((n : Nat) : Int) < 16 := by omega
    have Hx := Lib.hid hx
    have Hn := Lib.hid hn
    clear hx hn Q2 R2 T2 Q1 R1 f0 f1
    go_upto_region 5 with fail
    clear z0 z1 z2 z3 z4 z5 z6 z7 hns hsz
    obtain ⟨wy, hwy⟩ : ∃ wy, ((w2.alloc (.cells (tabA t) 31)).alloc (.cells #[.int .i64 kd, .string mak, .int .i64 bn, .int .i64 num, .int .i64 off, .bool rd, .bool wr, .bool ap] 26)) = wy := ⟨_, rfl⟩
    rw [hwy] at Q3 R3 T3 X3 ⊢
    clear hwy
    have z0 : wy.cell? ⟨w2.heap.size, n * 8, none⟩ = some (.int .i64 kd) := T3.out.cell Hx.out (j := 0) rfl
    have z1 : wy.cell? ⟨w2.heap.size, n * 8 + 1, none⟩ = some (.string mak) := T3.out.cell Hx.out (j := 1) rfl
    have z2 : wy.cell? ⟨w2.heap.size, n * 8 + 2, none⟩ = some (.int .i64 bn) := T3.out.cell Hx.out (j := 2) rfl
    have z3 : wy.cell? ⟨w2.heap.size, n * 8 + 3, none⟩ = some (.int .i64 num) := T3.out.cell Hx.out (j := 3) rfl
    have z4 : wy.cell? ⟨w2.heap.size, n * 8 + 4, none⟩ = some (.int .i64 off) := T3.out.cell Hx.out (j := 4) rfl
    have z5 : wy.cell? ⟨w2.heap.size, n * 8 + 5, none⟩ = some (.bool rd) := T3.out.cell Hx.out (j := 5) rfl
    have z6 : wy.cell? ⟨w2.heap.size, n * 8 + 6, none⟩ = some (.bool wr) := T3.out.cell Hx.out (j := 6) rfl
    have z7 : wy.cell? ⟨w2.heap.size, n * 8 + 7, none⟩ = some (.bool ap) := T3.out.cell Hx.out (j := 7) rfl
    have y0 := T3.out.free (n * 8)
    have y1 := T3.out.free (n * 8 + 1)
    have y2 := T3.out.free (n * 8 + 2)
    have y3 := T3.out.free (n * 8 + 3)
    have y4 := T3.out.free (n * 8 + 4)
    have y5 := T3.out.free (n * 8 + 5)
    have y6 := T3.out.free (n * 8 + 6)
    have y7 := T3.out.free (n * 8 + 7)
    have hg8 := (grown_set8 wy w2.heap.size (n * 8) (n * 8 + 1) (n * 8 + 2) (n * 8 + 3) (n * 8 + 4) (n * 8 + 5) (n * 8 + 6) (n * 8 + 7) (.int .i64 0) (.string ⟨#[]⟩) (.int .i64 0) (.int .i64 0) (.int .i64 0) (.bool false) (.bool false) (.bool false))
    have T4 := Lib.hid (tab_stored T3.out Hn.out ⟨0, ⟨#[]⟩, 0, 0, 0, false, false, false⟩)
    have Q4 := Lib.hid (Q3.out.grown w2.heap.size (.inr (.inl rfl)) hg8)
    have R4 := Lib.hid (R3.out.kept (hg8.block _ (lt_of_heap R3.out) (fun e => by have := Hsz.out; injection e with e; omega)))
    have X4 := Lib.hid (X3.out.kept (hg8.block _ (lt_of_heap X3.out) (fun e => by injection e with e; omega)))
    dsimp only at T4 Q4 R4 X4
    clear hg8 R3 T3 X3 Q3
    go_upto_region 6 with fail
    obtain ⟨wz, hwz⟩ : ∃ wz, ((((((((wy.setCell ⟨w2.heap.size, n * 8, none⟩ (.int .i64 0)).setCell ⟨w2.heap.size, n * 8 + 1, none⟩ (.string ⟨#[]⟩)).setCell ⟨w2.heap.size, n * 8 + 2, none⟩ (.int .i64 0)).setCell ⟨w2.heap.size, n * 8 + 3, none⟩ (.int .i64 0)).setCell ⟨w2.heap.size, n * 8 + 4, none⟩ (.int .i64 0)).setCell ⟨w2.heap.size, n * 8 + 5, none⟩ (.bool false)).setCell ⟨w2.heap.size, n * 8 + 6, none⟩ (.bool false)).setCell ⟨w2.heap.size, n * 8 + 7, none⟩ (.bool false)) = wz := ⟨_, rfl⟩
    rw [hwz] at T4 Q4 R4 X4 ⊢
    clear hwz z0 z1 z2 z3 z4 z5 z6 z7 y0 y1 y2 y3 y4 y5 y6 y7
    go_wp2
    refine wp_load_tab _ (by rfl) w2.heap.size (by rfl) T4.out ?_
    go_wp2_with fail
    refine (qdWrite Q4.out.s who hw HB.out.2.2 _ HG.out.2 HG.out.1 (maks_ok HG.out.1) HL.out).mono ?_
    rintro r w5 ⟨rfl, s5, hk⟩
    have Q5 := Lib.hid (Q4.out.step s5 hk)
    have R5 := Lib.hid (R4.out.kept (hk _ (.inr (.inl rfl))))
    have X5 := Lib.hid (X4.out.kept (hk _ (.inr (.inr (.inr rfl)))))
    clear s5 hk Q4 R4 X4 T4
    obtain ⟨x0, x1, x2, x3, x4, x5, x6, x7⟩ := X5.out.cells
    obtain ⟨r0, r1, r2, r3, r4, r5, r6, r7⟩ := R5.out.cells
    have q0 := R5.out.free 0
    have q1 := R5.out.free 1
    have q2 := R5.out.free 2
    have q3 := R5.out.free 3
    have q4 := R5.out.free 4
    have q5 := R5.out.free 5
    have q6 := R5.out.free 6
    have q7 := R5.out.free 7
    have HT := Lib.hid (opn_stored R5.out ⟨kd, mak, bn, num, off, rd, wr, ap⟩)
    have HF := Lib.hid ((Q5.out.grown w.heap.size (.inl rfl) (grown_set8 w5 w.heap.size (0) (1) (2) (3) (4) (5) (6) (7) (.int .i64 kd) (.string mak) (.int .i64 bn) (.int .i64 num) (.int .i64 off) (.bool rd) (.bool wr) (.bool ap))).post (.tuple #[opnA ⟨kd, mak, bn, num, off, rd, wr, ap⟩, .int .i64 0]))
    dsimp only at HT
    clear Q5 R5 X5
    go_wp2
    refine bodyPost_ret (v := .tuple #[opnA ⟨kd, mak, bn, num, off, rd, wr, ap⟩, .int .i64 0]) (results_opn rfl _ _ w.heap.size (by rfl) (by rfl) HT.out) rfl ?_
    rw [HR2.out]
    exact HF.out
  · have HR := Lib.hid (HRn.out.trans (if_pos h0))
    have hq' : ((e : Int) != 0) = true := bne_iff_ne.2 (by omega)
    clear h0 HRn HO
    obtain ⟨r0, r1, r2, r3, r4, r5, r6, r7⟩ := R2.out.cells
    have q0 := R2.out.free 0
    have q1 := R2.out.free 1
    have q2 := R2.out.free 2
    have q3 := R2.out.free 3
    have q4 := R2.out.free 4
    have q5 := R2.out.free 5
    have q6 := R2.out.free 6
    have q7 := R2.out.free 7
    have HT := Lib.hid (opn_stored R2.out ⟨0, ⟨#[]⟩, 0, 0, 0, false, false, false⟩)
    have HF := Lib.hid ((Q2.out.grown w.heap.size rfl (grown_set8 (w2.alloc (.cells (tabA t) 31)) w.heap.size (0) (1) (2) (3) (4) (5) (6) (7) (.int .i64 0) (.string ⟨#[]⟩) (.int .i64 0) (.int .i64 0) (.int .i64 0) (.bool false) (.bool false) (.bool false))).post (.tuple #[opnA ⟨0, ⟨#[]⟩, 0, 0, 0, false, false, false⟩, .int .i64 e]))
    dsimp only at HT
    clear Q2 R2 T2 Q1 R1
    go_wp2
    refine bodyPost_ret (v := .tuple #[opnA ⟨0, ⟨#[]⟩, 0, 0, 0, false, false, false⟩, .int .i64 e]) (results_opn rfl _ _ w.heap.size (by rfl) (by rfl) HT.out) rfl ?_
    rw [HR.out]
    exact HF.out
end
end Go.Proofs.YtfchfjipkggnkaaDoor
