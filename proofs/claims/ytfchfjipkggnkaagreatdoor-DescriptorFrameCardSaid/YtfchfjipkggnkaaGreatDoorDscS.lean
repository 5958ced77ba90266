/- descriptor, upon a view whose value is known: Close. (printed by wip/gen_dsco.py) descriptor: one cell of an entry; the closures of Seek and Advance; move, upon a view whose value is known. (printed by wip/gen_dscq.py) descriptor, upon a view whose value is known: Seek, Advance. (printed by wip/gen_dscq.py) Law 31: the operations at the process "1" whose table is known; file. (printed by wip/gen_dscs.py) -/
import Derived.Test.YtfchfjipkggnkaaGreatDoorDscO
namespace Go.Proofs.YtfchfjipkggnkaaGreatDoor
open Go.RowKit
attribute [local go_sem ↓] run_eql_opn run_neq_opn

section
variable {w0 w : World} {b M : Nat} {V : AV} {G : Nat → Prop} (s : QM w0 w b M V G)
include s
set_option maxRecDepth 100000 in
set_option maxHeartbeats 6400000 in
theorem qdClose (who : ByteArray) (hw : who.size ≤ 70368744177664) (fd : Int) (hlen : V.calls.length < 1000000) : Calls Tryz.prog 26 #[.pointer (some ⟨b, 0, none⟩), .string who, .int .i64 fd] w (QMP w0 b M ((dOne who (closeF fd)).run V).1 G w (.tuple #[opnA ((dOne who (closeF fd)).run V).2.O, .int .i64 ((dOne who (closeF fd)).run V).2.E])) := by
  have hE0 : ∀ k, k = w.heap.size → w.heap.size ≤ k ∧ k < (w.alloc (.cells #[.int .i64 0, .string ⟨#[]⟩, .int .i64 0, .int .i64 0, .int .i64 0, .bool false, .bool false, .bool false] 34)).heap.size := fun k hk => by subst hk; simp
  have Q0 := Lib.hid (s.qi (W := w.alloc (.cells #[.int .i64 0, .string ⟨#[]⟩, .int .i64 0, .int .i64 0, .int .i64 0, .bool false, .bool false, .bool false] 34)) (E := fun k => k = w.heap.size) ((Below.refl _ _).alloc (Nat.le_refl _) _) hE0)
  have R0 : Hid (OpnAt (w.alloc (.cells #[.int .i64 0, .string ⟨#[]⟩, .int .i64 0, .int .i64 0, .int .i64 0, .bool false, .bool false, .bool false] 34)) w.heap.size ⟨0, ⟨#[]⟩, 0, 0, 0, false, false, false⟩) := World.alloc_heap_new w _
  have HRn := Lib.hid (opn_run V who fd (closeF fd) (fun t h => if_pos h))
  have HO := Lib.hid (opn_ok (V := V) (who := who) (fd := fd))
  have hl := opn_len V who fd
  have HL := Lib.hid (allV_len (who := who) hlen)
  clear hE0 s hlen
  go_enter Tryz.func26, Tryz.ntmps26
  go_wp2_with fail
  refine (qdOpen Q0.out.s who hw fd).mono ?_
  rintro r w2 ⟨rfl, s2, hk⟩
  have Q1 := Lib.hid (Q0.out.step s2 hk)
  have R1 := Lib.hid (R0.out.kept (hk w.heap.size (.inr rfl)))
  clear s2 hk Q0 R0
  obtain ⟨⟨t, e⟩, ht⟩ : ∃ p, opnR V who fd = p := ⟨_, rfl⟩
  rw [ht] at HRn HO hl ⊢
  clear ht
  dsimp only at HRn HO hl ⊢
  have hns := new_store w2 hl
  have hsz := tabA_128 hl
  have hb3 : Below w2.heap.size w2 (w2.alloc (.cells (tabA t) 36)) := (Below.refl _ _).alloc (Nat.le_refl _) _
  have Q2 := Lib.hid (Q1.out.later hb3)
  have R2 := Lib.hid (R1.out.later hb3)
  have T2 := Lib.hid (new_tab w2 hl)
  have Hsz : Hid (w.heap.size < w2.heap.size) := lt_of_heap R1.out
  have Hl := Lib.hid hl
  clear hb3
  by_cases h0 : e = 0
  · subst h0
    have HB := Lib.hid (HO.out rfl)
    obtain ⟨f0, f1, hz⟩ := badD_no HB.out.1
    clear hz
    have HR := Lib.hid (HRn.out.trans (if_neg (by simp)))
    clear HRn HO
    obtain ⟨n, rfl⟩ := Int.eq_ofNat_of_zero_le (show 0 ≤ fd by omega)
    have hn : n < 16 := by omega
    obtain ⟨x, hx⟩ := ent_some hl hn
    have h1 := entD_at hx
    obtain ⟨kd, mak, bn, num, off, rd, wr, ap⟩ := x
    have e1 : closeF (n : Int) t = (⟨zeroTab, ⟨kd, mak, bn, num, off, rd, wr, ap⟩, 0, 0⟩, some (some (t.set n ⟨0, ⟨#[]⟩, 0, 0, 0, false, false, false⟩))) := by
      unfold closeF
      rw [if_neg (by rw [HB.out.1]; decide), h1]
      rfl
    have HG := Lib.hid (good_close (n : Int) t HB.out.2.1 hl (t.set n ⟨0, ⟨#[]⟩, 0, 0, 0, false, false, false⟩) (by rw [e1]))
    have HR2 : Hid ((dOne who (closeF (n : Int))).run V = (addV (allV V who) (chgD who (some (t.set n ⟨0, ⟨#[]⟩, 0, 0, 0, false, false, false⟩))), ⟨zeroTab, ⟨kd, mak, bn, num, off, rd, wr, ap⟩, 0, 0⟩)) := by
      refine HR.out.trans ?_
      rw [e1]
      rfl
    clear e1 h1 HR
    have hb4 : Below w2.heap.size w2 ((w2.alloc (.cells (tabA t) 36)).alloc (.cells #[.int .i64 kd, .string mak, .int .i64 bn, .int .i64 num, .int .i64 off, .bool rd, .bool wr, .bool ap] 34)) := ((Below.refl _ _).alloc (Nat.le_refl _) _).alloc (by simp) _
    have Q3 := Lib.hid (Q1.out.more (W' := ((w2.alloc (.cells (tabA t) 36)).alloc (.cells #[.int .i64 kd, .string mak, .int .i64 bn, .int .i64 num, .int .i64 off, .bool rd, .bool wr, .bool ap] 34))) (E' := (fun k => k = w.heap.size ∨ k = w2.heap.size ∨ k = w2.heap.size + 1)) hb4 (fun k hk => by
      rcases hk with h | h | h
      · exact .inl h
      · subst h; exact .inr (by simp; omega)
      · subst h; exact .inr (by simp)))
    have hb5 : Below (w2.alloc (.cells (tabA t) 36)).heap.size (w2.alloc (.cells (tabA t) 36)) ((w2.alloc (.cells (tabA t) 36)).alloc (.cells #[.int .i64 kd, .string mak, .int .i64 bn, .int .i64 num, .int .i64 off, .bool rd, .bool wr, .bool ap] 34)) := (Below.refl _ _).alloc (Nat.le_refl _) _
    have R3 := Lib.hid (R2.out.later hb5)
    have T3 := Lib.hid (T2.out.later hb5)
    have X3 : Hid (OpnAt ((w2.alloc (.cells (tabA t) 36)).alloc (.cells #[.int .i64 kd, .string mak, .int .i64 bn, .int .i64 num, .int .i64 off, .bool rd, .bool wr, .bool ap] 34)) (w2.heap.size + 1) ⟨kd, mak, bn, num, off, rd, wr, ap⟩) := by
      have := World.alloc_heap_new (w2.alloc (.cells (tabA t) 36)) (.cells #[.int .i64 kd, .string mak, .int .i64 bn, .int .i64 num, .int .i64 off, .bool rd, .bool wr, .bool ap] 34)
      rw [World.size_alloc] at this
      exact this
    clear hb4 hb5
    have z0 : (w2.alloc (.cells (tabA t) 36)).cell? ⟨w2.heap.size, n * 8, none⟩ = some (.int .i64 kd) := T2.out.cell hx (j := 0) rfl
    have z1 : (w2.alloc (.cells (tabA t) 36)).cell? ⟨w2.heap.size, n * 8 + 1, none⟩ = some (.string mak) := T2.out.cell hx (j := 1) rfl
    have z2 : (w2.alloc (.cells (tabA t) 36)).cell? ⟨w2.heap.size, n * 8 + 2, none⟩ = some (.int .i64 bn) := T2.out.cell hx (j := 2) rfl
    have z3 : (w2.alloc (.cells (tabA t) 36)).cell? ⟨w2.heap.size, n * 8 + 3, none⟩ = some (.int .i64 num) := T2.out.cell hx (j := 3) rfl
    have z4 : (w2.alloc (.cells (tabA t) 36)).cell? ⟨w2.heap.size, n * 8 + 4, none⟩ = some (.int .i64 off) := T2.out.cell hx (j := 4) rfl
    have z5 : (w2.alloc (.cells (tabA t) 36)).cell? ⟨w2.heap.size, n * 8 + 5, none⟩ = some (.bool rd) := T2.out.cell hx (j := 5) rfl
    have z6 : (w2.alloc (.cells (tabA t) 36)).cell? ⟨w2.heap.size, n * 8 + 6, none⟩ = some (.bool wr) := T2.out.cell hx (j := 6) rfl
    have z7 : (w2.alloc (.cells (tabA t) 36)).cell? ⟨w2.heap.size, n * 8 + 7, none⟩ = some (.bool ap) := T2.out.cell hx (j := 7) rfl
    have i0 : (0 : Int) ≤ (n : Int) := by omega
    have i1 : ((n : Nat) : Int) < 16 := by omega
    have Hx := Lib.hid hx
    have Hn := Lib.hid hn
    clear hx hn Q2 R2 T2 Q1 R1 f0 f1
    go_upto_region 5 with fail
    clear z0 z1 z2 z3 z4 z5 z6 z7 hns hsz
    obtain ⟨wy, hwy⟩ : ∃ wy, ((w2.alloc (.cells (tabA t) 36)).alloc (.cells #[.int .i64 kd, .string mak, .int .i64 bn, .int .i64 num, .int .i64 off, .bool rd, .bool wr, .bool ap] 34)) = wy := ⟨_, rfl⟩
    rw [hwy] at Q3 R3 T3 X3 ⊢
    clear hwy
    have z0 : wy.cell? ⟨w2.heap.size, n * 8, none⟩ = some (.int .i64 kd) := T3.out.cell Hx.out (j := 0) rfl
    have z1 : wy.cell? ⟨w2.heap.size, n * 8 + 1, none⟩ = some (.string mak) := T3.out.cell Hx.out (j := 1) rfl
    have z2 : wy.cell? ⟨w2.heap.size, n * 8 + 2, none⟩ = some (.int .i64 bn) := T3.out.cell Hx.out (j := 2) rfl
    have z3 : wy.cell? ⟨w2.heap.size, n * 8 + 3, none⟩ = some (.int .i64 num) := T3.out.cell Hx.out (j := 3) rfl
    have z4 : wy.cell? ⟨w2.heap.size, n * 8 + 4, none⟩ = some (.int .i64 off) := T3.out.cell Hx.out (j := 4) rfl
    have z5 : wy.cell? ⟨w2.heap.size, n * 8 + 5, none⟩ = some (.bool rd) := T3.out.cell Hx.out (j := 5) rfl
    have z6 : wy.cell? ⟨w2.heap.size, n * 8 + 6, none⟩ = some (.bool wr) := T3.out.cell Hx.out (j := 6) rfl
    have z7 : wy.cell? ⟨w2.heap.size, n * 8 + 7, none⟩ = some (.bool ap) := T3.out.cell Hx.out (j := 7) rfl
    have y0 := T3.out.free (n * 8)
    have y1 := T3.out.free (n * 8 + 1)
    have y2 := T3.out.free (n * 8 + 2)
    have y3 := T3.out.free (n * 8 + 3)
    have y4 := T3.out.free (n * 8 + 4)
    have y5 := T3.out.free (n * 8 + 5)
    have y6 := T3.out.free (n * 8 + 6)
    have y7 := T3.out.free (n * 8 + 7)
    have hg8 := (grown_set8 wy w2.heap.size (n * 8) (n * 8 + 1) (n * 8 + 2) (n * 8 + 3) (n * 8 + 4) (n * 8 + 5) (n * 8 + 6) (n * 8 + 7) (.int .i64 0) (.string ⟨#[]⟩) (.int .i64 0) (.int .i64 0) (.int .i64 0) (.bool false) (.bool false) (.bool false))
    have T4 := Lib.hid (tab_stored T3.out Hn.out ⟨0, ⟨#[]⟩, 0, 0, 0, false, false, false⟩)
    have Q4 := Lib.hid (Q3.out.grown w2.heap.size (.inr (.inl rfl)) hg8)
    have R4 := Lib.hid (R3.out.kept (hg8.block _ (lt_of_heap R3.out) (fun e => by have := Hsz.out; injection e with e; omega)))
    have X4 := Lib.hid (X3.out.kept (hg8.block _ (lt_of_heap X3.out) (fun e => by injection e with e; omega)))
    dsimp only at T4 Q4 R4 X4
    clear hg8 R3 T3 X3 Q3
    go_upto_region 6 with fail
    obtain ⟨wz, hwz⟩ : ∃ wz, ((((((((wy.setCell ⟨w2.heap.size, n * 8, none⟩ (.int .i64 0)).setCell ⟨w2.heap.size, n * 8 + 1, none⟩ (.string ⟨#[]⟩)).setCell ⟨w2.heap.size, n * 8 + 2, none⟩ (.int .i64 0)).setCell ⟨w2.heap.size, n * 8 + 3, none⟩ (.int .i64 0)).setCell ⟨w2.heap.size, n * 8 + 4, none⟩ (.int .i64 0)).setCell ⟨w2.heap.size, n * 8 + 5, none⟩ (.bool false)).setCell ⟨w2.heap.size, n * 8 + 6, none⟩ (.bool false)).setCell ⟨w2.heap.size, n * 8 + 7, none⟩ (.bool false)) = wz := ⟨_, rfl⟩
    rw [hwz] at T4 Q4 R4 X4 ⊢
    clear hwz z0 z1 z2 z3 z4 z5 z6 z7 y0 y1 y2 y3 y4 y5 y6 y7
    go_wp2
    refine wp_load_tab _ (by rfl) w2.heap.size (by rfl) T4.out ?_
    go_wp2_with fail
    refine (qdWrite Q4.out.s who hw HB.out.2.2 _ HG.out.2 HG.out.1 (maks_ok HG.out.1) HL.out).mono ?_
    rintro r w5 ⟨rfl, s5, hk⟩
    have Q5 := Lib.hid (Q4.out.step s5 hk)
    have R5 := Lib.hid (R4.out.kept (hk _ (.inr (.inl rfl))))
    have X5 := Lib.hid (X4.out.kept (hk _ (.inr (.inr (.inr rfl)))))
    clear s5 hk Q4 R4 X4 T4
    obtain ⟨x0, x1, x2, x3, x4, x5, x6, x7⟩ := X5.out.cells
    obtain ⟨r0, r1, r2, r3, r4, r5, r6, r7⟩ := R5.out.cells
    have q0 := R5.out.free 0
    have q1 := R5.out.free 1
    have q2 := R5.out.free 2
    have q3 := R5.out.free 3
    have q4 := R5.out.free 4
    have q5 := R5.out.free 5
    have q6 := R5.out.free 6
    have q7 := R5.out.free 7
    have HT := Lib.hid (opn_stored R5.out ⟨kd, mak, bn, num, off, rd, wr, ap⟩)
    have HF := Lib.hid ((Q5.out.grown w.heap.size (.inl rfl) (grown_set8 w5 w.heap.size (0) (1) (2) (3) (4) (5) (6) (7) (.int .i64 kd) (.string mak) (.int .i64 bn) (.int .i64 num) (.int .i64 off) (.bool rd) (.bool wr) (.bool ap))).post (.tuple #[opnA ⟨kd, mak, bn, num, off, rd, wr, ap⟩, .int .i64 0]))
    dsimp only at HT
    clear Q5 R5 X5
    go_wp2
    refine bodyPost_ret (v := .tuple #[opnA ⟨kd, mak, bn, num, off, rd, wr, ap⟩, .int .i64 0]) (results_opn rfl _ _ w.heap.size (by rfl) (by rfl) HT.out) rfl ?_
    rw [HR2.out]
    exact HF.out
  · have HR := Lib.hid (HRn.out.trans (if_pos h0))
    have hq' : ((e : Int) != 0) = true := bne_iff_ne.2 (by omega)
    clear h0 HRn HO
    obtain ⟨r0, r1, r2, r3, r4, r5, r6, r7⟩ := R2.out.cells
    have q0 := R2.out.free 0
    have q1 := R2.out.free 1
    have q2 := R2.out.free 2
    have q3 := R2.out.free 3
    have q4 := R2.out.free 4
    have q5 := R2.out.free 5
    have q6 := R2.out.free 6
    have q7 := R2.out.free 7
    have HT := Lib.hid (opn_stored R2.out ⟨0, ⟨#[]⟩, 0, 0, 0, false, false, false⟩)
    have HF := Lib.hid ((Q2.out.grown w.heap.size rfl (grown_set8 (w2.alloc (.cells (tabA t) 36)) w.heap.size (0) (1) (2) (3) (4) (5) (6) (7) (.int .i64 0) (.string ⟨#[]⟩) (.int .i64 0) (.int .i64 0) (.int .i64 0) (.bool false) (.bool false) (.bool false))).post (.tuple #[opnA ⟨0, ⟨#[]⟩, 0, 0, 0, false, false, false⟩, .int .i64 e]))
    dsimp only at HT
    clear Q2 R2 T2 Q1 R1
    go_wp2
    refine bodyPost_ret (v := .tuple #[opnA ⟨0, ⟨#[]⟩, 0, 0, 0, false, false, false⟩, .int .i64 e]) (results_opn rfl _ _ w.heap.size (by rfl) (by rfl) HT.out) rfl ?_
    rw [HR.out]
    exact HF.out
end
end Go.Proofs.YtfchfjipkggnkaaGreatDoor

namespace Go.Proofs.YtfchfjipkggnkaaGreatDoor
open Go.RowKit
attribute [local go_sem ↓] run_eql_opn run_neq_opn

theorem callFunc_d {P : Program} {f : FuncId} {fn : Func} (hf : P.funcs[f]? = some fn) (hname : (fn.name == "runtime.NumGoroutine") = false) (hb : fn.body.isNone = false) (args : Array Value) (w : World) : (callFunc f args).run P w = .ok (.enter f args) w := by
  have h1 : fn.name ≠ "runtime.NumGoroutine" := by simpa using hname
  have h2 : fn.body ≠ none := fun e => by rw [e] at hb; cases hb
  simp [callFunc, hf, h1, h2]
/-- One offset is stored. -/
theorem tab_stored_off {w : World} {X : Nat} {t : List OpnT} (h : TabAt w X t) {k : Nat} (hk : k < 16) {x : OpnT} (hx : t[k]? = some x) (q : Int) : TabAt (w.setCell ⟨X, k * 8 + 4, none⟩ (.int .i64 q)) X (t.set k (atO x q)) := by
  refine ⟨?_, by simp [h.2]⟩
  have h8 := heap_setCell_same h.1 (k * 8 + 4) (.int .i64 q)
  refine h8.trans (congrArg (fun A => some (Obj.cells A 36 (0, 0))) ?_)
  apply Array.ext_getElem?
  intro i
  have hs := tabA_128 h.2
  rw [tabA_set (by have := h.2; omega), Array.getElem?_setIfInBounds]
  by_cases h1 : k * 8 ≤ i ∧ i < k * 8 + 8
  · obtain ⟨j, rfl⟩ : ∃ j, i = k * 8 + j := ⟨i - k * 8, by omega⟩
    have hj : j < 8 := by omega
    rw [if_pos h1, show k * 8 + j - k * 8 = j by omega]
    rcases (by omega : j = 0 ∨ j = 1 ∨ j = 2 ∨ j = 3 ∨ j = 4 ∨ j = 5 ∨ j = 6 ∨ j = 7) with rfl | rfl | rfl | rfl | rfl | rfl | rfl | rfl
    case inr.inr.inr.inr.inl => rw [if_pos (by omega), if_pos (by omega)]; rfl
    all_goals
      rw [if_neg (by omega), tabA_at hx (u := _) rfl]
      rfl
  · rw [if_neg h1, if_neg (by omega)]
set_option maxRecDepth 100000 in
theorem seekCl (X : Nat) (d old : Int) (W : World) (hc : W.cell? ⟨X, 0, none⟩ = some (.int .i64 d)) : Calls Tryz.prog 64 #[.int .i64 old, .pointer (some ⟨X, 0, none⟩)] W fun r w' => r = .returned (.int .i64 d) ∧ Below W.heap.size W w' := by
  go_enter Tryz.func64, Tryz.ntmps64
  go_wp2
  go_ret
  exact ⟨rfl, Below.refl _ _⟩
theorem wrap_add {d old : Int} (h0 : 0 ≤ old) (h1 : old ≤ 4096) (hd : -9223372036854775808 ≤ d ∧ d ≤ 9223372036854775807) : IntKind.i64.wrap (old + d) = advG d old := by
  unfold advG
  have e : IntKind.i64.wrap (old + d) = (old + d + 9223372036854775808) % 18446744073709551616 - 9223372036854775808 := by
    simp [IntKind.wrap, IntKind.signed, IntKind.bits]
    split <;> omega
  rw [e]
  split <;> omega
set_option maxRecDepth 100000 in
theorem advCl (X : Nat) (d old : Int) (h0 : 0 ≤ old) (h1 : old ≤ 4096) (hd : -9223372036854775808 ≤ d ∧ d ≤ 9223372036854775807) (W : World) (hc : W.cell? ⟨X, 0, none⟩ = some (.int .i64 d)) : Calls Tryz.prog 65 #[.int .i64 old, .pointer (some ⟨X, 0, none⟩)] W fun r w' => r = .returned (.int .i64 (advG d old)) ∧ Below W.heap.size W w' := by
  have hw := wrap_add h0 h1 hd
  go_enter Tryz.func65, Tryz.ntmps65
  go_wp2
  go_ret
  exact ⟨rfl, Below.refl _ _⟩
/-- What a mover does. -/
def MvS (cl : Nat) (X : Nat) (g : Int → Int) (C : Option Obj) : Prop := ∀ (W : World) (old : Int), 0 ≤ old → old ≤ 4096 → W.heap[X]? = C → Calls Tryz.prog cl #[.int .i64 old, .pointer (some ⟨X, 0, none⟩)] W fun r w' => r = .returned (.int .i64 (g old)) ∧ Below W.heap.size W w'
section
variable {w0 w : World} {b M : Nat} {V : AV} {G : Nat → Prop} (s : QM w0 w b M V G)
include s
set_option maxRecDepth 100000 in
set_option maxHeartbeats 6400000 in
theorem qdMove (who : ByteArray) (hw : who.size ≤ 70368744177664) (fd : Int) (hlen : V.calls.length < 1000000) (cl X : Nat) (g : Int → Int) (hX : G X) (hob : ∃ ob, w.heap[X]? = some ob) (hm : MvS cl X g (w.heap[X]?)) (hcf : ∀ args W, (callFunc cl args).run Tryz.prog W = .ok (.enter cl args) W) : Calls Tryz.prog 63 #[.pointer (some ⟨b, 0, none⟩), .string who, .int .i64 fd, .func (.func cl) #[] #[.pointer (some ⟨X, 0, none⟩)]] w (QMP w0 b M ((dOne who (moveF fd g)).run V).1 G w (.int .i64 ((dOne who (moveF fd g)).run V).2.E)) := by
  have Q0 := Lib.hid (s.qi0 (Below.refl w.heap.size w))
  have HX0 : Hid (∃ ob, w.heap[X]? = some ob) := hob
  have Hm := Lib.hid hm
  have HGX := Lib.hid hX
  have HRn := Lib.hid (opn_run V who fd (moveF fd g) (fun t h => if_pos h))
  have HO := Lib.hid (opn_ok (V := V) (who := who) (fd := fd))
  have hl := opn_len V who fd
  have HL := Lib.hid (allV_len (who := who) hlen)
  clear s hlen hm hob hX
  go_enter Tryz.func63, Tryz.ntmps63
  go_wp2_with fail
  refine (qdOpen Q0.out.s who hw fd).mono ?_
  rintro r w2 ⟨rfl, s2, hk⟩
  have Q1 := Lib.hid (Q0.out.step s2 hk)
  have X1 : Hid (w2.heap[X]? = w.heap[X]?) := hk X (.inl HGX.out)
  clear s2 hk Q0
  obtain ⟨⟨t, e⟩, ht⟩ : ∃ p, opnR V who fd = p := ⟨_, rfl⟩
  rw [ht] at HRn HO hl ⊢
  clear ht
  dsimp only at HRn HO hl ⊢
  have hns := new_store w2 hl
  have hsz := tabA_128 hl
  have hb3 : Below w2.heap.size w2 (w2.alloc (.cells (tabA t) 36)) := (Below.refl _ _).alloc (Nat.le_refl _) _
  have Q2 := Lib.hid (Q1.out.more (W' := (w2.alloc (.cells (tabA t) 36))) (E' := fun k => k = w2.heap.size) hb3 (fun k hk => by subst hk; exact .inr (by simp)))
  have X2 : Hid ((w2.alloc (.cells (tabA t) 36)).heap[X]? = w.heap[X]?) := by
    obtain ⟨ob, h⟩ := HX0.out
    exact (hb3.block _ (lt_of_heap (X1.out.trans h))).trans X1.out
  have T2 := Lib.hid (new_tab w2 hl)
  have Hl := Lib.hid hl
  clear hb3 X1 HX0
  by_cases h0 : e = 0
  · subst h0
    have HB := Lib.hid (HO.out rfl)
    obtain ⟨f0, f1, hz⟩ := badD_no HB.out.1
    clear hz
    have HR := Lib.hid (HRn.out.trans (if_neg (by simp)))
    clear HRn HO
    obtain ⟨n, rfl⟩ := Int.eq_ofNat_of_zero_le (show 0 ≤ fd by omega)
    have hn : n < 16 := by omega
    obtain ⟨x, hx⟩ := ent_some hl hn
    have h1 := entD_at hx
    have hc := ent_check HB.out.2.1 hl (fd := (n : Int)) (by rw [HB.out.1]; decide)
    rw [h1] at hc
    have ho := (checkO_ok hc).off
    clear hc
    obtain ⟨kd, mak, bn, num, off, rd, wr, ap⟩ := x
    dsimp only at ho
    have z0 : (w2.alloc (.cells (tabA t) 36)).cell? ⟨w2.heap.size, n * 8, none⟩ = some (.int .i64 kd) := T2.out.cell hx (j := 0) rfl
    have z1 : (w2.alloc (.cells (tabA t) 36)).cell? ⟨w2.heap.size, n * 8 + 1, none⟩ = some (.string mak) := T2.out.cell hx (j := 1) rfl
    have z2 : (w2.alloc (.cells (tabA t) 36)).cell? ⟨w2.heap.size, n * 8 + 2, none⟩ = some (.int .i64 bn) := T2.out.cell hx (j := 2) rfl
    have z3 : (w2.alloc (.cells (tabA t) 36)).cell? ⟨w2.heap.size, n * 8 + 3, none⟩ = some (.int .i64 num) := T2.out.cell hx (j := 3) rfl
    have z4 : (w2.alloc (.cells (tabA t) 36)).cell? ⟨w2.heap.size, n * 8 + 4, none⟩ = some (.int .i64 off) := T2.out.cell hx (j := 4) rfl
    have z5 : (w2.alloc (.cells (tabA t) 36)).cell? ⟨w2.heap.size, n * 8 + 5, none⟩ = some (.bool rd) := T2.out.cell hx (j := 5) rfl
    have z6 : (w2.alloc (.cells (tabA t) 36)).cell? ⟨w2.heap.size, n * 8 + 6, none⟩ = some (.bool wr) := T2.out.cell hx (j := 6) rfl
    have z7 : (w2.alloc (.cells (tabA t) 36)).cell? ⟨w2.heap.size, n * 8 + 7, none⟩ = some (.bool ap) := T2.out.cell hx (j := 7) rfl
    have i0 : (0 : Int) ≤ (n : Int) := by omega
    have i1 : ((n : Nat) : Int) < 16 := by omega
    have Hx := Lib.hid hx
    have Hn := Lib.hid hn
    have H1 := Lib.hid h1
    have Ho := Lib.hid ho
    clear hx hn h1 f0 f1 ho z1 z2 z3 z5 z6 z7
    by_cases hk1 : kd = 1
    · subst hk1
      have hcl := Hm.out (w2.alloc (.cells (tabA t) 36)) off Ho.out.1 Ho.out.2 X2.out
      have Hcl := Lib.hid hcl
      clear hcl
      obtain ⟨q, hq⟩ : ∃ q, g off = q := ⟨_, rfl⟩
      rw [hq] at Hcl
      have Hq := Lib.hid hq
      clear hq
      go_wp2_with fail
      refine Hcl.out.mono ?_
      rintro r w3 ⟨rfl, hb⟩
      have Q3 := Lib.hid (Q2.out.later hb)
      have T3 := Lib.hid (T2.out.later hb)
      clear hb Q2 T2 X2 Hcl z0 z4
      have z4 : w3.cell? ⟨w2.heap.size, n * 8 + 4, none⟩ = some (.int .i64 off) := T3.out.cell Hx.out (j := 4) rfl
      have y4 := T3.out.free (n * 8 + 4)
      by_cases a1 : q < 0
      · have HR2 : Hid ((dOne who (moveF (n : Int) g)).run V = putR (allV V who) who (errD 2, none)) := by
          refine HR.out.trans ?_
          have e1 : moveF (n : Int) g t = (errD 2, none) := by
            unfold moveF
            rw [if_neg (by rw [HB.out.1]; decide), H1.out]
            dsimp only
            rw [if_neg (by simp), Hq.out, if_pos (.inl a1)]
          rw [e1]
        clear z4 y4
        go_wp2
        go_ret
        rw [HR2.out]
        exact Q3.out.post _
      by_cases a2 : 4096 < q
      · have HR2 : Hid ((dOne who (moveF (n : Int) g)).run V = putR (allV V who) who (errD 2, none)) := by
          refine HR.out.trans ?_
          have e1 : moveF (n : Int) g t = (errD 2, none) := by
            unfold moveF
            rw [if_neg (by rw [HB.out.1]; decide), H1.out]
            dsimp only
            rw [if_neg (by simp), Hq.out, if_pos (.inr a2)]
          rw [e1]
        clear z4 y4
        go_wp2
        go_ret
        rw [HR2.out]
        exact Q3.out.post _
      by_cases a3 : q = off
      · have HR2 : Hid ((dOne who (moveF (n : Int) g)).run V = putR (allV V who) who (errD 0, none)) := by
          refine HR.out.trans ?_
          have e1 : moveF (n : Int) g t = (errD 0, none) := by
            unfold moveF
            rw [if_neg (by rw [HB.out.1]; decide), H1.out]
            dsimp only
            rw [if_neg (by simp), Hq.out, if_neg (by omega), if_pos a3]
          rw [e1]
        clear y4
        go_wp2
        go_ret
        rw [HR2.out]
        exact Q3.out.post _
      have e2 : moveF (n : Int) g t = (errD 0, some (some (t.set n (atO ⟨1, mak, bn, num, off, rd, wr, ap⟩ q)))) := by
        unfold moveF
        rw [if_neg (by rw [HB.out.1]; decide), H1.out]
        dsimp only
        rw [if_neg (by simp), Hq.out, if_neg (by omega), if_neg a3]
        rfl
      have HR2 : Hid ((dOne who (moveF (n : Int) g)).run V = (addV (allV V who) (chgD who (some (t.set n (atO ⟨1, mak, bn, num, off, rd, wr, ap⟩ q)))), errD 0)) := by
        refine HR.out.trans ?_
        rw [e2]
        rfl
      have HG := Lib.hid (good_move (n : Int) g t HB.out.2.1 Hl.out (t.set n (atO ⟨1, mak, bn, num, off, rd, wr, ap⟩ q)) (by rw [e2]))
      clear e2
      have T4 := Lib.hid (tab_stored_off T3.out Hn.out Hx.out q)
      have Q4 := Lib.hid (Q3.out.grown w2.heap.size rfl (grown_setCell w3 w2.heap.size (n * 8 + 4) (.int .i64 q)))
      clear Q3 T3
      go_upto_region 12 with fail
      obtain ⟨wz, hwz⟩ : ∃ wz, w3.setCell ⟨w2.heap.size, n * 8 + 4, none⟩ (.int .i64 q) = wz := ⟨_, rfl⟩
      rw [hwz] at T4 Q4 ⊢
      clear hwz z4 y4
      go_wp2
      refine wp_load_tab _ (by rfl) w2.heap.size (by rfl) T4.out ?_
      go_wp2_with fail
      refine (qdWrite Q4.out.s who hw HB.out.2.2 _ HG.out.2 HG.out.1 (maks_ok HG.out.1) HL.out).mono ?_
      rintro r w5 ⟨rfl, s5, hk⟩
      have Q5 := Lib.hid (Q4.out.step s5 hk)
      clear s5 hk Q4 T4
      go_wp2
      go_ret
      rw [HR2.out]
      exact Q5.out.post _
    · have HR2 : Hid ((dOne who (moveF (n : Int) g)).run V = putR (allV V who) who (errD 11, none)) := by
        refine HR.out.trans ?_
        have e1 : moveF (n : Int) g t = (errD 11, none) := by
          unfold moveF
          rw [if_neg (by rw [HB.out.1]; decide), H1.out]
          dsimp only
          rw [if_pos hk1]
        rw [e1]
      go_wp2
      go_ret
      rw [HR2.out]
      exact Q2.out.post _
  · have HR := Lib.hid (HRn.out.trans (if_pos h0))
    have hq' : ((e : Int) != 0) = true := bne_iff_ne.2 (by omega)
    clear h0 HRn HO
    go_wp2
    go_ret
    rw [HR.out]
    exact Q2.out.post _
end
end Go.Proofs.YtfchfjipkggnkaaGreatDoor

namespace Go.Proofs.YtfchfjipkggnkaaGreatDoor
open Go.RowKit

section
variable {w0 w : World} {b M : Nat} {V : AV} {G : Nat → Prop} (s : QM w0 w b M V G)
include s
set_option maxRecDepth 100000 in
set_option maxHeartbeats 1600000 in
theorem qdSeek (who : ByteArray) (hw : who.size ≤ 70368744177664) (fd d : Int) (hlen : V.calls.length < 1000000) : Calls Tryz.prog 35 #[.pointer (some ⟨b, 0, none⟩), .string who, .int .i64 fd, .int .i64 d] w (QMP w0 b M ((dOne who (moveF fd (fun _ => d))).run V).1 G w (.int .i64 ((dOne who (moveF fd (fun _ => d))).run V).2.E)) := by
  have hE0 : ∀ k, k = w.heap.size → w.heap.size ≤ k ∧ k < (w.alloc (.cells #[.int .i64 d] 3)).heap.size := fun k hk => by subst hk; simp
  have Q0 := Lib.hid (s.qi (W := (w.alloc (.cells #[.int .i64 d] 3))) (E := fun k => k = w.heap.size) ((Below.refl _ _).alloc (Nat.le_refl _) _) hE0)
  have hB : (w.alloc (.cells #[.int .i64 d] 3)).heap[w.heap.size]? = some (.cells #[.int .i64 d] 3 (0, 0)) := World.alloc_heap_new w _
  have HC := Lib.hid (qdMove Q0.out.s who hw fd hlen 64 w.heap.size (fun _ => d) (.inr rfl) ⟨_, hB⟩ (fun W old _ _ h => seekCl w.heap.size d old W (cell_of_heap (h.trans hB) 0)) (callFunc_d Tryz.func64 (by kernel_rfl) (by kernel_rfl)))
  clear hE0 s hlen hB
  go_enter Tryz.func35, Tryz.ntmps35
  go_wp2_with fail
  refine HC.out.mono ?_
  rintro r w2 ⟨rfl, s2, hk⟩
  have Q1 := Lib.hid (Q0.out.step s2 hk)
  clear s2 hk Q0 HC
  go_wp2
  go_ret
  exact Q1.out.post _
set_option maxRecDepth 100000 in
set_option maxHeartbeats 1600000 in
theorem qdAdvance (who : ByteArray) (hw : who.size ≤ 70368744177664) (fd d : Int) (hd : -9223372036854775808 ≤ d ∧ d ≤ 9223372036854775807) (hlen : V.calls.length < 1000000) : Calls Tryz.prog 36 #[.pointer (some ⟨b, 0, none⟩), .string who, .int .i64 fd, .int .i64 d] w (QMP w0 b M ((dOne who (moveF fd (advG d))).run V).1 G w (.int .i64 ((dOne who (moveF fd (advG d))).run V).2.E)) := by
  have hE0 : ∀ k, k = w.heap.size → w.heap.size ≤ k ∧ k < (w.alloc (.cells #[.int .i64 d] 3)).heap.size := fun k hk => by subst hk; simp
  have Q0 := Lib.hid (s.qi (W := (w.alloc (.cells #[.int .i64 d] 3))) (E := fun k => k = w.heap.size) ((Below.refl _ _).alloc (Nat.le_refl _) _) hE0)
  have hB : (w.alloc (.cells #[.int .i64 d] 3)).heap[w.heap.size]? = some (.cells #[.int .i64 d] 3 (0, 0)) := World.alloc_heap_new w _
  have HC := Lib.hid (qdMove Q0.out.s who hw fd hlen 65 w.heap.size (advG d) (.inr rfl) ⟨_, hB⟩ (fun W old h0 h1 h => advCl w.heap.size d old h0 h1 hd W (cell_of_heap (h.trans hB) 0)) (callFunc_d Tryz.func65 (by kernel_rfl) (by kernel_rfl)))
  clear hE0 s hlen hB
  go_enter Tryz.func36, Tryz.ntmps36
  go_wp2_with fail
  refine HC.out.mono ?_
  rintro r w2 ⟨rfl, s2, hk⟩
  have Q1 := Lib.hid (Q0.out.step s2 hk)
  clear s2 hk Q0 HC
  go_wp2
  go_ret
  exact Q1.out.post _
end
end Go.Proofs.YtfchfjipkggnkaaGreatDoor

namespace Go.Proofs.YtfchfjipkggnkaaGreatDoor
open Go.RowKit

theorem valid_K : validB ⟨#[49]⟩ = true := by decide +kernel
theorem size_K : (⟨#[49]⟩ : ByteArray).size ≤ 70368744177664 := by decide
def fileO (n : Int) : OpnT := ⟨1, ⟨#[49]⟩, n, 0, 0, true, false, false⟩
theorem check_file {n : Int} (h0 : 0 ≤ n) (h1 : n ≤ 1073741824) : checkO (fileO n) = 0 := by
  unfold checkO fileO
  dsimp only
  rw [if_neg (by omega), if_neg (by simp [formedO]), if_neg (by omega), if_pos (.inl rfl)]
  unfold birthO
  rw [valid_K, if_neg (by decide), if_pos ⟨h0, h1⟩]
def stepD (f : List OpnT → ResD × ChD) (t : List OpnT) : Option (List OpnT) := match (f t).2 with
  | none => some t
  | some c => c
theorem hasD_step {V : AV} {who : ByteArray} {t : List OpnT} {f : List OpnT → ResD × ChD} (hv : validB who = true) (h : HasD V who (some t)) (hg : GoodF f) : ((dOne who f).run V).2 = (f t).1 ∧ HasD ((dOne who f).run V).1 who (stepD f t) ∧ ((dOne who f).run V).1.calls.length ≤ V.calls.length + 1 := by
  have hg' := hg t h.2.1 h.2.2
  have e : (dOne who f).run V = putR (avSeen V (ofTab who)) who (f t) := dOne_has hv h f
  rw [e]
  unfold stepD
  obtain ⟨⟨r, c⟩, hf⟩ : ∃ p, f t = p := ⟨_, rfl⟩
  rw [hf] at hg' ⊢
  cases c with
  | none => exact ⟨rfl, h.same (avSeen_get _ _ _), by show (avSeen V _).calls.length ≤ _; rw [avSeen_cal]; omega⟩
  | some c => exact ⟨rfl, HasD.put (fun t' e => hg' t' (by rw [e])), by show ((avSeen V _).calls ++ [_]).length ≤ _; rw [avSeen_cal]; simp⟩
/-- A view in which the table of "1" is known. -/
def KV (w0 w : World) (b M : Nat) (G : Nat → Prop) (k : Nat) (t : Option (List OpnT)) : Prop := ∃ V, QM w0 w b M V G ∧ HasD V ⟨#[49]⟩ t ∧ V.calls.length ≤ k
def KP (w0 : World) (b M : Nat) (G : Nat → Prop) (k : Nat) (t : Option (List OpnT)) (w : World) (v : Value) (r : Ending) (w' : World) : Prop := r = .returned v ∧ KV w0 w' b M G k t ∧ ∀ j, G j → w'.heap[j]? = w.heap[j]?
section
variable {w0 w w' : World} {b M k : Nat} {G G' : Nat → Prop} {t : List OpnT} {u : Option (List OpnT)}
theorem KV.later (h : KV w0 w b M G k u) (hb : Below w.heap.size w w') : KV w0 w' b M G k u := by
  obtain ⟨V, s, h1, h2⟩ := h
  exact ⟨V, s.later hb, h1, h2⟩
theorem KV.fresh (h : KV w0 w b M G k u) (hb : Below w.heap.size w w') (hG : ∀ k, G' k → G k ∨ (w.heap.size ≤ k ∧ k < w'.heap.size)) : KV w0 w' b M G' k u := by
  obtain ⟨V, s, h1, h2⟩ := h
  exact ⟨V, s.fresh hb hG, h1, h2⟩
theorem KV.below (h : KV w0 w b M G k u) : Below w0.heap.size w0 w := by
  obtain ⟨V, s, -, -⟩ := h
  exact s.below
theorem KV.glt (h : KV w0 w b M G k u) {j : Nat} (hj : G j) : j < w.heap.size := by
  obtain ⟨V, s, -, -⟩ := h
  exact s.glt hj
theorem kMake (h : KV w0 w b M G k none) (hk : k < 999999) : Calls Tryz.prog 23 #[.pointer (some ⟨b, 0, none⟩), .string ⟨#[49]⟩] w (KP w0 b M G (k + 1) (some zeroTab) w (.int .i64 0)) := by
  obtain ⟨V, s, h, hl⟩ := h
  refine (qdMake s ⟨#[49]⟩ size_K (by omega)).mono ?_
  rintro r w' ⟨rfl, s', hk⟩
  have e : (dMake ⟨#[49]⟩).run V = (addV (avSeen V (ofTab ⟨#[49]⟩)) (chgD ⟨#[49]⟩ (some zeroTab)), errD 0) := by
    have h' : (avGet V (ofTab ⟨#[49]⟩)).2 = false := h
    rw [dMake_run, if_neg (by rw [valid_K]; decide), if_neg (by rw [h']; decide)]
  rw [e] at s' ⊢
  exact ⟨rfl, ⟨_, s', HasD.put (fun t' e => by cases e; exact ⟨tabE_zeroTab, zeroTab_len⟩), by show ((avSeen V _).calls ++ [_]).length ≤ _; rw [avSeen_cal]; simp; omega⟩, hk⟩
theorem kClose (h : KV w0 w b M G k (some t)) (hk : k < 999999) (fd : Int) : Calls Tryz.prog 26 #[.pointer (some ⟨b, 0, none⟩), .string ⟨#[49]⟩, .int .i64 fd] w (KP w0 b M G (k + 1) (stepD (closeF fd) t) w (.tuple #[opnA (closeF fd t).1.O, .int .i64 (closeF fd t).1.E])) := by
  obtain ⟨V, s, h, hl⟩ := h
  refine (qdClose s ⟨#[49]⟩ size_K fd (by omega)).mono ?_
  rintro r w' ⟨rfl, s', hk⟩
  obtain ⟨e1, e2, e3⟩ := hasD_step valid_K h (good_close fd)
  rw [e1]
  exact ⟨rfl, ⟨_, s', e2, by omega⟩, hk⟩
theorem kAdd (h : KV w0 w b M G k (some t)) (hk : k < 999999) (n : Int) (h0 : 0 ≤ n) (h1 : n ≤ 1073741824) : Calls Tryz.prog 24 #[.pointer (some ⟨b, 0, none⟩), .string ⟨#[49]⟩, .agg #[.int .i64 1, .string ⟨#[49]⟩, .int .i64 n, .int .i64 0, .int .i64 0, .bool true, .bool false, .bool false]] w (KP w0 b M G (k + 1) (stepD (addF (fileO n)) t) w (.tuple #[.int .i64 (addF (fileO n) t).1.N, .int .i64 (addF (fileO n) t).1.E])) := by
  obtain ⟨V, s, h, hl⟩ := h
  refine (qdAdd s ⟨#[49]⟩ size_K 1 ⟨#[49]⟩ n 0 0 true false false size_K (by omega)).mono ?_
  rintro r w' ⟨rfl, s', hk⟩
  have hc := check_file h0 h1
  have e : dAdd ⟨#[49]⟩ ⟨1, ⟨#[49]⟩, n, 0, 0, true, false, false⟩ = dOne ⟨#[49]⟩ (addF (fileO n)) := if_neg (by rw [show (⟨1, ⟨#[49]⟩, n, 0, 0, true, false, false⟩ : OpnT) = fileO n from rfl, hc]; decide)
  rw [e] at s' ⊢
  obtain ⟨e1, e2, e3⟩ := hasD_step valid_K h (good_add hc)
  rw [e1]
  exact ⟨rfl, ⟨_, s', e2, by omega⟩, hk⟩
theorem KP.is {v v' : Value} {u' : Option (List OpnT)} {r : Ending} (h : KP w0 b M G k u w v r w') (hv : v = v') (hu : u = u') : KP w0 b M G k u' w v' r w' := by subst hv hu; exact h
set_option maxRecDepth 100000 in
theorem file_any (n : Int) (w : World) : Calls Tryz.prog 25 #[.int .i64 n] w fun r w' => r = .returned (.agg #[.int .i64 1, .string ⟨#[49]⟩, .int .i64 n, .int .i64 0, .int .i64 0, .bool true, .bool false, .bool false]) ∧ Below w.heap.size w w' := by
  have HB : Hid (∀ v t, Below w.heap.size w (w.alloc (.cells v t))) := fun v t => (Below.refl _ _).alloc (Nat.le_refl _) _
  go_enter Tryz.func25, Tryz.ntmps25
  have hX := World.alloc_heap_new w (.cells #[.int .i64 1, .string ⟨#[49]⟩, .int .i64 n, .int .i64 0, .int .i64 0, .bool true, .bool false, .bool false] 34)
  go_wp2
  refine bodyPost_ret (v := .agg #[.int .i64 1, .string ⟨#[49]⟩, .int .i64 n, .int .i64 0, .int .i64 0, .bool true, .bool false, .bool false]) (results_cell_row rfl _ _ w.heap.size _ _ _ _ (by rfl) hX Tryz.underlying34 rfl infoOpn) rfl ?_
  exact ⟨rfl, HB.out _ _⟩
/-- A new view of the empty state. -/
theorem kEmpty (w : World) (hu : Usages w) :
    Calls Tryz.prog 19 #[] w fun r w1 => r = .returned (.pointer (some ⟨w.heap.size, 0, none⟩)) ∧ Calls Tryz.prog 9 #[.pointer (some ⟨w.heap.size, 0, none⟩)] w1 fun r w2 => r = .returned (.pointer (some ⟨w.heap.size + 3, 0, none⟩)) ∧ KV w w2 (w.heap.size + 3) 0 (fun _ => False) 0 none := by
  refine (stateNew_any w).mono ?_
  rintro r w1 ⟨rfl, rfl⟩
  refine ⟨rfl, ?_⟩
  have hb1 : Below w.heap.size w (w.alloc (.cells #[.pointer none] 97)) := (Below.refl _ _).alloc (Nat.le_refl _) _
  have hbn := baseN_empty w
  have hsz : (w.alloc (.cells #[.pointer none] 97)).heap.size = w.heap.size + 1 := by simp
  refine (qmNew (w0 := w) (hu.below hb1 hu.pos) hb1 hbn).mono ?_
  rintro r w2 ⟨rfl, s, -⟩
  rw [hsz] at s
  exact ⟨by rw [hsz], ⟨_, s, rfl, Nat.le_refl _⟩⟩
end
end Go.Proofs.YtfchfjipkggnkaaGreatDoor
