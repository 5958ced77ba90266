/- descriptor: one cell of an entry; the closures of Seek and Advance; move, upon a view whose value is known. (printed by wip/gen_dscq.py) -/
import Derived.Test.YtfchfjipkggnkaaDoorDscO
namespace Go.Proofs.YtfchfjipkggnkaaDoor
open Go.RowKit
attribute [local go_sem ↓] run_eql_opn run_neq_opn

theorem callFunc_d {P : Program} {f : FuncId} {fn : Func} (hf : P.funcs[f]? = some fn) (hname : (fn.name == "runtime.NumGoroutine") = false) (hb : fn.body.isNone = false) (args : Array Value) (w : World) : (callFunc f args).run P w = .ok (.enter f args) w := by
  have h1 : fn.name ≠ "runtime.NumGoroutine" := by simpa using hname
  have h2 : fn.body ≠ none := fun e => by rw [e] at hb; cases hb
  simp [callFunc, hf, h1, h2]
/-- One offset is stored. -/
theorem tab_stored_off {w : World} {X : Nat} {t : List OpnT} (h : TabAt w X t) {k : Nat} (hk : k < 16) {x : OpnT} (hx : t[k]? = some x) (q : Int) : TabAt (w.setCell ⟨X, k * 8 + 4, none⟩ (.int .i64 q)) X (t.set k (atO x q)) := by
  refine ⟨?_, by simp [h.2]⟩
  have h8 := heap_setCell_same h.1 (k * 8 + 4) (.int .i64 q)
  refine h8.trans (congrArg (fun A => some (Obj.cells A 31 (0, 0))) ?_)
  apply Array.ext_getElem?
  intro i
  have hs := tabA_128 h.2
  rw [tabA_set (by have := h.2; omega), Array.getElem?_setIfInBounds]
  by_cases h1 : k * 8 ≤ i ∧ i < k * 8 + 8
  · obtain ⟨j, rfl⟩ : ∃ j, i = k * 8 + j := ⟨i - k * 8, by omega⟩
    have hj : j < 8 := by omega
    rw [if_pos h1, show k * 8 + j - k * 8 = j by omega]
    rcases (by omega : j = 0 ∨ j = 1 ∨ j = 2 ∨ j = 3 ∨ j = 4 ∨ j = 5 ∨ j = 6 ∨ j = 7) with rfl | rfl | rfl | rfl | rfl | rfl | rfl | rfl
    case inr.inr.inr.inr.inl => rw [if_pos (by omega), if_pos (by omega)]; rfl
    all_goals
      rw [if_neg (by omega), tabA_at hx (u := _) rfl]
      rfl
  · rw [if_neg h1, if_neg (by omega)]
set_option maxRecDepth 100000 in
theorem seekCl (X : Nat) (d old : Int) (W : World) (hc : W.cell? ⟨X, 0, none⟩ = some (.int .i64 d)) : Calls Tryd.prog 48 #[.int .i64 old, .pointer (some ⟨X, 0, none⟩)] W fun r w' => r = .returned (.int .i64 d) ∧ Below W.heap.size W w' := by
  go_enter Tryd.func48, Tryd.ntmps48
  go_wp2
  go_ret
  exact ⟨rfl, Below.refl _ _⟩
theorem wrap_add {d old : Int} (h0 : 0 ≤ old) (h1 : old ≤ 4096) (hd : -9223372036854775808 ≤ d ∧ d ≤ 9223372036854775807) : IntKind.i64.wrap (old + d) = advG d old := by
  unfold advG
  have e : IntKind.i64.wrap (old + d) = (old + d + 9223372036854775808) % 18446744073709551616 - 9223372036854775808 := by
    simp [IntKind.wrap, IntKind.signed, IntKind.bits]
    split <;> omega
  rw [e]
  split <;> omega
set_option maxRecDepth 100000 in
theorem advCl (X : Nat) (d old : Int) (h0 : 0 ≤ old) (h1 : old ≤ 4096) (hd : -9223372036854775808 ≤ d ∧ d ≤ 9223372036854775807) (W : World) (hc : W.cell? ⟨X, 0, none⟩ = some (.int .i64 d)) : Calls Tryd.prog 49 #[.int .i64 old, .pointer (some ⟨X, 0, none⟩)] W fun r w' => r = .returned (.int .i64 (advG d old)) ∧ Below W.heap.size W w' := by
  have hw := wrap_add h0 h1 hd
  go_enter Tryd.func49, Tryd.ntmps49
  go_wp2
  go_ret
  exact ⟨rfl, Below.refl _ _⟩
/-- What a mover does. -/
def MvS (cl : Nat) (X : Nat) (g : Int → Int) (C : Option Obj) : Prop := ∀ (W : World) (old : Int), 0 ≤ old → old ≤ 4096 → W.heap[X]? = C → Calls Tryd.prog cl #[.int .i64 old, .pointer (some ⟨X, 0, none⟩)] W fun r w' => r = .returned (.int .i64 (g old)) ∧ Below W.heap.size W w'
section
variable {w0 w : World} {b M : Nat} {V : AV} {G : Nat → Prop} (s : QM w0 w b M V G)
include s
set_option maxRecDepth 100000 in
set_option maxHeartbeats 6400000 in
theorem qdMove (who : ByteArray) (hw : who.size ≤ 70368744177664) (fd : Int) (hlen : V.calls.length < 1000000) (cl X : Nat) (g : Int → Int) (hX : G X) (hob : ∃ ob, w.heap[X]? = some ob) (hm : MvS cl X g (w.heap[X]?)) (hcf : ∀ args W, (callFunc cl args).run Tryd.prog W = .ok (.enter cl args) W) : Calls Tryd.prog 47 #[.pointer (some ⟨b, 0, none⟩), .string who, .int .i64 fd, .func (.func cl) #[] #[.pointer (some ⟨X, 0, none⟩)]] w (QMP w0 b M ((dOne who (moveF fd g)).run V).1 G w (.int .i64 ((dOne who (moveF fd g)).run V).2.E)) := by
  have Q0 := Lib.hid (s.qi0 (Below.refl w.heap.size w))
  have HX0 : Hid (∃ ob, w.heap[X]? = some ob) := hob
  have Hm := Lib.hid hm
  have HGX := Lib.hid hX
  have HRn := Lib.hid (opn_run V who fd (moveF fd g) (fun t h => if_pos h))
  have HO := Lib.hid (opn_ok (V := V) (who := who) (fd := fd))
  have hl := opn_len V who fd
  have HL := Lib.hid (allV_len (who := who) hlen)
  clear s hlen hm hob hX
  go_enter Tryd.func47, Tryd.ntmps47
  go_wp2_with fail
  refine (qdOpen Q0.out.s who hw fd).mono ?_
  rintro r w2 ⟨rfl, s2, hk⟩
  have Q1 := Lib.hid (Q0.out.step s2 hk)
  have X1 : Hid (w2.heap[X]? = w.heap[X]?) := hk X (.inl HGX.out)
  clear s2 hk Q0
  obtain ⟨⟨t, e⟩, ht⟩ : ∃ p, opnR V who fd = p := ⟨_, rfl⟩
  rw [ht] at HRn HO hl ⊢
  clear ht
  dsimp only at HRn HO hl ⊢
  have hns := new_store w2 hl
  have hsz := tabA_128 hl
  have hb3 : Below w2.heap.size w2 (w2.alloc (.cells (tabA t) 31)) := (Below.refl _ _).alloc (Nat.le_refl _) _
  have Q2 := Lib.hid (Q1.out.more (W' := (w2.alloc (.cells (tabA t) 31))) (E' := fun k => k = w2.heap.size) hb3 (fun k hk => by subst hk; exact .inr (by simp)))
  have X2 : Hid ((w2.alloc (.cells (tabA t) 31)).heap[X]? = w.heap[X]?) := by
    obtain ⟨ob, h⟩ := HX0.out
    exact (hb3.block _ (lt_of_heap (X1.out.trans h))).trans X1.out
  have T2 := Lib.hid (new_tab w2 hl)
  have Hl := Lib.hid hl
  clear hb3 X1 HX0
  by_cases h0 : e = 0
  · subst h0
    have HB := Lib.hid (HO.out rfl)
    obtain ⟨f0, f1, hz⟩ := badD_no HB.out.1
    clear hz
    have HR := Lib.hid (HRn.out.trans (if_neg (by simp)))
    clear HRn HO
    obtain ⟨n, rfl⟩ := Int.eq_ofNat_of_zero_le (show 0 ≤ fd by omega)
    have hn : n < 16 := by omega
    obtain ⟨x, hx⟩ := ent_some hl hn
    have h1 := entD_at hx
    have hc := ent_check HB.out.2.1 hl (fd := (n : Int)) (by rw [HB.out.1]; decide)
    rw [h1] at hc
    have ho := (checkO_ok hc).off
    clear hc
    obtain ⟨kd, mak, bn, num, off, rd, wr, ap⟩ := x
    dsimp only at ho
    have z0 : (w2.alloc (.cells (tabA t) 31)).cell? ⟨w2.heap.size, n * 8, none⟩ = some (.int .i64 kd) := T2.out.cell hx (j := 0) rfl
    have z1 : (w2.alloc (.cells (tabA t) 31)).cell? ⟨w2.heap.size, n * 8 + 1, none⟩ = some (.string mak) := T2.out.cell hx (j := 1) rfl
    have z2 : (w2.alloc (.cells (tabA t) 31)).cell? ⟨w2.heap.size, n * 8 + 2, none⟩ = some (.int .i64 bn) := T2.out.cell hx (j := 2) rfl
    have z3 : (w2.alloc (.cells (tabA t) 31)).cell? ⟨w2.heap.size, n * 8 + 3, none⟩ = some (.int .i64 num) := T2.out.cell hx (j := 3) rfl
    have z4 : (w2.alloc (.cells (tabA t) 31)).cell? ⟨w2.heap.size, n * 8 + 4, none⟩ = some (.int .i64 off) := T2.out.cell hx (j := 4) rfl
    have z5 : (w2.alloc (.cells (tabA t) 31)).cell? ⟨w2.heap.size, n * 8 + 5, none⟩ = some (.bool rd) := T2.out.cell hx (j := 5) rfl
    have z6 : (w2.alloc (.cells (tabA t) 31)).cell? ⟨w2.heap.size, n * 8 + 6, none⟩ = some (.bool wr) := T2.out.cell hx (j := 6) rfl
    have z7 : (w2.alloc (.cells (tabA t) 31)).cell? ⟨w2.heap.size, n * 8 + 7, none⟩ = some (.bool ap) := T2.out.cell hx (j := 7) rfl
    have i0 : (0 : Int) ≤ (n : Int) := by omega
    have i1 : ((n : Nat) : Int) < 16 := by omega
    have Hx := Lib.hid hx
    have Hn := Lib.hid hn
    have H1 := Lib.hid h1
    have Ho := Lib.hid ho
    clear hx hn h1 f0 f1 ho z1 z2 z3 z5 z6 z7
    by_cases hk1 : kd = 1
    · subst hk1
      have hcl := Hm.out (w2.alloc (.cells (tabA t) 31)) off Ho.out.1 Ho.out.2 X2.out
      have Hcl := Lib.hid hcl
      clear hcl
      obtain ⟨q, hq⟩ : ∃ q, g off = q := ⟨_, rfl⟩
      rw [hq] at Hcl
      have Hq := Lib.hid hq
      clear hq
      go_wp2_with fail
      refine Hcl.out.mono ?_
      rintro r w3 ⟨rfl, hb⟩
      have Q3 := Lib.hid (Q2.out.later hb)
      have T3 := Lib.hid (T2.out.later hb)
      clear hb Q2 T2 X2 Hcl z0 z4
      have z4 : w3.cell? ⟨w2.heap.size, n * 8 + 4, none⟩ = some (.int .i64 off) := T3.out.cell Hx.out (j := 4) rfl
      have y4 := T3.out.free (n * 8 + 4)
      by_cases a1 : q < 0
      · have HR2 : Hid ((dOne who (moveF (n : Int) g)).run V = putR (allV V who) who (errD 2, none)) := by
          refine HR.out.trans ?_
          have e1 : moveF (n : Int) g t = (errD 2, none) := by
            unfold moveF
            rw [if_neg (by rw [HB.out.1]; decide), H1.out]
            dsimp only
            rw [if_neg (by simp), Hq.out, if_pos (.inl a1)]
          rw [e1]
        clear z4 y4
        go_wp2
        go_ret
        rw [HR2.out]
        exact Q3.out.post _
      by_cases a2 : 4096 < q
      · have HR2 : Hid ((dOne who (moveF (n : Int) g)).run V = putR (allV V who) who (errD 2, none)) := by
          refine HR.out.trans ?_
          have e1 : moveF (n : Int) g t = (errD 2, none) := by
            unfold moveF
            rw [if_neg (by rw [HB.out.1]; decide), H1.out]
            dsimp only
            rw [if_neg (by simp), Hq.out, if_pos (.inr a2)]
          rw [e1]
        clear z4 y4
        go_wp2
        go_ret
        rw [HR2.out]
        exact Q3.out.post _
      by_cases a3 : q = off
      · have HR2 : Hid ((dOne who (moveF (n : Int) g)).run V = putR (allV V who) who (errD 0, none)) := by
          refine HR.out.trans ?_
          have e1 : moveF (n : Int) g t = (errD 0, none) := by
            unfold moveF
            rw [if_neg (by rw [HB.out.1]; decide), H1.out]
            dsimp only
            rw [if_neg (by simp), Hq.out, if_neg (by omega), if_pos a3]
          rw [e1]
        clear y4
        go_wp2
        go_ret
        rw [HR2.out]
        exact Q3.out.post _
      have e2 : moveF (n : Int) g t = (errD 0, some (some (t.set n (atO ⟨1, mak, bn, num, off, rd, wr, ap⟩ q)))) := by
        unfold moveF
        rw [if_neg (by rw [HB.out.1]; decide), H1.out]
        dsimp only
        rw [if_neg (by simp), Hq.out, if_neg (by omega), if_neg a3]
        rfl
      have HR2 : Hid ((dOne who (moveF (n : Int) g)).run V = (addV (allV V who) (chgD who (some (t.set n (atO ⟨1, mak, bn, num, off, rd, wr, ap⟩ q)))), errD 0)) := by
        refine HR.out.trans ?_
        rw [e2]
        rfl
      have HG := Lib.hid (good_move (n : Int) g t HB.out.2.1 Hl.out (t.set n (atO ⟨1, mak, bn, num, off, rd, wr, ap⟩ q)) (by rw [e2]))
      clear e2
      have T4 := Lib.hid (tab_stored_off T3.out Hn.out Hx.out q)
      have Q4 := Lib.hid (Q3.out.grown w2.heap.size rfl (grown_setCell w3 w2.heap.size (n * 8 + 4) (.int .i64 q)))
      clear Q3 T3
      go_upto_region 12 with fail
      obtain ⟨wz, hwz⟩ : ∃ wz, w3.setCell ⟨w2.heap.size, n * 8 + 4, none⟩ (.int .i64 q) = wz := ⟨_, rfl⟩
      rw [hwz] at T4 Q4 ⊢
      clear hwz z4 y4
      go_wp2
      refine wp_load_tab _ (by rfl) w2.heap.size (by rfl) T4.out ?_
      go_wp2_with fail
      refine (qdWrite Q4.out.s who hw HB.out.2.2 _ HG.out.2 HG.out.1 (maks_ok HG.out.1) HL.out).mono ?_
      rintro r w5 ⟨rfl, s5, hk⟩
      have Q5 := Lib.hid (Q4.out.step s5 hk)
      clear s5 hk Q4 T4
      go_wp2
      go_ret
      rw [HR2.out]
      exact Q5.out.post _
    · have HR2 : Hid ((dOne who (moveF (n : Int) g)).run V = putR (allV V who) who (errD 11, none)) := by
        refine HR.out.trans ?_
        have e1 : moveF (n : Int) g t = (errD 11, none) := by
          unfold moveF
          rw [if_neg (by rw [HB.out.1]; decide), H1.out]
          dsimp only
          rw [if_pos hk1]
        rw [e1]
      go_wp2
      go_ret
      rw [HR2.out]
      exact Q2.out.post _
  · have HR := Lib.hid (HRn.out.trans (if_pos h0))
    have hq' : ((e : Int) != 0) = true := bne_iff_ne.2 (by omega)
    clear h0 HRn HO
    go_wp2
    go_ret
    rw [HR.out]
    exact Q2.out.post _
end
end Go.Proofs.YtfchfjipkggnkaaDoor
