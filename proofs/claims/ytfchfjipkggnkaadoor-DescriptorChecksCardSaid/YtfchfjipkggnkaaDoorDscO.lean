/- descriptor, upon a view whose value is known: what open gives; Get. (printed by wip/gen_dsco.py) -/
import Derived.Test.YtfchfjipkggnkaaDoorDscL
import Derived.Test.YtfchfjipkggnkaaDoorDscK
namespace Go.Proofs.YtfchfjipkggnkaaDoor
open Go.RowKit
attribute [local go_sem ↓] run_eql_opn run_neq_opn

theorem opn_len (V : AV) (who : ByteArray) (fd : Int) : (opnR V who fd).1.length = 16 := by
  unfold opnR
  split
  · rfl
  split
  · rfl
  · exact allR_len _ _
theorem opn_ok {V : AV} {who : ByteArray} {fd : Int} (h : (opnR V who fd).2 = 0) : badD (opnR V who fd).1 fd = false ∧ tabE (opnR V who fd).1 = 0 ∧ validB who = true := by
  unfold opnR at h ⊢
  by_cases h1 : (allR V who).2 ≠ 0
  · rw [if_pos h1] at h; exact absurd h h1
  rw [if_neg h1] at h ⊢
  by_cases h2 : badD (allR V who).1 fd = true
  · rw [if_pos h2] at h; cases h
  rw [if_neg h2]
  have h3 : (allR V who).2 = 0 := by omega
  exact ⟨by simpa using h2, (allR_good h3).1, allR_valid h3⟩
theorem opn_run (V : AV) (who : ByteArray) (fd : Int) (f : List OpnT → ResD × ChD) (hf : ∀ t, badD t fd = true → f t = (errD 21, none)) : (dOne who f).run V = if (opnR V who fd).2 ≠ 0 then (allV V who, errD (opnR V who fd).2) else putR (allV V who) who (f (opnR V who fd).1) := by
  rw [dOne_run]
  by_cases h : (allR V who).2 ≠ 0
  · have e : opnR V who fd = (zeroTab, (allR V who).2) := if_pos h
    rw [e, if_pos h]
    exact (if_pos h).symm
  · by_cases h2 : badD (allR V who).1 fd = true
    · have e : opnR V who fd = (zeroTab, 21) := (if_neg h).trans (if_pos h2)
      rw [e, if_neg h, hf _ h2]
      rfl
    · have e : opnR V who fd = ((allR V who).1, 0) := (if_neg h).trans (if_neg h2)
      rw [e, if_neg h]
      rfl
theorem allV_len {V : AV} {who : ByteArray} {n : Nat} (h : V.calls.length < n) : (allV V who).calls.length < n := by
  unfold allV
  split
  · exact h
  · rw [avSeen_cal]; exact h
theorem entD_at {t : List OpnT} {n : Nat} {x : OpnT} (h : t[n]? = some x) : entD t (n : Int) = x := by
  unfold entD
  rw [List.getD_eq_getElem?_getD, show ((n : Nat) : Int).toNat = n from rfl, h]
  rfl
theorem opn_stored {w : World} {X : Nat} {o : OpnT} (h : OpnAt w X o) (o' : OpnT) : OpnAt ((((((((w.setCell ⟨X, 0, none⟩ (.int .i64 o'.kd)).setCell ⟨X, 1, none⟩ (.string o'.mak)).setCell ⟨X, 2, none⟩ (.int .i64 o'.bn)).setCell ⟨X, 3, none⟩ (.int .i64 o'.num)).setCell ⟨X, 4, none⟩ (.int .i64 o'.off)).setCell ⟨X, 5, none⟩ (.bool o'.rd)).setCell ⟨X, 6, none⟩ (.bool o'.wr)).setCell ⟨X, 7, none⟩ (.bool o'.ap)) X o' := by
  obtain ⟨kd, mak, bn, num, off, rd, wr, ap⟩ := o
  obtain ⟨akd, amak, abn, anum, aoff, ard, awr, aap⟩ := o'
  have h1 := h.set 0 (.int .i64 akd) ⟨akd, mak, bn, num, off, rd, wr, ap⟩ rfl rfl
  have h2 := h1.set 1 (.string amak) ⟨akd, amak, bn, num, off, rd, wr, ap⟩ rfl rfl
  have h3 := h2.set 2 (.int .i64 abn) ⟨akd, amak, abn, num, off, rd, wr, ap⟩ rfl rfl
  have h4 := h3.set 3 (.int .i64 anum) ⟨akd, amak, abn, anum, off, rd, wr, ap⟩ rfl rfl
  have h5 := h4.set 4 (.int .i64 aoff) ⟨akd, amak, abn, anum, aoff, rd, wr, ap⟩ rfl rfl
  have h6 := h5.set 5 (.bool ard) ⟨akd, amak, abn, anum, aoff, ard, wr, ap⟩ rfl rfl
  have h7 := h6.set 6 (.bool awr) ⟨akd, amak, abn, anum, aoff, ard, awr, ap⟩ rfl rfl
  have h8 := h7.set 7 (.bool aap) ⟨akd, amak, abn, anum, aoff, ard, awr, aap⟩ rfl rfl
  exact h8
theorem results_opn {fn : Func} {p u : Tmp} (h : fn.results = #[.cell p 26, .tmp u]) (tmps : Array Value) (w : World) (X : Nat) {o : OpnT} (hp : tmps.getD p undef = .pointer (some ⟨X, 0, none⟩)) {v : Value} (hu : tmps.getD u undef = v) (ht : OpnAt w X o) :
    (results fn tmps).run Tryd.prog w = .ok (.tuple #[opnA o, v]) w := by
  have hv : (loadVar 26 ⟨X, 0, none⟩).run Tryd.prog w = .ok (opnA o) w := run_loadVar_row w X _ _ _ (0, 0) _ ht Tryd.underlying26 rfl infoOpn
  rw [results_cell_tmp h, hp, hu]
  simp only [asAddr, Sem.run_pure, Result.andThen_ok, hv]
section
variable {w0 w : World} {b M : Nat} {V : AV} {G : Nat → Prop} (s : QM w0 w b M V G)
include s
set_option maxRecDepth 100000 in
set_option maxHeartbeats 6400000 in
theorem qdGet (who : ByteArray) (hw : who.size ≤ 70368744177664) (fd : Int) : Calls Tryd.prog 24 #[.pointer (some ⟨b, 0, none⟩), .string who, .int .i64 fd] w (QMP w0 b M ((dOne who (getF fd)).run V).1 G w (.tuple #[opnA ((dOne who (getF fd)).run V).2.O, .int .i64 ((dOne who (getF fd)).run V).2.E])) := by
  have hE0 : ∀ k, k = w.heap.size → w.heap.size ≤ k ∧ k < (w.alloc (.cells #[.int .i64 0, .string ⟨#[]⟩, .int .i64 0, .int .i64 0, .int .i64 0, .bool false, .bool false, .bool false] 26)).heap.size := fun k hk => by subst hk; simp
  have Q0 := Lib.hid (s.qi (W := w.alloc (.cells #[.int .i64 0, .string ⟨#[]⟩, .int .i64 0, .int .i64 0, .int .i64 0, .bool false, .bool false, .bool false] 26)) (E := fun k => k = w.heap.size) ((Below.refl _ _).alloc (Nat.le_refl _) _) hE0)
  have R0 : Hid (OpnAt (w.alloc (.cells #[.int .i64 0, .string ⟨#[]⟩, .int .i64 0, .int .i64 0, .int .i64 0, .bool false, .bool false, .bool false] 26)) w.heap.size ⟨0, ⟨#[]⟩, 0, 0, 0, false, false, false⟩) := World.alloc_heap_new w _
  have HRn := Lib.hid (opn_run V who fd (getF fd) (fun t h => if_pos h))
  have HO := Lib.hid (opn_ok (V := V) (who := who) (fd := fd))
  have hl := opn_len V who fd
  clear hE0 s
  go_enter Tryd.func24, Tryd.ntmps24
  go_wp2_with fail
  refine (qdOpen Q0.out.s who hw fd).mono ?_
  rintro r w2 ⟨rfl, s2, hk⟩
  have Q1 := Lib.hid (Q0.out.step s2 hk)
  have R1 := Lib.hid (R0.out.kept (hk w.heap.size (.inr rfl)))
  clear s2 hk Q0 R0
  obtain ⟨⟨t, e⟩, ht⟩ : ∃ p, opnR V who fd = p := ⟨_, rfl⟩
  rw [ht] at HRn HO hl ⊢
  clear ht
  dsimp only at HRn HO hl ⊢
  have hns := new_store w2 hl
  have hsz := tabA_128 hl
  have hb3 : Below w2.heap.size w2 (w2.alloc (.cells (tabA t) 31)) := (Below.refl _ _).alloc (Nat.le_refl _) _
  have Q2 := Lib.hid (Q1.out.later hb3)
  have R2 := Lib.hid (R1.out.later hb3)
  have T2 := Lib.hid (new_tab w2 hl)
  have Hsz : Hid (w.heap.size < w2.heap.size) := lt_of_heap R1.out
  have Hl := Lib.hid hl
  clear hb3
  by_cases h0 : e = 0
  · subst h0
    have HB := Lib.hid (HO.out rfl)
    obtain ⟨f0, f1, hz⟩ := badD_no HB.out.1
    clear hz
    have HR := Lib.hid (HRn.out.trans (if_neg (by simp)))
    clear HRn HO
    obtain ⟨n, rfl⟩ := Int.eq_ofNat_of_zero_le (show 0 ≤ fd by omega)
    have hn : n < 16 := by omega
    obtain ⟨x, hx⟩ := ent_some hl hn
    have h1 := entD_at hx
    obtain ⟨kd, mak, bn, num, off, rd, wr, ap⟩ := x
    have HR2 : Hid ((dOne who (getF (n : Int))).run V = (allV V who, ⟨zeroTab, ⟨kd, mak, bn, num, off, rd, wr, ap⟩, 0, 0⟩)) := by
      refine HR.out.trans ?_
      have e1 : getF (n : Int) t = (⟨zeroTab, ⟨kd, mak, bn, num, off, rd, wr, ap⟩, 0, 0⟩, none) := by
        unfold getF
        rw [if_neg (by rw [HB.out.1]; decide), h1]
      rw [e1]
      rfl
    have z0 : (w2.alloc (.cells (tabA t) 31)).cell? ⟨w2.heap.size, n * 8, none⟩ = some (.int .i64 kd) := T2.out.cell hx (j := 0) rfl
    have z1 : (w2.alloc (.cells (tabA t) 31)).cell? ⟨w2.heap.size, n * 8 + 1, none⟩ = some (.string mak) := T2.out.cell hx (j := 1) rfl
    have z2 : (w2.alloc (.cells (tabA t) 31)).cell? ⟨w2.heap.size, n * 8 + 2, none⟩ = some (.int .i64 bn) := T2.out.cell hx (j := 2) rfl
    have z3 : (w2.alloc (.cells (tabA t) 31)).cell? ⟨w2.heap.size, n * 8 + 3, none⟩ = some (.int .i64 num) := T2.out.cell hx (j := 3) rfl
    have z4 : (w2.alloc (.cells (tabA t) 31)).cell? ⟨w2.heap.size, n * 8 + 4, none⟩ = some (.int .i64 off) := T2.out.cell hx (j := 4) rfl
    have z5 : (w2.alloc (.cells (tabA t) 31)).cell? ⟨w2.heap.size, n * 8 + 5, none⟩ = some (.bool rd) := T2.out.cell hx (j := 5) rfl
    have z6 : (w2.alloc (.cells (tabA t) 31)).cell? ⟨w2.heap.size, n * 8 + 6, none⟩ = some (.bool wr) := T2.out.cell hx (j := 6) rfl
    have z7 : (w2.alloc (.cells (tabA t) 31)).cell? ⟨w2.heap.size, n * 8 + 7, none⟩ = some (.bool ap) := T2.out.cell hx (j := 7) rfl
    obtain ⟨r0, r1, r2, r3, r4, r5, r6, r7⟩ := R2.out.cells
    have q0 := R2.out.free 0
    have q1 := R2.out.free 1
    have q2 := R2.out.free 2
    have q3 := R2.out.free 3
    have q4 := R2.out.free 4
    have q5 := R2.out.free 5
    have q6 := R2.out.free 6
    have q7 := R2.out.free 7
    have HT := Lib.hid (opn_stored R2.out ⟨kd, mak, bn, num, off, rd, wr, ap⟩)
    have HF := Lib.hid ((Q2.out.grown w.heap.size rfl (grown_set8 (w2.alloc (.cells (tabA t) 31)) w.heap.size (0) (1) (2) (3) (4) (5) (6) (7) (.int .i64 kd) (.string mak) (.int .i64 bn) (.int .i64 num) (.int .i64 off) (.bool rd) (.bool wr) (.bool ap))).post (.tuple #[opnA ⟨kd, mak, bn, num, off, rd, wr, ap⟩, .int .i64 0]))
    dsimp only at HT
    have i0 : (0 : Int) ≤ (n : Int) := by omega
    have i1 : ((n : Nat) : Int) < 16 := by omega
    clear hx hn h1 HR Q2 R2 T2 Q1 R1 f0 f1
    go_wp2
    refine bodyPost_ret (v := .tuple #[opnA ⟨kd, mak, bn, num, off, rd, wr, ap⟩, .int .i64 0]) (results_opn rfl _ _ w.heap.size (by rfl) (by rfl) HT.out) rfl ?_
    rw [HR2.out]
    exact HF.out
  · have HR := Lib.hid (HRn.out.trans (if_pos h0))
    have hq' : ((e : Int) != 0) = true := bne_iff_ne.2 (by omega)
    clear h0 HRn HO
    obtain ⟨r0, r1, r2, r3, r4, r5, r6, r7⟩ := R2.out.cells
    have q0 := R2.out.free 0
    have q1 := R2.out.free 1
    have q2 := R2.out.free 2
    have q3 := R2.out.free 3
    have q4 := R2.out.free 4
    have q5 := R2.out.free 5
    have q6 := R2.out.free 6
    have q7 := R2.out.free 7
    have HT := Lib.hid (opn_stored R2.out ⟨0, ⟨#[]⟩, 0, 0, 0, false, false, false⟩)
    have HF := Lib.hid ((Q2.out.grown w.heap.size rfl (grown_set8 (w2.alloc (.cells (tabA t) 31)) w.heap.size (0) (1) (2) (3) (4) (5) (6) (7) (.int .i64 0) (.string ⟨#[]⟩) (.int .i64 0) (.int .i64 0) (.int .i64 0) (.bool false) (.bool false) (.bool false))).post (.tuple #[opnA ⟨0, ⟨#[]⟩, 0, 0, 0, false, false, false⟩, .int .i64 e]))
    dsimp only at HT
    clear Q2 R2 T2 Q1 R1
    go_wp2
    refine bodyPost_ret (v := .tuple #[opnA ⟨0, ⟨#[]⟩, 0, 0, 0, false, false, false⟩, .int .i64 e]) (results_opn rfl _ _ w.heap.size (by rfl) (by rfl) HT.out) rfl ?_
    rw [HR.out]
    exact HF.out
end
end Go.Proofs.YtfchfjipkggnkaaDoor
