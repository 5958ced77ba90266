/- descriptor, upon a view whose value is known: Duplicate. (printed by wip/gen_dscw.py) -/
import Derived.Test.YtfchfjipkggnkaaDoorDscS
import Derived.Deep.RegionHeld3
import Derived.Deep.DeepCutAuto
namespace Go.Proofs.YtfchfjipkggnkaaDoor
open Go.RowKit

theorem exec_load_tab {ρ : Operand → Value} {o : Oper} {x : Operand} {w : World} {X : Nat} {t : List OpnT} (ho : o.op = .load 31 x) (hx : ρ x = .pointer (some ⟨X, 0, none⟩)) (h : TabAt w X t) : (execOp ρ o).run Tryd.prog w = .ok (.value (.agg (tabA t))) w := by
  have hv : (loadVar 31 ⟨X, 0, none⟩).run Tryd.prog w = .ok (.agg (tabA t)) w := run_loadVar_row w X _ _ _ (0, 0) _ h.1 Tryd.underlying31 rfl (by rw [tabA_128 h.2]; exact infoTab)
  unfold execOp
  simp only [ho, hx, Instr.loadAt, Instr.sureAddr, Sem.run_bind, Sem.run_pure, Result.andThen_ok, hv]
section
variable {w0 w : World} {b M : Nat} {V : AV} {G : Nat → Prop} (s : QM w0 w b M V G)
include s
set_option maxRecDepth 100000 in
set_option maxHeartbeats 3200000 in
theorem qdDup (who : ByteArray) (hw : who.size ≤ 70368744177664) (fd : Int) (hlen : V.calls.length < 1000000) : Calls Tryd.prog 20 #[.pointer (some ⟨b, 0, none⟩), .string who, .int .i64 fd] w (QMP w0 b M ((dOne who (dupF fd)).run V).1 G w (.tuple #[.int .i64 ((dOne who (dupF fd)).run V).2.N, .int .i64 ((dOne who (dupF fd)).run V).2.E])) := by
  have Q0 := Lib.hid (s.qi0 (Below.refl w.heap.size w))
  have HRn := Lib.hid (opn_run V who fd (dupF fd) (fun t h => if_pos h))
  have HO := Lib.hid (opn_ok (V := V) (who := who) (fd := fd))
  have hl := opn_len V who fd
  have HL := Lib.hid (allV_len (who := who) hlen)
  clear s hlen
  go_enter Tryd.func20, Tryd.ntmps20
  go_wp2_with fail
  refine (qdOpen Q0.out.s who hw fd).mono ?_
  rintro r w2 ⟨rfl, s2, hk⟩
  have Q1 := Lib.hid (Q0.out.step s2 hk)
  clear s2 hk Q0
  obtain ⟨⟨t, e⟩, ht⟩ : ∃ p, opnR V who fd = p := ⟨_, rfl⟩
  rw [ht] at HRn HO hl ⊢
  clear ht
  dsimp only at HRn HO hl ⊢
  have hns := new_store w2 hl
  have hsz := tabA_128 hl
  have hb3 : Below w2.heap.size w2 (w2.alloc (.cells (tabA t) 31)) := (Below.refl _ _).alloc (Nat.le_refl _) _
  have Q2 := Lib.hid (Q1.out.more (W' := (w2.alloc (.cells (tabA t) 31))) (E' := fun k => k = w2.heap.size) hb3 (fun k hk => by subst hk; exact .inr (by simp)))
  have T2 := Lib.hid (new_tab w2 hl)
  have Hl := Lib.hid hl
  clear hb3 Q1
  by_cases h0 : e = 0
  · subst h0
    have HB := Lib.hid (HO.out rfl)
    obtain ⟨f0, f1, hz⟩ := badD_no HB.out.1
    clear hz
    have HR := Lib.hid (HRn.out.trans (if_neg (by simp)))
    clear HRn HO
    obtain ⟨n, rfl⟩ := Int.eq_ofNat_of_zero_le (show 0 ≤ fd by omega)
    have hn : n < 16 := by omega
    obtain ⟨x, hx⟩ := ent_some hl hn
    have h1 := entD_at hx
    have hc := ent_check HB.out.2.1 hl (fd := (n : Int)) (by rw [HB.out.1]; decide)
    rw [h1] at hc
    obtain ⟨kd, mak, bn, num, off, rd, wr, ap⟩ := x
    have Hc := Lib.hid hc
    have HR2 : Hid ((dOne who (dupF (n : Int))).run V = putR (allV V who) who (addF ⟨kd, mak, bn, num, off, rd, wr, ap⟩ t)) := by
      refine HR.out.trans ?_
      have e1 : dupF (n : Int) t = addF ⟨kd, mak, bn, num, off, rd, wr, ap⟩ t := by
        unfold dupF
        rw [if_neg (by rw [HB.out.1]; decide), h1]
      rw [e1]
    have i0 : (0 : Int) ≤ (n : Int) := by omega
    have i1 : ((n : Nat) : Int) < 16 := by omega
    have Hx := Lib.hid hx
    clear hx hn h1 hc HR f0 f1
    go_upto_region 4 with fail
    obtain ⟨wy, hwy⟩ : ∃ wy, (w2.alloc (.cells (tabA t) 31)) = wy := ⟨_, rfl⟩
    rw [hwy] at Q2 T2 ⊢
    clear hwy hns hsz
    have T3 := Lib.hid (T2.out.later (Below.refl _ _).drew)
    have Q3 := Lib.hid Q2.out.drew
    clear Q2 T2
    have HS : Hid (∀ W, TabAt W w2.heap.size t → TabAt W w2.heap.size t ∧ W.cell? ⟨w2.heap.size, n * 8, none⟩ = some (.int .i64 kd) ∧ W.cell? ⟨w2.heap.size, n * 8 + 1, none⟩ = some (.string mak) ∧ W.cell? ⟨w2.heap.size, n * 8 + 2, none⟩ = some (.int .i64 bn) ∧ W.cell? ⟨w2.heap.size, n * 8 + 3, none⟩ = some (.int .i64 num) ∧ W.cell? ⟨w2.heap.size, n * 8 + 4, none⟩ = some (.int .i64 off) ∧ W.cell? ⟨w2.heap.size, n * 8 + 5, none⟩ = some (.bool rd) ∧ W.cell? ⟨w2.heap.size, n * 8 + 6, none⟩ = some (.bool wr) ∧ W.cell? ⟨w2.heap.size, n * 8 + 7, none⟩ = some (.bool ap)) := fun W h => ⟨h, h.cell Hx.out (j := 0) rfl, h.cell Hx.out (j := 1) rfl, h.cell Hx.out (j := 2) rfl, h.cell Hx.out (j := 3) rfl, h.cell Hx.out (j := 4) rfl, h.cell Hx.out (j := 5) rfl, h.cell Hx.out (j := 6) rfl, h.cell Hx.out (j := 7) rfl⟩
    refine wp_region_held_drew (S := (fun W => TabAt W w2.heap.size t ∧ W.cell? ⟨w2.heap.size, n * 8, none⟩ = some (.int .i64 kd) ∧ W.cell? ⟨w2.heap.size, n * 8 + 1, none⟩ = some (.string mak) ∧ W.cell? ⟨w2.heap.size, n * 8 + 2, none⟩ = some (.int .i64 bn) ∧ W.cell? ⟨w2.heap.size, n * 8 + 3, none⟩ = some (.int .i64 num) ∧ W.cell? ⟨w2.heap.size, n * 8 + 4, none⟩ = some (.int .i64 off) ∧ W.cell? ⟨w2.heap.size, n * 8 + 5, none⟩ = some (.bool rd) ∧ W.cell? ⟨w2.heap.size, n * 8 + 6, none⟩ = some (.bool wr) ∧ W.cell? ⟨w2.heap.size, n * 8 + 7, none⟩ = some (.bool ap))) (by kernel_rfl) (HS.out _ T3.out) (fun hHeld0 => ?_)
    refine wpAnyH_take (i := 0) (v := ?_) rfl (by kernel_rfl) (by kernel_rfl) (by kernel_rfl) (fun _ _ _ h => h) (Or.inl ⟨by rfl, ?_⟩) (by assumption) ?_
    rotate_left
    · (intro wx hSw; (try dsimp only at hSw); go_simp <;> with_reducible rfl)
    try simp only [Act.put, List.setIfInBounds_toArray, List.set_cons_zero, List.set_cons_succ, List.getElem_toArray, List.getElem_cons_zero]
    refine wpAnyH_take (i := 1) (v := ?_) rfl (by kernel_rfl) (by kernel_rfl) (by kernel_rfl) (fun _ _ _ h => h) (Or.inl ⟨by rfl, ?_⟩) (by assumption) ?_
    rotate_left
    · (intro wx hSw; (try dsimp only at hSw); go_simp <;> with_reducible rfl)
    try simp only [Act.put, List.setIfInBounds_toArray, List.set_cons_zero, List.set_cons_succ, List.getElem_toArray, List.getElem_cons_zero, List.getElem_cons_succ]
    refine wpAnyH_take (i := 2) (v := ?_) rfl (by kernel_rfl) (by kernel_rfl) (by kernel_rfl) (fun _ _ _ h => h) (Or.inl ⟨by rfl, ?_⟩) (by assumption) ?_
    rotate_left
    · (intro wx hSw; refine exec_load_tab (x := .tmp 8) ?_ ?_ hSw.1 <;> rfl)
    try simp only [Act.put, List.setIfInBounds_toArray, List.set_cons_zero, List.set_cons_succ, List.getElem_toArray, List.getElem_cons_zero, List.getElem_cons_succ]
    refine wpAnyH_take (i := 3) (v := ?_) rfl (by kernel_rfl) (by kernel_rfl) (by kernel_rfl) (fun _ _ _ h => h) (Or.inl ⟨by rfl, ?_⟩) (by assumption) ?_
    rotate_left
    · (intro wx hSw; (try dsimp only at hSw); go_simp <;> with_reducible rfl)
    try simp only [Act.put, List.setIfInBounds_toArray, List.set_cons_zero, List.set_cons_succ, List.getElem_toArray, List.getElem_cons_zero, List.getElem_cons_succ]
    refine wpAnyH_take (i := 4) (v := ?_) rfl (by kernel_rfl) (by kernel_rfl) (by kernel_rfl) (fun _ _ _ h => h) (Or.inl ⟨by rfl, ?_⟩) (by assumption) ?_
    rotate_left
    · (intro wx hSw; (try dsimp only at hSw); go_simp <;> with_reducible rfl)
    try simp only [Act.put, List.setIfInBounds_toArray, List.set_cons_zero, List.set_cons_succ, List.getElem_toArray, List.getElem_cons_zero, List.getElem_cons_succ]
    refine wpAnyH_take (i := 5) (v := ?_) rfl (by kernel_rfl) (by kernel_rfl) (by kernel_rfl) (fun _ _ _ h => h) (Or.inl ⟨by rfl, ?_⟩) (by assumption) ?_
    rotate_left
    · (intro wx hSw; (try dsimp only at hSw); go_simp <;> with_reducible rfl)
    try simp only [Act.put, List.setIfInBounds_toArray, List.set_cons_zero, List.set_cons_succ, List.getElem_toArray, List.getElem_cons_zero, List.getElem_cons_succ]
    refine wpAnyH_ready (rs := [6]) (by kernel_rfl) (by simp) ?_
    refine AllReadyH.cons rfl (fun K hK => ?_) AllReadyH.nil
    go_simp
    go_at_call 45
    refine (qdAddT Q3.out.s who hw HB.out.2.2 t Hl.out HB.out.2.1 kd mak bn num off rd wr ap Hc.out HL.out).mono ?_
    rintro r w9 ⟨rfl, s9, hk⟩
    have Q9 := Lib.hid (Q3.out.step s9 hk)
    have T9 := Lib.hid (T3.out.kept (hk w2.heap.size (.inr rfl)))
    clear s9 hk
    generalize putR (allV V who) who (addF ⟨kd, mak, bn, num, off, rd, wr, ap⟩ t) = pr at *
    obtain ⟨V9, ⟨rT, rO, rN, rE⟩⟩ := pr
    dsimp only at Q9 ⊢
    go_wp2_with fail
    refine hK.out _ _ (HS.out _ T9.out) (fun hHeld1 => ?_)
    clear hK K hHeld0
    try simp only [Act.put, List.setIfInBounds_toArray, List.set_cons_zero, List.set_cons_succ, List.getElem_toArray, List.getElem_cons_zero, List.getElem_cons_succ]
    refine wpAnyH_take (i := 7) (v := ?_) rfl (by kernel_rfl) (by kernel_rfl) (by kernel_rfl) (fun _ _ _ h => h) (Or.inl ⟨by rfl, ?_⟩) (by assumption) ?_
    rotate_left
    · (intro wx hSw; (try dsimp only at hSw); go_simp <;> with_reducible rfl)
    try simp only [Act.put, List.setIfInBounds_toArray, List.set_cons_zero, List.set_cons_succ, List.getElem_toArray, List.getElem_cons_zero, List.getElem_cons_succ]
    refine wpAnyH_take (i := 8) (v := ?_) rfl (by kernel_rfl) (by kernel_rfl) (by kernel_rfl) (fun _ _ _ h => h) (Or.inl ⟨by rfl, ?_⟩) (by assumption) ?_
    rotate_left
    · (intro wx hSw; (try dsimp only at hSw); go_simp <;> with_reducible rfl)
    try simp only [Act.put, List.setIfInBounds_toArray, List.set_cons_zero, List.set_cons_succ, List.getElem_toArray, List.getElem_cons_zero, List.getElem_cons_succ]
    refine wpAnyH_take (i := 9) (v := ?_) rfl (by kernel_rfl) (by kernel_rfl) (by kernel_rfl) (fun _ _ _ h => h) (Or.inl ⟨by rfl, ?_⟩) (by assumption) ?_
    rotate_left
    · (intro wx hSw; (try dsimp only at hSw); go_simp <;> with_reducible rfl)
    try simp only [Act.put, List.setIfInBounds_toArray, List.set_cons_zero, List.set_cons_succ, List.getElem_toArray, List.getElem_cons_zero, List.getElem_cons_succ]
    refine wpAnyH_take (i := 10) (v := ?_) rfl (by kernel_rfl) (by kernel_rfl) (by kernel_rfl) (fun _ _ _ h => h) (Or.inl ⟨by rfl, ?_⟩) (by assumption) ?_
    rotate_left
    · (intro wx hSw; (try dsimp only at hSw); go_simp <;> with_reducible rfl)
    try simp only [Act.put, List.setIfInBounds_toArray, List.set_cons_zero, List.set_cons_succ, List.getElem_toArray, List.getElem_cons_zero, List.getElem_cons_succ]
    refine wpAnyH_done (by kernel_rfl) ?_ _
    go_wp2
    go_ret2
    rw [HR2.out]
    exact Q9.out.post _
  · have HR := Lib.hid (HRn.out.trans (if_pos h0))
    have hq' : ((e : Int) != 0) = true := bne_iff_ne.2 (by omega)
    clear h0 HRn HO
    go_wp2
    go_ret2
    rw [HR.out]
    exact Q2.out.post _
end
section
variable {w0 w w' : World} {b M k : Nat} {G G' : Nat → Prop} {t : List OpnT} {u : Option (List OpnT)}
theorem kDup (h : KV w0 w b M G k (some t)) (hk : k < 999999) (fd : Int) : Calls Tryd.prog 20 #[.pointer (some ⟨b, 0, none⟩), .string ⟨#[49]⟩, .int .i64 fd] w (KP w0 b M G (k + 1) (stepD (dupF fd) t) w (.tuple #[.int .i64 (dupF fd t).1.N, .int .i64 (dupF fd t).1.E])) := by
  obtain ⟨V, s, h, hl⟩ := h
  refine (qdDup s ⟨#[49]⟩ size_K fd (by omega)).mono ?_
  rintro r w' ⟨rfl, s', hk⟩
  obtain ⟨e1, e2, e3⟩ := hasD_step valid_K h (good_dup fd)
  rw [e1]
  exact ⟨rfl, ⟨_, s', e2, by omega⟩, hk⟩
end
end Go.Proofs.YtfchfjipkggnkaaDoor
