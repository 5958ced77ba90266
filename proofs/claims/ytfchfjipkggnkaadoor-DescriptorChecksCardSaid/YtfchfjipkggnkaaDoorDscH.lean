/- descriptor, upon a view whose value is known: All, open, write. (printed by wip/gen_dsch.py) -/
import Derived.Test.YtfchfjipkggnkaaDoorDscE
import Derived.Test.YtfchfjipkggnkaaDoorDscF
import Derived.Test.YtfchfjipkggnkaaDoorDscG
namespace Go.Proofs.YtfchfjipkggnkaaDoor
open Go.RowKit
attribute [local go_sem ↓] run_eql_opn run_neq_opn

theorem TabAt.kept {w w' : World} {X : Nat} {t : List OpnT} (h : TabAt w X t) (hk : w'.heap[X]? = w.heap[X]?) : TabAt w' X t := ⟨hk.trans h.1, h.2⟩
theorem new_tab (w : World) {t : List OpnT} (h : t.length = 16) : TabAt (w.alloc (.cells (tabA t) 31)) w.heap.size t := ⟨World.alloc_heap_new w _, h⟩
theorem new_tab0 (w : World) : TabAt (w.alloc (.cells Tryd.zeroCells31 31)) w.heap.size zeroTab := ⟨(World.alloc_heap_new w _).trans (by rw [zero_tab]), zeroTab_len⟩
/-- A whole table into the block that was made last. -/
theorem new_store (w : World) {t : List OpnT} (h : t.length = 16) : (storeCells ⟨w.heap.size, 0, none⟩ (tabA t).toList).run Tryd.prog (w.alloc (.cells Tryd.zeroCells31 31)) = .ok () (w.alloc (.cells (tabA t) 31)) := by
  have := (new_tab0 w).store h
  rw [World.setRow_alloc_new] at this
  exact this
theorem QI.fin {w0 w W : World} {b M : Nat} {V : AV} {G E : Nat → Prop} (q : QI w0 w b M V G E W) (R : Nat) (hR : E R) (cs : Array Value) (v : Value) : QMP w0 b M V G w v (.returned v) (W.setRow R cs) := (q.grown R hR (grown_setRow _ _ _)).post v
def opnR (V : AV) (who : ByteArray) (fd : Int) : List OpnT × Nat := if (allR V who).2 ≠ 0 then (zeroTab, (allR V who).2) else if badD (allR V who).1 fd = true then (zeroTab, 21) else ((allR V who).1, 0)
section
variable {w0 w : World} {b M : Nat} {V : AV} {G : Nat → Prop} (s : QM w0 w b M V G)
include s
set_option maxRecDepth 100000 in
set_option maxHeartbeats 6400000 in
theorem qdAll (who : ByteArray) (hw : who.size ≤ 70368744177664) : Calls Tryd.prog 27 #[.pointer (some ⟨b, 0, none⟩), .string who] w (QMP w0 b M (allV V who) G w (.tuple #[.agg (tabA (allR V who).1), .int .i64 (allR V who).2])) := by
  have hE0 : ∀ k, k = w.heap.size → w.heap.size ≤ k ∧ k < (w.alloc (.cells Tryd.zeroCells31 31)).heap.size := fun k hk => by subst hk; simp
  have Q0 := Lib.hid (s.qi (W := w.alloc (.cells Tryd.zeroCells31 31)) (E := fun k => k = w.heap.size) ((Below.refl _ _).alloc (Nat.le_refl _) _) hE0)
  have R0 := Lib.hid (new_tab0 w)
  clear hE0 s
  go_enter Tryd.func27, Tryd.ntmps27
  go_wp2_with fail
  cases hv : validB who with
  | false =>
    have HR : Hid (allV V who = V ∧ allR V who = (zeroTab, 12)) := ⟨if_pos hv, if_pos hv⟩
    refine (valid_is who _ hw hv _).mono ?_
    rintro r w2 ⟨rfl, hb⟩
    have Q1 := Lib.hid (Q0.out.later hb)
    have R1 := Lib.hid (R0.out.later hb)
    clear hb Q0 R0
    have hsc := R1.out.store0
    have HF := Lib.hid (Q1.out.fin w.heap.size rfl Tryd.zeroCells31 (.tuple #[.agg (tabA zeroTab), .int .i64 12]))
    have HT := Lib.hid (R1.out.set (t' := zeroTab) zeroTab_len)
    rw [← zero_tab] at HT
    go_wp2
    refine bodyPost_ret (v := .tuple #[.agg (tabA zeroTab), .int .i64 12]) (results_tab rfl _ _ w.heap.size (by rfl) (by rfl) HT.out) rfl ?_
    rw [HR.out.1, HR.out.2]
    exact HF.out
  | true =>
    have HN : Hid (NameOk (ofTab who)) := nameOk_tab ⟨hv, hw⟩
    have Hv := Lib.hid hv
    refine (valid_is who _ hw hv _).mono ?_
    rintro r w2 ⟨rfl, hb⟩
    have Q1 := Lib.hid (Q0.out.later hb)
    have R1 := Lib.hid (R0.out.later hb)
    clear hb Q0 R0
    go_wp2_with fail
    refine (ofTab_any who _).mono ?_
    rintro r w3 ⟨rfl, hb⟩
    have Q2 := Lib.hid (Q1.out.later hb)
    have R2 := Lib.hid (R1.out.later hb)
    clear hb Q1 R1
    have hgs := Q2.out.s.size (ofTab who)
    have HR : Hid (allV V who = avSeen V (ofTab who) ∧ allR V who = tabR (avGet V (ofTab who))) := ⟨if_neg (by rw [hv]; decide), if_neg (by rw [hv]; decide)⟩
    clear hv
    go_wp2_with fail
    refine (qmVGet Q2.out.s (ofTab who) HN.out).mono ?_
    rintro r w4 ⟨rfl, s4, hk⟩
    have Q3 := Lib.hid (Q2.out.step s4 hk)
    have R3 := Lib.hid (R2.out.kept (hk w.heap.size (.inr rfl)))
    clear s4 hk Q2 R2
    obtain ⟨⟨x, is⟩, hx⟩ : ∃ p, avGet V (ofTab who) = p := ⟨_, rfl⟩
    rw [hx] at HR hgs ⊢
    clear hx
    dsimp only at hgs ⊢
    cases is with
    | false =>
      have HR2 : Hid (allR V who = (zeroTab, 8)) := HR.out.2.trans (if_pos rfl)
      have hsc := R3.out.store0
      have HF := Lib.hid (Q3.out.fin w.heap.size rfl Tryd.zeroCells31 (.tuple #[.agg (tabA zeroTab), .int .i64 8]))
      have HT := Lib.hid (R3.out.set (t' := zeroTab) zeroTab_len)
      rw [← zero_tab] at HT
      go_wp2
      refine bodyPost_ret (v := .tuple #[.agg (tabA zeroTab), .int .i64 8]) (results_tab rfl _ _ w.heap.size (by rfl) (by rfl) HT.out) rfl ?_
      rw [HR.out.1, HR2.out]
      exact HF.out
    | true =>
      have HR2 : Hid (allR V who = decD x) := HR.out.2.trans (if_neg (fun h => nomatch h))
      have hl := decD_len x
      have Hgs := Lib.hid hgs
      have Hxz : Hid (x.size ≤ 16777216) := Nat.le_trans hgs (by decide)
      clear hgs
      go_wp2_with fail
      refine (dDecode_any x _ Hxz.out).mono ?_
      rintro r w5 ⟨rfl, hb⟩
      have Q4 := Lib.hid (Q3.out.later hb)
      have R4 := Lib.hid (R3.out.later hb)
      clear hb Q3 R3
      obtain ⟨⟨t, e⟩, ht⟩ : ∃ p, decD x = p := ⟨_, rfl⟩
      rw [ht] at HR2 hl ⊢
      clear ht
      dsimp only at hl ⊢
      have hsc := R4.out.store hl
      have hsz := tabA_128 hl
      have HF := Lib.hid (Q4.out.fin w.heap.size rfl (tabA t) (.tuple #[.agg (tabA t), .int .i64 e]))
      have HT := Lib.hid (R4.out.set hl)
      go_wp2
      refine bodyPost_ret (v := .tuple #[.agg (tabA t), .int .i64 e]) (results_tab rfl _ _ w.heap.size (by rfl) (by rfl) HT.out) rfl ?_
      rw [HR.out.1, HR2.out]
      exact HF.out
set_option maxRecDepth 100000 in
set_option maxHeartbeats 6400000 in
theorem qdWrite (who : ByteArray) (hw : who.size ≤ 70368744177664) (hv : validB who = true) (t : List OpnT) (ht : t.length = 16) (hE : tabE t = 0) (hm : ∀ o ∈ t, o.mak.size ≤ 70368744177664) (hlen : V.calls.length < 1000000) : Calls Tryd.prog 44 #[.pointer (some ⟨b, 0, none⟩), .string who, .agg (tabA t)] w (QMP w0 b M (addV V (chgD who (some t))) G w (.int .i64 0)) := by
  have Q0 := Lib.hid (s.qi0 (W := w.alloc (.cells (tabA t) 31)) ((Below.refl _ _).alloc (Nat.le_refl _) _))
  have T0 := Lib.hid (new_tab w ht)
  clear s
  have HN : Hid (NameOk (ofTab who)) := nameOk_tab ⟨hv, hw⟩
  have HEn : Hid (encD t = (strOf (encDB t), 0)) := if_pos hE
  have HEs : Hid ((strOf (encDB t)).size ≤ 65536) := by
    have := encD_size (t := t) (by omega)
    rw [HEn.out] at this
    exact this
  have HM : Hid (∀ o ∈ t, o.mak.size ≤ 70368744177664) := hm
  clear hm
  go_enter Tryd.func44, Tryd.ntmps44
  go_wp2
  refine wp_load_tab _ (by rfl) w.heap.size (by rfl) T0.out ?_
  go_wp2_with fail
  have hc := dEncode_any t ht HM.out (w.alloc (.cells (tabA t) 31))
  rw [HEn.out] at hc
  have HC := Lib.hid hc
  clear hc HEn
  refine HC.out.mono ?_
  rintro r w2 ⟨rfl, hb⟩
  have Q1 := Lib.hid (Q0.out.later hb)
  clear hb Q0 T0 HC
  go_wp2_with fail
  refine (ofTab_any who _).mono ?_
  rintro r w3 ⟨rfl, hb⟩
  have Q2 := Lib.hid (Q1.out.later hb)
  clear hb Q1
  go_wp2_with fail
  refine (qmVSet Q2.out.s (ofTab who) HN.out _ HEs.out hlen).mono ?_
  rintro r w4 ⟨rfl, s4, hk⟩
  have Q3 := Lib.hid (Q2.out.step s4 hk)
  clear s4 hk Q2
  go_wp2
  go_ret
  exact Q3.out.post _
set_option maxRecDepth 100000 in
set_option maxHeartbeats 6400000 in
theorem qdOpen (who : ByteArray) (hw : who.size ≤ 70368744177664) (fd : Int) : Calls Tryd.prog 46 #[.pointer (some ⟨b, 0, none⟩), .string who, .int .i64 fd] w (QMP w0 b M (allV V who) G w (.tuple #[.agg (tabA (opnR V who fd).1), .int .i64 (opnR V who fd).2])) := by
  have hE0 : ∀ k, k = w.heap.size → w.heap.size ≤ k ∧ k < (w.alloc (.cells Tryd.zeroCells31 31)).heap.size := fun k hk => by subst hk; simp
  have Q0 := Lib.hid (s.qi (W := w.alloc (.cells Tryd.zeroCells31 31)) (E := fun k => k = w.heap.size) ((Below.refl _ _).alloc (Nat.le_refl _) _) hE0)
  have R0 := Lib.hid (new_tab0 w)
  clear hE0 s
  have HOp : Hid (opnR V who fd = if (allR V who).2 ≠ 0 then (zeroTab, (allR V who).2) else if badD (allR V who).1 fd = true then (zeroTab, 21) else ((allR V who).1, 0)) := rfl
  have hl := allR_len V who
  go_enter Tryd.func46, Tryd.ntmps46
  go_wp2_with fail
  refine (qdAll Q0.out.s who hw).mono ?_
  rintro r w2 ⟨rfl, s2, hk⟩
  have Q1 := Lib.hid (Q0.out.step s2 hk)
  have R1 := Lib.hid (R0.out.kept (hk w.heap.size (.inr rfl)))
  clear s2 hk Q0 R0
  obtain ⟨⟨t, e⟩, ht⟩ : ∃ p, allR V who = p := ⟨_, rfl⟩
  rw [ht] at HOp hl ⊢
  clear ht
  dsimp only at HOp hl ⊢
  have hns := new_store w2 hl
  have hsz := tabA_128 hl
  have hb3 : Below w2.heap.size w2 (w2.alloc (.cells (tabA t) 31)) := (Below.refl _ _).alloc (Nat.le_refl _) _
  have Q2 := Lib.hid (Q1.out.later hb3)
  have R2 := Lib.hid (R1.out.later hb3)
  have T2 := Lib.hid (new_tab w2 hl)
  have Hsz : Hid (w.heap.size < w2.heap.size) := lt_of_heap R1.out.1
  clear hb3 Q1 R1
  by_cases h0 : e = 0
  · subst h0
    have HOp2 : Hid (opnR V who fd = if badD t fd = true then (zeroTab, 21) else (t, 0)) := HOp.out.trans (if_neg (by simp))
    clear HOp
    cases hbd : badD t fd with
    | true =>
      have HOp3 : Hid (opnR V who fd = (zeroTab, 21)) := HOp2.out.trans (if_pos hbd)
      clear HOp2
      have hsc := R2.out.store0
      have HF := Lib.hid (Q2.out.fin w.heap.size rfl Tryd.zeroCells31 (.tuple #[.agg (tabA zeroTab), .int .i64 21]))
      have HT := Lib.hid (R2.out.set (t' := zeroTab) zeroTab_len)
      rw [← zero_tab] at HT
      have FIN : Hid (QMP w0 b M (allV V who) G w (.tuple #[.agg (tabA (opnR V who fd).1), .int .i64 (opnR V who fd).2]) (.returned (.tuple #[.agg (tabA zeroTab), .int .i64 21])) ((w2.alloc (.cells (tabA t) 31)).setRow w.heap.size Tryd.zeroCells31)) := by
        rw [HOp3.out]
        exact HF.out
      clear HF HOp3 Q2
      by_cases f0 : fd < 0
      · clear hbd
        go_wp2
        refine bodyPost_ret (v := .tuple #[.agg (tabA zeroTab), .int .i64 21]) (results_tab rfl _ _ w.heap.size (by rfl) (by rfl) HT.out) rfl ?_
        exact FIN.out
      by_cases f1 : (16 : Int) ≤ fd
      · clear hbd
        go_wp2
        refine bodyPost_ret (v := .tuple #[.agg (tabA zeroTab), .int .i64 21]) (results_tab rfl _ _ w.heap.size (by rfl) (by rfl) HT.out) rfl ?_
        exact FIN.out
      obtain ⟨n, rfl⟩ := Int.eq_ofNat_of_zero_le (show 0 ≤ fd by omega)
      obtain ⟨x, hx⟩ := ent_some hl (show n < 16 by omega)
      have hz : isZ x = true := by
        have h1 : entD t (n : Int) = x := by unfold entD; rw [List.getD_eq_getElem?_getD, show ((n : Nat) : Int).toNat = n from rfl, hx]; rfl
        unfold badD at hbd
        rw [decide_eq_false f0, decide_eq_false f1, h1] at hbd
        exact hbd
      obtain ⟨kd, mak, bn, num, off, rd, wr, ap⟩ := x
      have z0 : (w2.alloc (.cells (tabA t) 31)).cell? ⟨w2.heap.size, n * 8, none⟩ = some (.int .i64 kd) := T2.out.cell hx (j := 0) rfl
      have z1 : (w2.alloc (.cells (tabA t) 31)).cell? ⟨w2.heap.size, n * 8 + 1, none⟩ = some (.string mak) := T2.out.cell hx (j := 1) rfl
      have z2 : (w2.alloc (.cells (tabA t) 31)).cell? ⟨w2.heap.size, n * 8 + 2, none⟩ = some (.int .i64 bn) := T2.out.cell hx (j := 2) rfl
      have z3 : (w2.alloc (.cells (tabA t) 31)).cell? ⟨w2.heap.size, n * 8 + 3, none⟩ = some (.int .i64 num) := T2.out.cell hx (j := 3) rfl
      have z4 : (w2.alloc (.cells (tabA t) 31)).cell? ⟨w2.heap.size, n * 8 + 4, none⟩ = some (.int .i64 off) := T2.out.cell hx (j := 4) rfl
      have z5 : (w2.alloc (.cells (tabA t) 31)).cell? ⟨w2.heap.size, n * 8 + 5, none⟩ = some (.bool rd) := T2.out.cell hx (j := 5) rfl
      have z6 : (w2.alloc (.cells (tabA t) 31)).cell? ⟨w2.heap.size, n * 8 + 6, none⟩ = some (.bool wr) := T2.out.cell hx (j := 6) rfl
      have z7 : (w2.alloc (.cells (tabA t) 31)).cell? ⟨w2.heap.size, n * 8 + 7, none⟩ = some (.bool ap) := T2.out.cell hx (j := 7) rfl
      have hz2 : sameO ⟨kd, mak, bn, num, off, rd, wr, ap⟩ ⟨0, ⟨#[]⟩, 0, 0, 0, false, false, false⟩ = true := hz
      have i0 : (0 : Int) ≤ (n : Int) := by omega
      have i1 : ((n : Nat) : Int) < 16 := by omega
      clear hx hbd hz
      go_wp2
      refine bodyPost_ret (v := .tuple #[.agg (tabA zeroTab), .int .i64 21]) (results_tab rfl _ _ w.heap.size (by rfl) (by rfl) HT.out) rfl ?_
      exact FIN.out
    | false =>
      have HOp3 : Hid (opnR V who fd = (t, 0)) := HOp2.out.trans (if_neg (by rw [hbd]; decide))
      clear HOp2
      obtain ⟨f0, f1, hz⟩ := badD_no hbd
      obtain ⟨n, rfl⟩ := Int.eq_ofNat_of_zero_le (show 0 ≤ fd by omega)
      obtain ⟨x, hx⟩ := ent_some hl (show n < 16 by omega)
      have h1 : entD t (n : Int) = x := by unfold entD; rw [List.getD_eq_getElem?_getD, show ((n : Nat) : Int).toNat = n from rfl, hx]; rfl
      rw [h1] at hz
      obtain ⟨kd, mak, bn, num, off, rd, wr, ap⟩ := x
      have z0 : (w2.alloc (.cells (tabA t) 31)).cell? ⟨w2.heap.size, n * 8, none⟩ = some (.int .i64 kd) := T2.out.cell hx (j := 0) rfl
      have z1 : (w2.alloc (.cells (tabA t) 31)).cell? ⟨w2.heap.size, n * 8 + 1, none⟩ = some (.string mak) := T2.out.cell hx (j := 1) rfl
      have z2 : (w2.alloc (.cells (tabA t) 31)).cell? ⟨w2.heap.size, n * 8 + 2, none⟩ = some (.int .i64 bn) := T2.out.cell hx (j := 2) rfl
      have z3 : (w2.alloc (.cells (tabA t) 31)).cell? ⟨w2.heap.size, n * 8 + 3, none⟩ = some (.int .i64 num) := T2.out.cell hx (j := 3) rfl
      have z4 : (w2.alloc (.cells (tabA t) 31)).cell? ⟨w2.heap.size, n * 8 + 4, none⟩ = some (.int .i64 off) := T2.out.cell hx (j := 4) rfl
      have z5 : (w2.alloc (.cells (tabA t) 31)).cell? ⟨w2.heap.size, n * 8 + 5, none⟩ = some (.bool rd) := T2.out.cell hx (j := 5) rfl
      have z6 : (w2.alloc (.cells (tabA t) 31)).cell? ⟨w2.heap.size, n * 8 + 6, none⟩ = some (.bool wr) := T2.out.cell hx (j := 6) rfl
      have z7 : (w2.alloc (.cells (tabA t) 31)).cell? ⟨w2.heap.size, n * 8 + 7, none⟩ = some (.bool ap) := T2.out.cell hx (j := 7) rfl
      have hz2 : sameO ⟨kd, mak, bn, num, off, rd, wr, ap⟩ ⟨0, ⟨#[]⟩, 0, 0, 0, false, false, false⟩ = false := hz
      have i0 : (0 : Int) ≤ (n : Int) := by omega
      have i1 : ((n : Nat) : Int) < 16 := by omega
      have hsc := R2.out.store hl
      have HF := Lib.hid (Q2.out.fin w.heap.size rfl (tabA t) (.tuple #[.agg (tabA t), .int .i64 0]))
      have HT := Lib.hid (R2.out.set hl)
      clear hx hbd hz h1
      go_wp2
      refine wp_load_tab _ (by rfl) w2.heap.size (by rfl) T2.out ?_
      go_wp2
      refine bodyPost_ret (v := .tuple #[.agg (tabA t), .int .i64 0]) (results_tab rfl _ _ w.heap.size (by rfl) (by rfl) HT.out) rfl ?_
      rw [HOp3.out]
      exact HF.out
  · have HOp2 : Hid (opnR V who fd = (zeroTab, e)) := HOp.out.trans (if_pos h0)
    have hq' : ((e : Int) != 0) = true := bne_iff_ne.2 (by omega)
    clear h0 HOp
    have hsc := R2.out.store0
    have HF := Lib.hid (Q2.out.fin w.heap.size rfl Tryd.zeroCells31 (.tuple #[.agg (tabA zeroTab), .int .i64 e]))
    have HT := Lib.hid (R2.out.set (t' := zeroTab) zeroTab_len)
    rw [← zero_tab] at HT
    go_wp2
    refine bodyPost_ret (v := .tuple #[.agg (tabA zeroTab), .int .i64 e]) (results_tab rfl _ _ w.heap.size (by rfl) (by rfl) HT.out) rfl ?_
    rw [HOp2.out]
    exact HF.out
end
end Go.Proofs.YtfchfjipkggnkaaDoor
