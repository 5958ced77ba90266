/- descriptor, upon a view whose value is known: Drop, Copy. (printed by wip/gen_dscdr.py) descriptor, upon a view whose value is known: Put. (printed by wip/gen_dscpt.py) -/
import Derived.Test.YtfchfjipkggnkaaGreatDoorDscO
namespace Go.Proofs.YtfchfjipkggnkaaGreatDoor
open Go.RowKit
attribute [local go_sem ↓] run_eql_opn run_neq_opn

section
variable {w0 w : World} {b M : Nat} {V : AV} {G : Nat → Prop} (s : QM w0 w b M V G)
include s
set_option maxRecDepth 100000 in
set_option maxHeartbeats 6400000 in
theorem qdDrop (who : ByteArray) (hw : who.size ≤ 70368744177664) (hlen : V.calls.length < 1000000) : Calls Tryz.prog 12 #[.pointer (some ⟨b, 0, none⟩), .string who] w (QMP w0 b M ((dOne who dropF).run V).1 G w (.tuple #[.agg (tabA ((dOne who dropF).run V).2.T), .int .i64 ((dOne who dropF).run V).2.E])) := by
  have hE0 : ∀ k, k = w.heap.size → w.heap.size ≤ k ∧ k < (w.alloc (.cells Tryz.zeroCells36 36)).heap.size := fun k hk => by subst hk; simp
  have Q0 := Lib.hid (s.qi (W := w.alloc (.cells Tryz.zeroCells36 36)) (E := fun k => k = w.heap.size) ((Below.refl _ _).alloc (Nat.le_refl _) _) hE0)
  have R0 := Lib.hid (new_tab0 w)
  have HRn := Lib.hid (dOne_run V who dropF)
  have HL := Lib.hid (allV_len (who := who) hlen)
  have HV := Lib.hid (allR_valid (V := V) (who := who))
  have hl := allR_len V who
  clear hE0 s hlen
  go_enter Tryz.func12, Tryz.ntmps12
  go_wp2_with fail
  refine (qdAll Q0.out.s who hw).mono ?_
  rintro r w2 ⟨rfl, s2, hk⟩
  have Q1 := Lib.hid (Q0.out.step s2 hk)
  have R1 := Lib.hid (R0.out.kept (hk w.heap.size (.inr rfl)))
  clear s2 hk Q0 R0
  obtain ⟨⟨t, e⟩, ht⟩ : ∃ p, allR V who = p := ⟨_, rfl⟩
  rw [ht] at HRn HV hl ⊢
  clear ht
  dsimp only at HRn HV hl ⊢
  have hns := new_store w2 hl
  have hsz := tabA_128 hl
  have hb3 : Below w2.heap.size w2 (w2.alloc (.cells (tabA t) 36)) := (Below.refl _ _).alloc (Nat.le_refl _) _
  have Q2 := Lib.hid (Q1.out.more (W' := (w2.alloc (.cells (tabA t) 36))) (E' := fun k => k = w.heap.size ∨ k = w2.heap.size) hb3 (fun k hk => by
    rcases hk with h | h
    · exact .inl h
    · subst h; exact .inr (by simp)))
  have R2 := Lib.hid (R1.out.later hb3)
  have T2 := Lib.hid (new_tab w2 hl)
  have Hl := Lib.hid hl
  clear hb3 Q1 R1
  by_cases h0 : e = 0
  · subst h0
    have HR : Hid ((dOne who dropF).run V = (addV (allV V who) (chgD who none), ⟨t, zeroO, 0, 0⟩)) := HRn.out.trans (if_neg (by simp))
    have Hv := Lib.hid (HV.out rfl)
    have HN : Hid (NameOk (ofTab who)) := nameOk_tab ⟨Hv.out, hw⟩
    clear HRn HV
    go_wp2_with fail
    refine (ofTab_any who _).mono ?_
    rintro r w3 ⟨rfl, hb⟩
    have Q3 := Lib.hid (Q2.out.later hb)
    have R3 := Lib.hid (R2.out.later hb)
    have T3 := Lib.hid (T2.out.later hb)
    clear hb Q2 R2 T2 hns
    go_wp2_with fail
    refine (qmVDel Q3.out.s (ofTab who) HN.out HL.out).mono ?_
    rintro r w4 ⟨rfl, s4, hk⟩
    have Q4 := Lib.hid (Q3.out.step s4 hk)
    have R4 := Lib.hid (R3.out.kept (hk w.heap.size (.inr (.inl rfl))))
    have T4 := Lib.hid (T3.out.kept (hk w2.heap.size (.inr (.inr rfl))))
    clear s4 hk Q3 R3 T3
    have hsc := R4.out.store Hl.out
    have HF := Lib.hid (Q4.out.fin w.heap.size (.inl rfl) (tabA t) (.tuple #[.agg (tabA t), .int .i64 0]))
    have HT := Lib.hid (R4.out.set Hl.out)
    go_wp2
    refine wp_load_tab _ (by rfl) w2.heap.size (by rfl) T4.out ?_
    go_wp2
    refine bodyPost_ret (v := .tuple #[.agg (tabA t), .int .i64 0]) (results_tab rfl _ _ w.heap.size (by rfl) (by rfl) HT.out) rfl ?_
    rw [HR.out]
    exact HF.out
  · have HR := Lib.hid (HRn.out.trans (if_pos h0))
    have hq' : ((e : Int) != 0) = true := bne_iff_ne.2 (by omega)
    clear h0 HRn HV
    have hsc := R2.out.store0
    have HF := Lib.hid (Q2.out.fin w.heap.size (.inl rfl) Tryz.zeroCells36 (.tuple #[.agg (tabA zeroTab), .int .i64 e]))
    have HT := Lib.hid (R2.out.set (t' := zeroTab) zeroTab_len)
    rw [← zero_tab] at HT
    go_wp2
    refine bodyPost_ret (v := .tuple #[.agg (tabA zeroTab), .int .i64 e]) (results_tab rfl _ _ w.heap.size (by rfl) (by rfl) HT.out) rfl ?_
    rw [HR.out]
    exact HF.out
set_option maxRecDepth 100000 in
set_option maxHeartbeats 6400000 in
theorem qdCopy (who too : ByteArray) (hw : who.size ≤ 70368744177664) (ht : too.size ≤ 70368744177664) (hlen : V.calls.length < 1000000) : Calls Tryz.prog 13 #[.pointer (some ⟨b, 0, none⟩), .string who, .string too] w (QMP w0 b M ((dCopy who too).run V).1 G w (.int .i64 ((dCopy who too).run V).2.E)) := by
  have Q0 := Lib.hid (s.qi0 (Below.refl w.heap.size w))
  clear s
  have HRn := Lib.hid (dCopy_run V who too)
  have HL := Lib.hid (allV_len (who := who) hlen)
  have HG := Lib.hid (allR_good (V := V) (who := who))
  have hl := allR_len V who
  have Hl := Lib.hid hl
  clear hlen hl
  cases hv : validB who with
  | false =>
    have HR : Hid ((dCopy who too).run V = (V, errD 12)) := HRn.out.trans (if_pos (.inl hv))
    clear HRn
    go_enter Tryz.func13, Tryz.ntmps13
    go_wp2_with fail
    refine (valid_is who _ hw hv _).mono ?_
    rintro r w2 ⟨rfl, hb⟩
    have Q1 := Lib.hid (Q0.out.later hb)
    clear hb Q0 hv
    go_wp2
    go_ret
    rw [HR.out]
    exact Q1.out.post _
  | true =>
    cases hv2 : validB too with
    | false =>
      have HR : Hid ((dCopy who too).run V = (V, errD 12)) := HRn.out.trans (if_pos (.inr hv2))
      clear HRn
      go_enter Tryz.func13, Tryz.ntmps13
      go_wp2_with fail
      refine (valid_is who _ hw hv _).mono ?_
      rintro r w2 ⟨rfl, hb⟩
      have Q1 := Lib.hid (Q0.out.later hb)
      clear hb Q0 hv
      go_wp2_with fail
      refine (valid_is too _ ht hv2 _).mono ?_
      rintro r w3 ⟨rfl, hb⟩
      have Q2 := Lib.hid (Q1.out.later hb)
      clear hb Q1 hv2
      go_wp2
      go_ret
      rw [HR.out]
      exact Q2.out.post _
    | true =>
      have HR1 := Lib.hid (HRn.out.trans (if_neg (by rw [hv, hv2]; decide)))
      have HN : Hid (NameOk (ofTab too)) := nameOk_tab ⟨hv2, ht⟩
      have Hv := Lib.hid hv
      have Hv2 := Lib.hid hv2
      clear HRn hv hv2
      go_enter Tryz.func13, Tryz.ntmps13
      go_wp2_with fail
      refine (valid_is who _ hw Hv.out _).mono ?_
      rintro r w2 ⟨rfl, hb⟩
      have Q1 := Lib.hid (Q0.out.later hb)
      clear hb Q0
      go_wp2_with fail
      refine (valid_is too _ ht Hv2.out _).mono ?_
      rintro r w3 ⟨rfl, hb⟩
      have Q2 := Lib.hid (Q1.out.later hb)
      clear hb Q1
      go_wp2_with fail
      refine (qdAll Q2.out.s who hw).mono ?_
      rintro r w4 ⟨rfl, s4, hk⟩
      have Q3 := Lib.hid (Q2.out.step s4 hk)
      clear s4 hk Q2
      obtain ⟨⟨t, e⟩, htt⟩ : ∃ p, allR V who = p := ⟨_, rfl⟩
      rw [htt] at HR1 HG Hl ⊢
      clear htt
      dsimp only at HR1 HG Hl ⊢
      have hns := new_store w4 Hl.out
      have hsz := tabA_128 Hl.out
      have hb3 : Below w4.heap.size w4 (w4.alloc (.cells (tabA t) 36)) := (Below.refl _ _).alloc (Nat.le_refl _) _
      have Q4 := Lib.hid (Q3.out.more (W' := (w4.alloc (.cells (tabA t) 36))) (E' := fun k => k = w4.heap.size) hb3 (fun k hk => by subst hk; exact .inr (by simp)))
      have T4 := Lib.hid (new_tab w4 Hl.out)
      clear hb3 Q3
      by_cases h0 : e = 0
      · subst h0
        have HR2 := Lib.hid (HR1.out.trans (if_neg (by simp)))
        have Hg := Lib.hid (HG.out rfl)
        clear HR1 HG
        go_wp2_with fail
        refine (ofTab_any too _).mono ?_
        rintro r w5 ⟨rfl, hb⟩
        have Q5 := Lib.hid (Q4.out.later hb)
        have T5 := Lib.hid (T4.out.later hb)
        clear hb Q4 T4 hns
        go_wp2_with fail
        refine (qmVHas Q5.out.s (ofTab too) HN.out).mono ?_
        rintro r w6 ⟨rfl, s6, hk⟩
        have Q6 := Lib.hid (Q5.out.step s6 hk)
        have T6 := Lib.hid (T5.out.kept (hk w4.heap.size (.inr rfl)))
        clear s6 hk Q5 T5
        cases hg : (avGet (allV V who) (ofTab too)).2 with
        | true =>
          have HR : Hid ((dCopy who too).run V = (avSeen (allV V who) (ofTab too), errD 13)) := HR2.out.trans (if_pos hg)
          clear hg HR2
          go_wp2
          go_ret
          rw [HR.out]
          exact Q6.out.post _
        | false =>
          have HR : Hid ((dCopy who too).run V = (addV (avSeen (allV V who) (ofTab too)) (chgD too (some t)), errD 0)) := HR2.out.trans (if_neg (by rw [hg]; decide))
          have HL2 : Hid ((avSeen (allV V who) (ofTab too)).calls.length < 1000000) := by show _ < _; rw [avSeen_cal]; exact HL.out
          clear hg HR2
          go_wp2
          refine wp_load_tab _ (by rfl) w4.heap.size (by rfl) T6.out ?_
          go_wp2_with fail
          refine (qdWrite Q6.out.s too ht Hv2.out t Hg.out.2 Hg.out.1 (maks_ok Hg.out.1) HL2.out).mono ?_
          rintro r w7 ⟨rfl, s7, hk⟩
          have Q7 := Lib.hid (Q6.out.step s7 hk)
          clear s7 hk Q6 T6
          go_wp2
          go_ret
          rw [HR.out]
          exact Q7.out.post _
      · have HR := Lib.hid (HR1.out.trans (if_pos h0))
        have hq' : ((e : Int) != 0) = true := bne_iff_ne.2 (by omega)
        clear h0 HR1 HG
        go_wp2
        go_ret
        rw [HR.out]
        exact Q4.out.post _
end
end Go.Proofs.YtfchfjipkggnkaaGreatDoor

namespace Go.Proofs.YtfchfjipkggnkaaGreatDoor
open Go.RowKit
attribute [local go_sem ↓] run_eql_opn run_neq_opn

section
variable {w0 w : World} {b M : Nat} {V : AV} {G : Nat → Prop} (s : QM w0 w b M V G)
include s
set_option maxRecDepth 100000 in
set_option maxHeartbeats 12800000 in
theorem qdPut (who : ByteArray) (hw : who.size ≤ 70368744177664) (fd : Int) (kd : Int) (mak : ByteArray) (bn num off : Int) (rd wr ap : Bool) (hm : mak.size ≤ 70368744177664) (hlen : V.calls.length < 1000000) : Calls Tryz.prog 34 #[.pointer (some ⟨b, 0, none⟩), .string who, .int .i64 fd, .agg #[.int .i64 kd, .string mak, .int .i64 bn, .int .i64 num, .int .i64 off, .bool rd, .bool wr, .bool ap]] w (QMP w0 b M ((dPut who fd ⟨kd, mak, bn, num, off, rd, wr, ap⟩).run V).1 G w (.tuple #[opnA ((dPut who fd ⟨kd, mak, bn, num, off, rd, wr, ap⟩).run V).2.O, .int .i64 ((dPut who fd ⟨kd, mak, bn, num, off, rd, wr, ap⟩).run V).2.E])) := by
  have hb0 : Below w.heap.size w ((w.alloc (.cells #[.int .i64 kd, .string mak, .int .i64 bn, .int .i64 num, .int .i64 off, .bool rd, .bool wr, .bool ap] 34)).alloc (.cells #[.int .i64 0, .string ⟨#[]⟩, .int .i64 0, .int .i64 0, .int .i64 0, .bool false, .bool false, .bool false] 34)) := ((Below.refl _ _).alloc (Nat.le_refl _) _).alloc (by simp) _
  have Q0 := Lib.hid (s.qi (W := ((w.alloc (.cells #[.int .i64 kd, .string mak, .int .i64 bn, .int .i64 num, .int .i64 off, .bool rd, .bool wr, .bool ap] 34)).alloc (.cells #[.int .i64 0, .string ⟨#[]⟩, .int .i64 0, .int .i64 0, .int .i64 0, .bool false, .bool false, .bool false] 34))) (E := fun k => k = w.heap.size ∨ k = w.heap.size + 1) hb0 (fun k hk => by rcases hk with h | h <;> subst h <;> simp <;> omega))
  have X0 : Hid (OpnAt ((w.alloc (.cells #[.int .i64 kd, .string mak, .int .i64 bn, .int .i64 num, .int .i64 off, .bool rd, .bool wr, .bool ap] 34)).alloc (.cells #[.int .i64 0, .string ⟨#[]⟩, .int .i64 0, .int .i64 0, .int .i64 0, .bool false, .bool false, .bool false] 34)) w.heap.size ⟨kd, mak, bn, num, off, rd, wr, ap⟩) := (Below.heap_alloc _ _ _ (by simp)).trans (World.alloc_heap_new w _)
  have R0 : Hid (OpnAt ((w.alloc (.cells #[.int .i64 kd, .string mak, .int .i64 bn, .int .i64 num, .int .i64 off, .bool rd, .bool wr, .bool ap] 34)).alloc (.cells #[.int .i64 0, .string ⟨#[]⟩, .int .i64 0, .int .i64 0, .int .i64 0, .bool false, .bool false, .bool false] 34)) (w.heap.size + 1) ⟨0, ⟨#[]⟩, 0, 0, 0, false, false, false⟩) := by
    have := World.alloc_heap_new (w.alloc (.cells #[.int .i64 kd, .string mak, .int .i64 bn, .int .i64 num, .int .i64 off, .bool rd, .bool wr, .bool ap] 34)) (.cells #[.int .i64 0, .string ⟨#[]⟩, .int .i64 0, .int .i64 0, .int .i64 0, .bool false, .bool false, .bool false] 34)
    rw [World.size_alloc] at this
    exact this
  clear hb0 s
  have HT0 : Hid ((dPut who fd ⟨kd, mak, bn, num, off, rd, wr, ap⟩).run V = if checkO ⟨kd, mak, bn, num, off, rd, wr, ap⟩ ≠ 0 then (V, errD (checkO ⟨kd, mak, bn, num, off, rd, wr, ap⟩)) else (dOne who (putF fd ⟨kd, mak, bn, num, off, rd, wr, ap⟩)).run V) := by
    show _ = _
    unfold dPut
    by_cases h : checkO ⟨kd, mak, bn, num, off, rd, wr, ap⟩ ≠ 0
    · rw [if_pos h, if_pos h]; rfl
    · rw [if_neg h, if_neg h]
  obtain ⟨q, hq⟩ : ∃ q, checkO ⟨kd, mak, bn, num, off, rd, wr, ap⟩ = q := ⟨_, rfl⟩
  rw [hq] at HT0
  have Hq := Lib.hid hq
  clear hq
  go_enter Tryz.func34, Tryz.ntmps34
  go_upto_region 3 with fail
  obtain ⟨w1, hw1⟩ : ∃ w1, ((w.alloc (.cells #[.int .i64 kd, .string mak, .int .i64 bn, .int .i64 num, .int .i64 off, .bool rd, .bool wr, .bool ap] 34)).alloc (.cells #[.int .i64 0, .string ⟨#[]⟩, .int .i64 0, .int .i64 0, .int .i64 0, .bool false, .bool false, .bool false] 34)) = w1 := ⟨_, rfl⟩
  rw [hw1] at Q0 X0 R0 ⊢
  clear hw1
  obtain ⟨c0, c1, c2, c3, c4, c5, c6, c7⟩ := X0.out.cells
  go_wp2_with fail
  refine (oCheck_is kd mak bn num off rd wr ap q Hq.out _ hm).mono ?_
  rintro r w2 ⟨rfl, hb⟩
  have Q1 := Lib.hid (Q0.out.later hb)
  have X1 := Lib.hid (X0.out.later hb)
  have R1 := Lib.hid (R0.out.later hb)
  clear hb Q0 X0 R0 c0 c1 c2 c3 c4 c5 c6 c7
  by_cases h0 : q = 0
  · subst h0
    have HT2 := Lib.hid ((HT0.out.trans (if_neg (by simp))).trans (dOne_run V who (putF fd ⟨kd, mak, bn, num, off, rd, wr, ap⟩)))
    clear HT0
    have HV := Lib.hid (allR_valid (V := V) (who := who))
    have HG := Lib.hid (allR_good (V := V) (who := who))
    have HL := Lib.hid (allV_len (who := who) hlen)
    have hl := allR_len V who
    have Hl := Lib.hid hl
    clear hlen hl
    go_wp2_with fail
    refine (qdAll Q1.out.s who hw).mono ?_
    rintro r w3 ⟨rfl, s3, hk⟩
    have Q2 := Lib.hid (Q1.out.step s3 hk)
    have X2 := Lib.hid (X1.out.kept (hk w.heap.size (.inr (.inl rfl))))
    have R2 := Lib.hid (R1.out.kept (hk (w.heap.size + 1) (.inr (.inr rfl))))
    clear s3 hk Q1 X1 R1
    obtain ⟨⟨t, e⟩, ht⟩ : ∃ p, allR V who = p := ⟨_, rfl⟩
    rw [ht] at HT2 HV HG Hl ⊢
    clear ht
    dsimp only at HT2 HV HG Hl ⊢
    have hns := new_store w3 Hl.out
    have hsz := tabA_128 Hl.out
    have hb3 : Below w3.heap.size w3 (w3.alloc (.cells (tabA t) 36)) := (Below.refl _ _).alloc (Nat.le_refl _) _
    have Q3 := Lib.hid (Q2.out.more (W' := (w3.alloc (.cells (tabA t) 36))) (E' := fun k => k = w.heap.size ∨ k = w.heap.size + 1 ∨ k = w3.heap.size) hb3 (fun k hk => by
      rcases hk with h | h | h
      · exact .inl (.inl h)
      · exact .inl (.inr h)
      · subst h; exact .inr (by simp)))
    have X3 := Lib.hid (X2.out.later hb3)
    have R3 := Lib.hid (R2.out.later hb3)
    have T3 := Lib.hid (new_tab w3 Hl.out)
    have Hsz : Hid (w.heap.size + 1 < w3.heap.size) := lt_of_heap R2.out
    clear hb3 Q2 X2 R2
    by_cases h1 : e = 0
    · subst h1
      have HV2 := Lib.hid (HV.out rfl)
      have HG2 := Lib.hid (HG.out rfl)
      have HR1 := Lib.hid (HT2.out.trans (if_neg (by simp)))
      clear HV HG HT2
      by_cases f0 : fd < 0
      · have HR : Hid ((dPut who fd ⟨kd, mak, bn, num, off, rd, wr, ap⟩).run V = (allV V who, errD 21)) := HR1.out.trans (by unfold putF; rw [if_pos (.inl f0)]; rfl)
        clear HR1
        obtain ⟨r0, r1, r2, r3, r4, r5, r6, r7⟩ := R3.out.cells
        have q0 := R3.out.free 0
        have q1 := R3.out.free 1
        have q2 := R3.out.free 2
        have q3 := R3.out.free 3
        have q4 := R3.out.free 4
        have q5 := R3.out.free 5
        have q6 := R3.out.free 6
        have q7 := R3.out.free 7
        have HT := Lib.hid (opn_stored R3.out ⟨0, ⟨#[]⟩, 0, 0, 0, false, false, false⟩)
        have HF := Lib.hid ((Q3.out.grown (w.heap.size + 1) (.inr (.inl rfl)) (grown_set8 (w3.alloc (.cells (tabA t) 36)) (w.heap.size + 1) (0) (1) (2) (3) (4) (5) (6) (7) (.int .i64 0) (.string ⟨#[]⟩) (.int .i64 0) (.int .i64 0) (.int .i64 0) (.bool false) (.bool false) (.bool false))).post (.tuple #[opnA ⟨0, ⟨#[]⟩, 0, 0, 0, false, false, false⟩, .int .i64 21]))
        dsimp only at HT
        clear Q3 R3 X3 T3
        go_wp2
        refine bodyPost_ret (v := .tuple #[opnA ⟨0, ⟨#[]⟩, 0, 0, 0, false, false, false⟩, .int .i64 21]) (results_opn rfl _ _ (w.heap.size + 1) (by rfl) (by rfl) HT.out) rfl ?_
        rw [HR.out]
        exact HF.out
      by_cases f1 : (16 : Int) ≤ fd
      · have HR : Hid ((dPut who fd ⟨kd, mak, bn, num, off, rd, wr, ap⟩).run V = (allV V who, errD 21)) := HR1.out.trans (by unfold putF; rw [if_pos (.inr f1)]; rfl)
        clear HR1
        obtain ⟨r0, r1, r2, r3, r4, r5, r6, r7⟩ := R3.out.cells
        have q0 := R3.out.free 0
        have q1 := R3.out.free 1
        have q2 := R3.out.free 2
        have q3 := R3.out.free 3
        have q4 := R3.out.free 4
        have q5 := R3.out.free 5
        have q6 := R3.out.free 6
        have q7 := R3.out.free 7
        have HT := Lib.hid (opn_stored R3.out ⟨0, ⟨#[]⟩, 0, 0, 0, false, false, false⟩)
        have HF := Lib.hid ((Q3.out.grown (w.heap.size + 1) (.inr (.inl rfl)) (grown_set8 (w3.alloc (.cells (tabA t) 36)) (w.heap.size + 1) (0) (1) (2) (3) (4) (5) (6) (7) (.int .i64 0) (.string ⟨#[]⟩) (.int .i64 0) (.int .i64 0) (.int .i64 0) (.bool false) (.bool false) (.bool false))).post (.tuple #[opnA ⟨0, ⟨#[]⟩, 0, 0, 0, false, false, false⟩, .int .i64 21]))
        dsimp only at HT
        clear Q3 R3 X3 T3
        go_wp2
        refine bodyPost_ret (v := .tuple #[opnA ⟨0, ⟨#[]⟩, 0, 0, 0, false, false, false⟩, .int .i64 21]) (results_opn rfl _ _ (w.heap.size + 1) (by rfl) (by rfl) HT.out) rfl ?_
        rw [HR.out]
        exact HF.out
      obtain ⟨n, rfl⟩ := Int.eq_ofNat_of_zero_le (show 0 ≤ fd by omega)
      have hn : n < 16 := by omega
      obtain ⟨x, hx⟩ := ent_some Hl.out hn
      have he := entD_at hx
      obtain ⟨kd0, mak0, bn0, num0, off0, rd0, wr0, ap0⟩ := x
      have HR2 : Hid ((dPut who (n : Int) ⟨kd, mak, bn, num, off, rd, wr, ap⟩).run V = putR (allV V who) who (if sameO ⟨kd0, mak0, bn0, num0, off0, rd0, wr0, ap0⟩ ⟨kd, mak, bn, num, off, rd, wr, ap⟩ = true then (⟨zeroTab, ⟨kd0, mak0, bn0, num0, off0, rd0, wr0, ap0⟩, 0, 0⟩, none) else (⟨zeroTab, ⟨kd0, mak0, bn0, num0, off0, rd0, wr0, ap0⟩, 0, 0⟩, some (some (t.set n ⟨kd, mak, bn, num, off, rd, wr, ap⟩))))) := by
        refine HR1.out.trans ?_
        unfold putF
        rw [if_neg (by omega), he]
        rfl
      have Hx := Lib.hid hx
      have Hn := Lib.hid hn
      have z0 : (w3.alloc (.cells (tabA t) 36)).cell? ⟨w3.heap.size, n * 8, none⟩ = some (.int .i64 kd0) := T3.out.cell hx (j := 0) rfl
      have z1 : (w3.alloc (.cells (tabA t) 36)).cell? ⟨w3.heap.size, n * 8 + 1, none⟩ = some (.string mak0) := T3.out.cell hx (j := 1) rfl
      have z2 : (w3.alloc (.cells (tabA t) 36)).cell? ⟨w3.heap.size, n * 8 + 2, none⟩ = some (.int .i64 bn0) := T3.out.cell hx (j := 2) rfl
      have z3 : (w3.alloc (.cells (tabA t) 36)).cell? ⟨w3.heap.size, n * 8 + 3, none⟩ = some (.int .i64 num0) := T3.out.cell hx (j := 3) rfl
      have z4 : (w3.alloc (.cells (tabA t) 36)).cell? ⟨w3.heap.size, n * 8 + 4, none⟩ = some (.int .i64 off0) := T3.out.cell hx (j := 4) rfl
      have z5 : (w3.alloc (.cells (tabA t) 36)).cell? ⟨w3.heap.size, n * 8 + 5, none⟩ = some (.bool rd0) := T3.out.cell hx (j := 5) rfl
      have z6 : (w3.alloc (.cells (tabA t) 36)).cell? ⟨w3.heap.size, n * 8 + 6, none⟩ = some (.bool wr0) := T3.out.cell hx (j := 6) rfl
      have z7 : (w3.alloc (.cells (tabA t) 36)).cell? ⟨w3.heap.size, n * 8 + 7, none⟩ = some (.bool ap0) := T3.out.cell hx (j := 7) rfl
      have i0 : (0 : Int) ≤ (n : Int) := by omega
      have i1 : ((n : Nat) : Int) < 16 := by omega
      clear hx hn he HR1 f0 f1
      have hb5 : Below (w3.alloc (.cells (tabA t) 36)).heap.size (w3.alloc (.cells (tabA t) 36)) ((w3.alloc (.cells (tabA t) 36)).alloc (.cells #[.int .i64 kd0, .string mak0, .int .i64 bn0, .int .i64 num0, .int .i64 off0, .bool rd0, .bool wr0, .bool ap0] 34)) := (Below.refl _ _).alloc (Nat.le_refl _) _
      have Q5 := Lib.hid (Q3.out.more (W' := ((w3.alloc (.cells (tabA t) 36)).alloc (.cells #[.int .i64 kd0, .string mak0, .int .i64 bn0, .int .i64 num0, .int .i64 off0, .bool rd0, .bool wr0, .bool ap0] 34))) (E' := fun k => k = w.heap.size ∨ k = w.heap.size + 1 ∨ k = w3.heap.size ∨ k = w3.heap.size + 1) hb5 (fun k hk => by
        rcases hk with h | h | h | h
        · exact .inl (.inl h)
        · exact .inl (.inr (.inl h))
        · exact .inl (.inr (.inr h))
        · subst h; exact .inr (by simp)))
      have X5 := Lib.hid (X3.out.later hb5)
      have R5 := Lib.hid (R3.out.later hb5)
      have T5 := Lib.hid (T3.out.later hb5)
      have Y5 : Hid (OpnAt ((w3.alloc (.cells (tabA t) 36)).alloc (.cells #[.int .i64 kd0, .string mak0, .int .i64 bn0, .int .i64 num0, .int .i64 off0, .bool rd0, .bool wr0, .bool ap0] 34)) (w3.heap.size + 1) ⟨kd0, mak0, bn0, num0, off0, rd0, wr0, ap0⟩) := by
        have := World.alloc_heap_new (w3.alloc (.cells (tabA t) 36)) (.cells #[.int .i64 kd0, .string mak0, .int .i64 bn0, .int .i64 num0, .int .i64 off0, .bool rd0, .bool wr0, .bool ap0] 34)
        rw [World.size_alloc] at this
        exact this
      go_upto_region 12 with fail
      clear hb5 hns hsz z0 z1 z2 z3 z4 z5 z6 z7 Q3 X3 R3 T3
      obtain ⟨wy, hwy⟩ : ∃ wy, ((w3.alloc (.cells (tabA t) 36)).alloc (.cells #[.int .i64 kd0, .string mak0, .int .i64 bn0, .int .i64 num0, .int .i64 off0, .bool rd0, .bool wr0, .bool ap0] 34)) = wy := ⟨_, rfl⟩
      rw [hwy] at Q5 X5 R5 T5 Y5 ⊢
      clear hwy
      obtain ⟨c0, c1, c2, c3, c4, c5, c6, c7⟩ := X5.out.cells
      obtain ⟨d0, d1, d2, d3, d4, d5, d6, d7⟩ := Y5.out.cells
      cases hs : sameO ⟨kd0, mak0, bn0, num0, off0, rd0, wr0, ap0⟩ ⟨kd, mak, bn, num, off, rd, wr, ap⟩ with
      | true =>
        have HR : Hid ((dPut who (n : Int) ⟨kd, mak, bn, num, off, rd, wr, ap⟩).run V = (allV V who, ⟨zeroTab, ⟨kd0, mak0, bn0, num0, off0, rd0, wr0, ap0⟩, 0, 0⟩)) := HR2.out.trans (by rw [if_pos hs]; rfl)
        clear HR2
        obtain ⟨r0, r1, r2, r3, r4, r5, r6, r7⟩ := R5.out.cells
        have q0 := R5.out.free 0
        have q1 := R5.out.free 1
        have q2 := R5.out.free 2
        have q3 := R5.out.free 3
        have q4 := R5.out.free 4
        have q5 := R5.out.free 5
        have q6 := R5.out.free 6
        have q7 := R5.out.free 7
        have HT := Lib.hid (opn_stored R5.out ⟨kd0, mak0, bn0, num0, off0, rd0, wr0, ap0⟩)
        have HF := Lib.hid ((Q5.out.grown (w.heap.size + 1) (.inr (.inl rfl)) (grown_set8 wy (w.heap.size + 1) (0) (1) (2) (3) (4) (5) (6) (7) (.int .i64 kd0) (.string mak0) (.int .i64 bn0) (.int .i64 num0) (.int .i64 off0) (.bool rd0) (.bool wr0) (.bool ap0))).post (.tuple #[opnA ⟨kd0, mak0, bn0, num0, off0, rd0, wr0, ap0⟩, .int .i64 0]))
        dsimp only at HT
        clear Q5 R5 X5 T5 Y5
        go_wp2
        refine bodyPost_ret (v := .tuple #[opnA ⟨kd0, mak0, bn0, num0, off0, rd0, wr0, ap0⟩, .int .i64 0]) (results_opn rfl _ _ (w.heap.size + 1) (by rfl) (by rfl) HT.out) rfl ?_
        rw [HR.out]
        exact HF.out
      | false =>
        have HR : Hid ((dPut who (n : Int) ⟨kd, mak, bn, num, off, rd, wr, ap⟩).run V = (addV (allV V who) (chgD who (some (t.set n ⟨kd, mak, bn, num, off, rd, wr, ap⟩))), ⟨zeroTab, ⟨kd0, mak0, bn0, num0, off0, rd0, wr0, ap0⟩, 0, 0⟩)) := HR2.out.trans (by rw [if_neg (by rw [hs]; decide)]; rfl)
        have HGd : Hid (tabE (t.set n ⟨kd, mak, bn, num, off, rd, wr, ap⟩) = 0 ∧ (t.set n ⟨kd, mak, bn, num, off, rd, wr, ap⟩).length = 16) := ⟨tabE_set HG2.out.1 _ (fun _ => Hq.out), by simp [Hl.out]⟩
        clear HR2
        go_upto_region 14 with fail
        clear d0 d1 d2 d3 d4 d5 d6 d7 hs
        have z0 : wy.cell? ⟨w3.heap.size, n * 8, none⟩ = some (.int .i64 kd0) := T5.out.cell Hx.out (j := 0) rfl
        have z1 : wy.cell? ⟨w3.heap.size, n * 8 + 1, none⟩ = some (.string mak0) := T5.out.cell Hx.out (j := 1) rfl
        have z2 : wy.cell? ⟨w3.heap.size, n * 8 + 2, none⟩ = some (.int .i64 bn0) := T5.out.cell Hx.out (j := 2) rfl
        have z3 : wy.cell? ⟨w3.heap.size, n * 8 + 3, none⟩ = some (.int .i64 num0) := T5.out.cell Hx.out (j := 3) rfl
        have z4 : wy.cell? ⟨w3.heap.size, n * 8 + 4, none⟩ = some (.int .i64 off0) := T5.out.cell Hx.out (j := 4) rfl
        have z5 : wy.cell? ⟨w3.heap.size, n * 8 + 5, none⟩ = some (.bool rd0) := T5.out.cell Hx.out (j := 5) rfl
        have z6 : wy.cell? ⟨w3.heap.size, n * 8 + 6, none⟩ = some (.bool wr0) := T5.out.cell Hx.out (j := 6) rfl
        have z7 : wy.cell? ⟨w3.heap.size, n * 8 + 7, none⟩ = some (.bool ap0) := T5.out.cell Hx.out (j := 7) rfl
        have y0 := T5.out.free (n * 8)
        have y1 := T5.out.free (n * 8 + 1)
        have y2 := T5.out.free (n * 8 + 2)
        have y3 := T5.out.free (n * 8 + 3)
        have y4 := T5.out.free (n * 8 + 4)
        have y5 := T5.out.free (n * 8 + 5)
        have y6 := T5.out.free (n * 8 + 6)
        have y7 := T5.out.free (n * 8 + 7)
        have hg8 := (grown_set8 wy w3.heap.size (n * 8) (n * 8 + 1) (n * 8 + 2) (n * 8 + 3) (n * 8 + 4) (n * 8 + 5) (n * 8 + 6) (n * 8 + 7) (.int .i64 kd) (.string mak) (.int .i64 bn) (.int .i64 num) (.int .i64 off) (.bool rd) (.bool wr) (.bool ap))
        have T6 : Hid (TabAt ((((((((wy.setCell ⟨w3.heap.size, n * 8, none⟩ (.int .i64 kd)).setCell ⟨w3.heap.size, n * 8 + 1, none⟩ (.string mak)).setCell ⟨w3.heap.size, n * 8 + 2, none⟩ (.int .i64 bn)).setCell ⟨w3.heap.size, n * 8 + 3, none⟩ (.int .i64 num)).setCell ⟨w3.heap.size, n * 8 + 4, none⟩ (.int .i64 off)).setCell ⟨w3.heap.size, n * 8 + 5, none⟩ (.bool rd)).setCell ⟨w3.heap.size, n * 8 + 6, none⟩ (.bool wr)).setCell ⟨w3.heap.size, n * 8 + 7, none⟩ (.bool ap)) w3.heap.size (t.set n ⟨kd, mak, bn, num, off, rd, wr, ap⟩)) := tab_stored T5.out Hn.out ⟨kd, mak, bn, num, off, rd, wr, ap⟩
        have Q6 := Lib.hid (Q5.out.grown w3.heap.size (.inr (.inr (.inl rfl))) hg8)
        have R6 : Hid (OpnAt ((((((((wy.setCell ⟨w3.heap.size, n * 8, none⟩ (.int .i64 kd)).setCell ⟨w3.heap.size, n * 8 + 1, none⟩ (.string mak)).setCell ⟨w3.heap.size, n * 8 + 2, none⟩ (.int .i64 bn)).setCell ⟨w3.heap.size, n * 8 + 3, none⟩ (.int .i64 num)).setCell ⟨w3.heap.size, n * 8 + 4, none⟩ (.int .i64 off)).setCell ⟨w3.heap.size, n * 8 + 5, none⟩ (.bool rd)).setCell ⟨w3.heap.size, n * 8 + 6, none⟩ (.bool wr)).setCell ⟨w3.heap.size, n * 8 + 7, none⟩ (.bool ap)) (w.heap.size + 1) ⟨0, ⟨#[]⟩, 0, 0, 0, false, false, false⟩) := R5.out.kept (hg8.block _ (lt_of_heap R5.out) (fun e => by have := Hsz.out; injection e with e; omega))
        have Y6 : Hid (OpnAt ((((((((wy.setCell ⟨w3.heap.size, n * 8, none⟩ (.int .i64 kd)).setCell ⟨w3.heap.size, n * 8 + 1, none⟩ (.string mak)).setCell ⟨w3.heap.size, n * 8 + 2, none⟩ (.int .i64 bn)).setCell ⟨w3.heap.size, n * 8 + 3, none⟩ (.int .i64 num)).setCell ⟨w3.heap.size, n * 8 + 4, none⟩ (.int .i64 off)).setCell ⟨w3.heap.size, n * 8 + 5, none⟩ (.bool rd)).setCell ⟨w3.heap.size, n * 8 + 6, none⟩ (.bool wr)).setCell ⟨w3.heap.size, n * 8 + 7, none⟩ (.bool ap)) (w3.heap.size + 1) ⟨kd0, mak0, bn0, num0, off0, rd0, wr0, ap0⟩) := Y5.out.kept (hg8.block _ (lt_of_heap Y5.out) (fun e => by injection e with e; omega))
        clear hg8 Q5 X5 R5 T5 Y5
        go_upto_region 15 with fail
        clear c0 c1 c2 c3 c4 c5 c6 c7 z0 z1 z2 z3 z4 z5 z6 z7 y0 y1 y2 y3 y4 y5 y6 y7 i0 i1
        obtain ⟨wz, hwz⟩ : ∃ wz, ((((((((wy.setCell ⟨w3.heap.size, n * 8, none⟩ (.int .i64 kd)).setCell ⟨w3.heap.size, n * 8 + 1, none⟩ (.string mak)).setCell ⟨w3.heap.size, n * 8 + 2, none⟩ (.int .i64 bn)).setCell ⟨w3.heap.size, n * 8 + 3, none⟩ (.int .i64 num)).setCell ⟨w3.heap.size, n * 8 + 4, none⟩ (.int .i64 off)).setCell ⟨w3.heap.size, n * 8 + 5, none⟩ (.bool rd)).setCell ⟨w3.heap.size, n * 8 + 6, none⟩ (.bool wr)).setCell ⟨w3.heap.size, n * 8 + 7, none⟩ (.bool ap)) = wz := ⟨_, rfl⟩
        rw [hwz] at Q6 R6 T6 Y6 ⊢
        clear hwz
        go_wp2
        refine wp_load_tab _ (by rfl) w3.heap.size (by rfl) T6.out ?_
        go_wp2_with fail
        refine (qdWrite Q6.out.s who hw HV2.out _ HGd.out.2 HGd.out.1 (maks_ok HGd.out.1) HL.out).mono ?_
        rintro r w7 ⟨rfl, s7, hk⟩
        have Q7 := Lib.hid (Q6.out.step s7 hk)
        have R7 := Lib.hid (R6.out.kept (hk _ (.inr (.inr (.inl rfl)))))
        have Y7 := Lib.hid (Y6.out.kept (hk _ (.inr (.inr (.inr (.inr rfl))))))
        clear s7 hk Q6 R6 T6 Y6
        obtain ⟨d0, d1, d2, d3, d4, d5, d6, d7⟩ := Y7.out.cells
        obtain ⟨r0, r1, r2, r3, r4, r5, r6, r7⟩ := R7.out.cells
        have q0 := R7.out.free 0
        have q1 := R7.out.free 1
        have q2 := R7.out.free 2
        have q3 := R7.out.free 3
        have q4 := R7.out.free 4
        have q5 := R7.out.free 5
        have q6 := R7.out.free 6
        have q7 := R7.out.free 7
        have HT := Lib.hid (opn_stored R7.out ⟨kd0, mak0, bn0, num0, off0, rd0, wr0, ap0⟩)
        have HF := Lib.hid ((Q7.out.grown (w.heap.size + 1) (.inr (.inl rfl)) (grown_set8 w7 (w.heap.size + 1) (0) (1) (2) (3) (4) (5) (6) (7) (.int .i64 kd0) (.string mak0) (.int .i64 bn0) (.int .i64 num0) (.int .i64 off0) (.bool rd0) (.bool wr0) (.bool ap0))).post (.tuple #[opnA ⟨kd0, mak0, bn0, num0, off0, rd0, wr0, ap0⟩, .int .i64 0]))
        dsimp only at HT
        clear Q7 R7 Y7
        go_wp2
        refine bodyPost_ret (v := .tuple #[opnA ⟨kd0, mak0, bn0, num0, off0, rd0, wr0, ap0⟩, .int .i64 0]) (results_opn rfl _ _ (w.heap.size + 1) (by rfl) (by rfl) HT.out) rfl ?_
        rw [HR.out]
        exact HF.out
    · have HR := Lib.hid (HT2.out.trans (if_pos h1))
      have hq' : ((e : Int) != 0) = true := bne_iff_ne.2 (by omega)
      clear h1 HT2 HV HG
      obtain ⟨r0, r1, r2, r3, r4, r5, r6, r7⟩ := R3.out.cells
      have q0 := R3.out.free 0
      have q1 := R3.out.free 1
      have q2 := R3.out.free 2
      have q3 := R3.out.free 3
      have q4 := R3.out.free 4
      have q5 := R3.out.free 5
      have q6 := R3.out.free 6
      have q7 := R3.out.free 7
      have HT := Lib.hid (opn_stored R3.out ⟨0, ⟨#[]⟩, 0, 0, 0, false, false, false⟩)
      have HF := Lib.hid ((Q3.out.grown (w.heap.size + 1) (.inr (.inl rfl)) (grown_set8 (w3.alloc (.cells (tabA t) 36)) (w.heap.size + 1) (0) (1) (2) (3) (4) (5) (6) (7) (.int .i64 0) (.string ⟨#[]⟩) (.int .i64 0) (.int .i64 0) (.int .i64 0) (.bool false) (.bool false) (.bool false))).post (.tuple #[opnA ⟨0, ⟨#[]⟩, 0, 0, 0, false, false, false⟩, .int .i64 e]))
      dsimp only at HT
      clear Q3 R3 X3 T3
      go_wp2
      refine bodyPost_ret (v := .tuple #[opnA ⟨0, ⟨#[]⟩, 0, 0, 0, false, false, false⟩, .int .i64 e]) (results_opn rfl _ _ (w.heap.size + 1) (by rfl) (by rfl) HT.out) rfl ?_
      rw [HR.out]
      exact HF.out
  · have HR := Lib.hid (HT0.out.trans (if_pos h0))
    have hq' : ((q : Int) != 0) = true := bne_iff_ne.2 (by omega)
    clear h0 HT0
    obtain ⟨r0, r1, r2, r3, r4, r5, r6, r7⟩ := R1.out.cells
    have q0 := R1.out.free 0
    have q1 := R1.out.free 1
    have q2 := R1.out.free 2
    have q3 := R1.out.free 3
    have q4 := R1.out.free 4
    have q5 := R1.out.free 5
    have q6 := R1.out.free 6
    have q7 := R1.out.free 7
    have HT := Lib.hid (opn_stored R1.out ⟨0, ⟨#[]⟩, 0, 0, 0, false, false, false⟩)
    have HF := Lib.hid ((Q1.out.grown (w.heap.size + 1) (.inr rfl) (grown_set8 w2 (w.heap.size + 1) (0) (1) (2) (3) (4) (5) (6) (7) (.int .i64 0) (.string ⟨#[]⟩) (.int .i64 0) (.int .i64 0) (.int .i64 0) (.bool false) (.bool false) (.bool false))).post (.tuple #[opnA ⟨0, ⟨#[]⟩, 0, 0, 0, false, false, false⟩, .int .i64 q]))
    dsimp only at HT
    clear Q1 R1 X1
    go_wp2
    refine bodyPost_ret (v := .tuple #[opnA ⟨0, ⟨#[]⟩, 0, 0, 0, false, false, false⟩, .int .i64 q]) (results_opn rfl _ _ (w.heap.size + 1) (by rfl) (by rfl) HT.out) rfl ?_
    rw [HR.out]
    exact HF.out
end
end Go.Proofs.YtfchfjipkggnkaaGreatDoor
