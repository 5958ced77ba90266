/- Law 31: DescriptorCopies. (printed by wip/gen_dscop.py) -/
import Derived.Test.YtfchfjipkggnkaaGreatDoorDscAf
import Derived.Test.YtfchfjipkggnkaaGreatDoorDscU
namespace Go.Proofs.YtfchfjipkggnkaaGreatDoor
open Go.RowKit
attribute [local go_sem ↓] Go.wp_at_zero Go.wp_at_succ

theorem nm01 : nmD 0 ≠ nmD 1 := by decide +kernel
theorem drop_has {V : AV} {o0 o1 : Option (List OpnT)} (h0 : HasD V (nmD 0) o0) (h1 : HasD V (nmD 1) o1) : HasD ((dOne (nmD 1) dropF).run V).1 (nmD 0) o0 ∧ HasD ((dOne (nmD 1) dropF).run V).1 (nmD 1) none := by
  rw [dOne_has (nm_valid (by decide)) h1 dropF]
  cases o1 with
  | none => exact ⟨h0.same (avSeen_get _ _ _), h1.same (avSeen_get _ _ _)⟩
  | some t => exact ⟨(h0.same (V' := avSeen V (ofTab (nmD 1))) (avSeen_get _ _ _)).other nm01, HasD.put (fun t' e => by cases e)⟩
theorem copy_has {V : AV} {o : Option (List OpnT)} (h0 : HasD V (nmD 0) o) (h1 : HasD V (nmD 1) none) : ((dCopy (nmD 0) (nmD 1)).run V).2.E = (optR o).2 ∧ HasD ((dCopy (nmD 0) (nmD 1)).run V).1 (nmD 0) o := by
  have e1 : allR V (nmD 0) = optR o := (if_neg (by rw [nm_valid (by decide)]; decide)).trans h0.tab
  have e2 : allV V (nmD 0) = avSeen V (ofTab (nmD 0)) := if_neg (by rw [nm_valid (by decide)]; decide)
  rw [dCopy_run, if_neg (by rw [nm_valid (by decide), nm_valid (by decide)]; decide), e1, e2]
  have h0' : HasD (avSeen V (ofTab (nmD 0))) (nmD 0) o := h0.same (avSeen_get _ _ _)
  cases o with
  | none => exact ⟨rfl, h0'⟩
  | some t =>
    have e3 : (avGet (avSeen V (ofTab (nmD 0))) (ofTab (nmD 1))).2 = false := by rw [avSeen_get]; exact h1
    rw [if_neg (show ¬ (optR (some t)).2 ≠ 0 from fun h => h rfl)]
    unfold copR
    rw [if_neg (by rw [e3]; decide)]
    exact ⟨rfl, (h0'.same (V' := avSeen (avSeen V (ofTab (nmD 0))) (ofTab (nmD 1))) (avSeen_get _ _ _)).other nm01⟩
theorem step_has {V : AV} {o : Option (List OpnT)} (h : HasD V (nmD 0) o) (op : OpD) (hw : op.who = 1) (ht : op.to = 1) : HasD ((pTree op).run V).1 (nmD 0) o := by
  refine h.same (Vp.run_other (P := NamesD op) ?_ _ _ (pTree_in op))
  rintro (e | ⟨-, e⟩)
  · rw [hw] at e; exact nm01 (ofTab_inj e)
  · rw [ht] at e; exact nm01 (ofTab_inj e)
set_option linter.unusedSimpArgs false in
set_option maxRecDepth 100000 in
set_option maxHeartbeats 12800000 in
theorem dcopies_any (a : Option Addr) (n c : Nat) (fo : Nat → OpD) (a2 : Option Addr) (n2 c2 : Nat) (fo2 : Nat → OpD) (w : World) (hu : Usages w) (hn : n ≤ 9223372036854775807) (hl : OpSlD w a n fo) (hn2 : n2 ≤ 9223372036854775807) (hl2 : OpSlD w a2 n2 fo2) : Calls Tryz.prog 4 #[.slice a n c, .slice a2 n2 c2] w fun r w' => r = .returned (.bool true) ∧ Below w.heap.size w w' := by
  have HA := Lib.hid (after_any31 a n c fo w hu hn hl)
  have Hl2 := Lib.hid hl2
  clear hu hn hl hl2
  go_enter Tryz.func4, Tryz.ntmps4
  go_wp2_with fail
  refine HA.out.mono ?_
  rintro r w1 ⟨sp, m, f, rfl, hI⟩
  have HI1 := Lib.hid hI
  have HKn := Lib.hid (known31_any w1 hI.us)
  clear hI HA
  go_wp2_with fail
  refine HKn.out.mono ?_
  rintro r w2 ⟨rfl, hb⟩
  have HI2 := Lib.hid (HI1.out.later hb)
  clear hb HI1 HKn
  go_wp2_with fail
  refine (qmNew (w0 := w2) HI2.out.us (Below.refl _ _) HI2.out.base).mono ?_
  rintro r w3 ⟨rfl, s3, -⟩
  have S3 := Lib.hid s3
  clear s3
  obtain ⟨b, hb⟩ : ∃ b, w2.heap.size + 2 = b := ⟨_, rfl⟩
  rw [hb] at S3 ⊢
  clear hb
  have h0 := HI2.out.rel.has 0 (by decide)
  have h1 := HI2.out.rel.has 1 (by decide)
  have hd := drop_has h0 h1
  have hdl : ((dOne (nmD 1) dropF).run ⟨f, [], []⟩).1.calls.length ≤ 1 := Vp.run_most _ 1 ⟨f, [], []⟩ (dOne_most dropF)
  have HDr := Lib.hid (qdDrop S3.out (nmD 1) (nmD_size 1) (show (0 : Nat) < 1000000 by decide))
  generalize optM m 0 = o at *
  clear h0 h1
  obtain ⟨⟨V1, ⟨d1, d2, d3, d4⟩⟩, hp⟩ : ∃ p, (dOne (nmD 1) dropF).run ⟨f, [], []⟩ = p := ⟨_, rfl⟩
  rw [hp] at hd hdl HDr
  dsimp only at hd hdl HDr
  clear hp
  have Hd := Lib.hid hd
  have Hdl := Lib.hid hdl
  clear hd hdl
  go_wp2_with fail
  refine HDr.out.mono ?_
  rintro r w4 ⟨rfl, s4, -⟩
  have S4 := Lib.hid s4
  clear s4 S3 HDr
  go_wp2_with fail
  refine (qdAll S4.out (nmD 0) (nmD_size 0)).mono ?_
  rintro r w5 ⟨rfl, s5, -⟩
  have e2 : allV V1 (nmD 0) = avSeen V1 (ofTab (nmD 0)) := if_neg (by rw [nm_valid (by decide)]; decide)
  have e1 : allR V1 (nmD 0) = optR o := (if_neg (by rw [nm_valid (by decide)]; decide)).trans Hd.out.1.tab
  rw [e2] at s5
  rw [e1]
  obtain ⟨⟨t, e⟩, ht⟩ : ∃ p, optR o = p := ⟨_, rfl⟩
  have hl : t.length = 16 := by
    have := allR_len V1 (nmD 0)
    rw [e1, ht] at this
    exact this
  have HO := Lib.hid ht
  rw [ht]
  dsimp only
  have Hl := Lib.hid hl
  have Hh : Hid (HasD (avSeen V1 (ofTab (nmD 0))) (nmD 0) o ∧ HasD (avSeen V1 (ofTab (nmD 0))) (nmD 1) none ∧ (avSeen V1 (ofTab (nmD 0))).calls.length ≤ 1) := ⟨Hd.out.1.same (avSeen_get _ _ _), Hd.out.2.same (avSeen_get _ _ _), by rw [avSeen_cal]; exact Hdl.out⟩
  have hns := new_store w5 hl
  have hsz := tabA_128 hl
  have hb6 : Below w5.heap.size w5 (w5.alloc (.cells (tabA t) 36)) := (Below.refl _ _).alloc (Nat.le_refl _) _
  have S6 : Hid (QM w2 (w5.alloc (.cells (tabA t) 36)) b 30 (avSeen V1 (ofTab (nmD 0))) (fun k => k = w5.heap.size)) := s5.fresh hb6 (fun k hk => by subst hk; exact .inr (by simp))
  have T6 := Lib.hid (new_tab w5 hl)
  clear hb6 s5 e1 e2 ht hl S4 Hd Hdl
  generalize avSeen V1 (ofTab (nmD 0)) = V2 at *
  go_upto_region 7 with fail
  clear hns hsz
  obtain ⟨T, hT⟩ : ∃ T, w5.heap.size = T := ⟨_, rfl⟩
  obtain ⟨w6, hw6⟩ : ∃ w6, (w5.alloc (.cells (tabA t) 36)) = w6 := ⟨_, rfl⟩
  rw [hT] at T6 S6 ⊢
  rw [hw6] at T6 S6 ⊢
  clear hw6 hT
  have hc := copy_has Hh.out.1 Hh.out.2.1
  have hcl : ((dCopy (nmD 0) (nmD 1)).run V2).1.calls.length ≤ V2.calls.length + 1 := Vp.run_most _ 1 V2 dCopy_most
  have HCp := Lib.hid (qdCopy S6.out (nmD 0) (nmD 1) (nmD_size 0) (nmD_size 1) (by have := Hh.out.2.2; omega))
  obtain ⟨⟨V3, ⟨c1, c2', c3, c4⟩⟩, hp⟩ : ∃ p, (dCopy (nmD 0) (nmD 1)).run V2 = p := ⟨_, rfl⟩
  rw [hp] at hc hcl HCp
  dsimp only at hc hcl HCp
  rw [HO.out] at hc
  dsimp only at hc
  obtain ⟨rfl, hc2⟩ := hc
  have H3 : Hid (HasD V3 (nmD 0) o ∧ V3.calls.length ≤ 2) := ⟨hc2, by have := Hh.out.2.2; omega⟩
  clear hp hcl hc2 Hh
  go_wp2_with fail
  refine HCp.out.mono ?_
  rintro r w7 ⟨rfl, s7, hk7⟩
  have S7 := Lib.hid s7
  have T7 := Lib.hid (T6.out.kept (hk7 T rfl))
  have HI7 : Hid (Below w.heap.size w w7) := HI2.out.low.trans (s7.below.mono HI2.out.low.size)
  clear s7 hk7 S6 T6 HCp
  go_wp2_with fail
  go_loopg [11] n2 (fun gk iv wr => ∃ (k : Nat) (V : AV), k + gk = n2 ∧ iv = .int .i64 k ∧ k ≤ 10 ∧ Hid (QM w2 wr b 30 V (fun k => k = T)) ∧ Hid (TabAt wr T t) ∧ Hid (HasD V (nmD 0) o ∧ V.calls.length ≤ 2 + k))
  case atStart => exact ⟨0, V3, by omega, rfl, by omega, S7.out, T7.out, H3.out⟩
  case round =>
    obtain ⟨k, V, hk, rfl, hk10, S, TA, HH⟩ := hrel
    clear S7 T7 H3
    have Hk := Lib.hid hk
    have hkn : k ≤ n2 := by omega
    clear hk
    have HBw : Hid (Below w.heap.size w wr) := HI2.out.low.trans (S.out.below.mono HI2.out.low.size)
    by_cases hlt : k < n2 ∧ k < 10
    · obtain ⟨hlt, hlt10⟩ := hlt
      obtain ⟨g, off, rfl, hc⟩ := Hl2.out.later HBw.out (by omega)
      obtain ⟨hop, hbd⟩ := hc k hlt
      clear hc
      generalize fo2 k = op at *
      obtain ⟨kd, who, tw, fd, nn, ⟨okd, omak, obn, onum, ooff, ord, owr, oap⟩⟩ := op
      have Hbd : Hid (kd ≤ 255 ∧ who ≤ 255 ∧ tw ≤ 255 ∧ (-9223372036854775808 ≤ nn ∧ nn ≤ 9223372036854775807) ∧ omak.size ≤ 9223372036854775807) := hbd
      obtain ⟨c0, c1, c2, c3, c4, c5, c6, c7, c8, c9, c10, c11, c12⟩ := hop
      dsimp only at c0 c1 c2 c3 c4 c5 c6 c7 c8 c9 c10 c11 c12
      clear hbd
      go_upto_region 13 with fail
      clear c0 c1 c2 c3 c4 c5 c6 c7 c8 c9 c10 c11 c12
      have hb0 : Below wr.heap.size wr (wr.alloc (.cells #[.int .u8 kd, .int .u8 who, .int .u8 tw, .int .i64 fd, .int .i64 nn, .int .i64 okd, .string omak, .int .i64 obn, .int .i64 onum, .int .i64 ooff, .bool ord, .bool owr, .bool oap] 49)) := (Below.refl _ _).alloc (Nat.le_refl _) _
      have Q1 := Lib.hid (S.out.qi (W := (wr.alloc (.cells #[.int .u8 kd, .int .u8 who, .int .u8 tw, .int .i64 fd, .int .i64 nn, .int .i64 okd, .string omak, .int .i64 obn, .int .i64 onum, .int .i64 ooff, .bool ord, .bool owr, .bool oap] 49))) (E := fun k => k = wr.heap.size) hb0 (fun k hk => by subst hk; simp))
      have B1 : Hid (RowIs (wr.alloc (.cells #[.int .u8 kd, .int .u8 who, .int .u8 tw, .int .i64 fd, .int .i64 nn, .int .i64 okd, .string omak, .int .i64 obn, .int .i64 onum, .int .i64 ooff, .bool ord, .bool owr, .bool oap] 49)) wr.heap.size 49 [.int .u8 kd, .int .u8 who, .int .u8 tw, .int .i64 fd, .int .i64 nn, .int .i64 okd, .string omak, .int .i64 obn, .int .i64 onum, .int .i64 ooff, .bool ord, .bool owr, .bool oap]) := new_row wr 49 [.int .u8 kd, .int .u8 who, .int .u8 tw, .int .i64 fd, .int .i64 nn, .int .i64 okd, .string omak, .int .i64 obn, .int .i64 onum, .int .i64 ooff, .bool ord, .bool owr, .bool oap]
      have T1 := Lib.hid (TA.out.later hb0)
      have HR1 : Hid (T < wr.heap.size) := lt_of_heap TA.out.1
      clear hb0 S TA
      obtain ⟨R, hR⟩ : ∃ R, wr.heap.size = R := ⟨_, rfl⟩
      obtain ⟨wa, hwa⟩ : ∃ wa, (wr.alloc (.cells #[.int .u8 kd, .int .u8 who, .int .u8 tw, .int .i64 fd, .int .i64 nn, .int .i64 okd, .string omak, .int .i64 obn, .int .i64 onum, .int .i64 ooff, .bool ord, .bool owr, .bool oap] 49)) = wa := ⟨_, rfl⟩
      rw [hR] at B1 HR1 Q1 ⊢
      rw [hwa] at B1 Q1 T1 ⊢
      clear hwa hR
      have b5 := B1.out.cell (i := 5) rfl
      have b6 := B1.out.cell (i := 6) rfl
      have b7 := B1.out.cell (i := 7) rfl
      have b8 := B1.out.cell (i := 8) rfl
      have b9 := B1.out.cell (i := 9) rfl
      have b10 := B1.out.cell (i := 10) rfl
      have b11 := B1.out.cell (i := 11) rfl
      have b12 := B1.out.cell (i := 12) rfl
      go_wp2_with fail
      refine (cut31_any okd omak obn onum ooff ord owr oap _ Hbd.out.2.2.2.2).mono ?_
      obtain ⟨m2, hm2⟩ : ∃ m2, cutB omak 80 = m2 := ⟨_, rfl⟩
      rw [hm2]
      have Hm2 : Hid (m2.size ≤ 70368744177664) := by show _ ≤ _; rw [← hm2]; exact Nat.le_trans (cutB_size _ _) (by decide)
      clear hm2
      rintro r w4' ⟨rfl, hb⟩
      obtain ⟨w4, hw4⟩ : ∃ w4, w4' = w4 := ⟨_, rfl⟩
      rw [hw4] at hb ⊢
      clear b5 b6 b7 b8 b9 b10 b11 b12 hw4
      have Q2 := Lib.hid (Q1.out.later hb)
      have B2 := Lib.hid (B1.out.later hb)
      have T2 := Lib.hid (T1.out.later hb)
      clear hb Q1 B1 T1
      have b5 := B2.out.cell (i := 5) rfl
      have b6 := B2.out.cell (i := 6) rfl
      have b7 := B2.out.cell (i := 7) rfl
      have b8 := B2.out.cell (i := 8) rfl
      have b9 := B2.out.cell (i := 9) rfl
      have b10 := B2.out.cell (i := 10) rfl
      have b11 := B2.out.cell (i := 11) rfl
      have b12 := B2.out.cell (i := 12) rfl
      have q5 := B2.out.free 5
      have q6 := B2.out.free 6
      have q7 := B2.out.free 7
      have q8 := B2.out.free 8
      have q9 := B2.out.free 9
      have q10 := B2.out.free 10
      have q11 := B2.out.free 11
      have q12 := B2.out.free 12
      have hg : w4.grownBy ((((((((w4.setCell ⟨R, 5, none⟩ (.int .i64 okd)).setCell ⟨R, 6, none⟩ (.string m2)).setCell ⟨R, 7, none⟩ (.int .i64 obn)).setCell ⟨R, 8, none⟩ (.int .i64 onum)).setCell ⟨R, 9, none⟩ (.int .i64 ooff)).setCell ⟨R, 10, none⟩ (.bool ord)).setCell ⟨R, 11, none⟩ (.bool owr)).setCell ⟨R, 12, none⟩ (.bool oap)) (some R) := grown_set8 _ _ _ _ _ _ _ _ _ _ _ _ _ _ _ _ _ _
      have B3 : Hid (RowIs ((((((((w4.setCell ⟨R, 5, none⟩ (.int .i64 okd)).setCell ⟨R, 6, none⟩ (.string m2)).setCell ⟨R, 7, none⟩ (.int .i64 obn)).setCell ⟨R, 8, none⟩ (.int .i64 onum)).setCell ⟨R, 9, none⟩ (.int .i64 ooff)).setCell ⟨R, 10, none⟩ (.bool ord)).setCell ⟨R, 11, none⟩ (.bool owr)).setCell ⟨R, 12, none⟩ (.bool oap)) R 49 [.int .u8 kd, .int .u8 who, .int .u8 tw, .int .i64 fd, .int .i64 nn, .int .i64 okd, .string m2, .int .i64 obn, .int .i64 onum, .int .i64 ooff, .bool ord, .bool owr, .bool oap]) := (((((((B2.out.set 5 _).set 6 _).set 7 _).set 8 _).set 9 _).set 10 _).set 11 _).set 12 _
      have Q3 := Lib.hid (Q2.out.grown R rfl hg)
      have T3 : Hid (TabAt ((((((((w4.setCell ⟨R, 5, none⟩ (.int .i64 okd)).setCell ⟨R, 6, none⟩ (.string m2)).setCell ⟨R, 7, none⟩ (.int .i64 obn)).setCell ⟨R, 8, none⟩ (.int .i64 onum)).setCell ⟨R, 9, none⟩ (.int .i64 ooff)).setCell ⟨R, 10, none⟩ (.bool ord)).setCell ⟨R, 11, none⟩ (.bool owr)).setCell ⟨R, 12, none⟩ (.bool oap)) T t) := T2.out.kept (hg.block _ (lt_of_heap T2.out.1) (by have := HR1.out; simp; omega))
      clear hg
      go_upto_region 14 with fail
      clear b5 b6 b7 b8 b9 b10 b11 b12 q5 q6 q7 q8 q9 q10 q11 q12
      obtain ⟨w5, hw5⟩ : ∃ w5, ((((((((w4.setCell ⟨R, 5, none⟩ (.int .i64 okd)).setCell ⟨R, 6, none⟩ (.string m2)).setCell ⟨R, 7, none⟩ (.int .i64 obn)).setCell ⟨R, 8, none⟩ (.int .i64 onum)).setCell ⟨R, 9, none⟩ (.int .i64 ooff)).setCell ⟨R, 10, none⟩ (.bool ord)).setCell ⟨R, 11, none⟩ (.bool owr)).setCell ⟨R, 12, none⟩ (.bool oap)) = w5 := ⟨_, rfl⟩
      rw [hw5] at B3 Q3 T3 ⊢
      clear hw5 Q2 B2 T2
      have b1 := B3.out.cell (i := 1) rfl
      have b2 := B3.out.cell (i := 2) rfl
      have q1 := B3.out.free 1
      have q2 := B3.out.free 2
      have hg : w5.grownBy ((w5.setCell ⟨R, 1, none⟩ (.int .u8 1)).setCell ⟨R, 2, none⟩ (.int .u8 1)) (some R) := grown_trans (grown_setCell _ _ _ _) (grown_setCell _ _ _ _)
      have B4 : Hid (RowIs ((w5.setCell ⟨R, 1, none⟩ (.int .u8 1)).setCell ⟨R, 2, none⟩ (.int .u8 1)) R 49 [.int .u8 kd, .int .u8 1, .int .u8 1, .int .i64 fd, .int .i64 nn, .int .i64 okd, .string m2, .int .i64 obn, .int .i64 onum, .int .i64 ooff, .bool ord, .bool owr, .bool oap]) := (B3.out.set 1 _).set 2 _
      have Q4 := Lib.hid (Q3.out.grown R rfl hg)
      have T4 : Hid (TabAt ((w5.setCell ⟨R, 1, none⟩ (.int .u8 1)).setCell ⟨R, 2, none⟩ (.int .u8 1)) T t) := T3.out.kept (hg.block _ (lt_of_heap T3.out.1) (by have := HR1.out; simp; omega))
      clear hg
      go_upto_region 15 with fail
      obtain ⟨w6', hw6⟩ : ∃ w6', ((w5.setCell ⟨R, 1, none⟩ (.int .u8 1)).setCell ⟨R, 2, none⟩ (.int .u8 1)) = w6' := ⟨_, rfl⟩
      rw [hw6] at B4 Q4 T4 ⊢
      clear hw6 b1 b2 q1 q2 B3 Q3 T3
      have b0 := B4.out.cell (i := 0) rfl
      have b1 := B4.out.cell (i := 1) rfl
      have b2 := B4.out.cell (i := 2) rfl
      have b3 := B4.out.cell (i := 3) rfl
      have b4 := B4.out.cell (i := 4) rfl
      have b5 := B4.out.cell (i := 5) rfl
      have b6 := B4.out.cell (i := 6) rfl
      have b7 := B4.out.cell (i := 7) rfl
      have b8 := B4.out.cell (i := 8) rfl
      have b9 := B4.out.cell (i := 9) rfl
      have b10 := B4.out.cell (i := 10) rfl
      have b11 := B4.out.cell (i := 11) rfl
      have b12 := B4.out.cell (i := 12) rfl
      have hst := step_has HH.out.1 ⟨kd, 1, 1, fd, nn, ⟨okd, m2, obn, onum, ooff, ord, owr, oap⟩⟩ rfl rfl
      have hsl := pTree_len1 ⟨kd, 1, 1, fd, nn, ⟨okd, m2, obn, onum, ooff, ord, owr, oap⟩⟩ V
      have HP := Lib.hid (qdPerform Q4.out.s kd 1 1 fd nn okd m2 obn onum ooff ord owr oap (by have := Hbd.out.1; omega) (by decide) (by decide) Hbd.out.2.2.2.1 Hm2.out (by have := HH.out.2; omega))
      generalize (pTree ⟨kd, 1, 1, fd, nn, ⟨okd, m2, obn, onum, ooff, ord, owr, oap⟩⟩).run V = pv at *
      obtain ⟨V9, rr⟩ := pv
      dsimp only at hst hsl HP
      have H9 : Hid (HasD V9 (nmD 0) o ∧ V9.calls.length ≤ 2 + (k + 1)) := ⟨hst, by have := HH.out.2; omega⟩
      clear hst hsl HH
      go_wp2_with fail
      refine HP.out.mono ?_
      rintro r w9 ⟨rfl, s9, hk9⟩
      have S9 : Hid (QM w2 w9 b 30 V9 (fun k => k = T)) := s9.fresh (Below.refl _ _) (fun k hk => .inl (.inl hk))
      have T9 := Lib.hid (T4.out.kept (hk9 T (.inl rfl)))
      clear s9 hk9 Q4 B4 T4 HP
      clear b0 b1 b2 b3 b4 b5 b6 b7 b8 b9 b10 b11 b12
      unfold resDV
      go_wp2
      go_roundg (n2 - (k + 1))
      case measure => have := Hk.out; omega
      case rel => exact ⟨k + 1, V9, by have := Hk.out; omega, by go_num, by omega, S9.out, T9.out, H9.out⟩
    · have hways : ¬ k < n2 ∨ (k < n2 ∧ ¬ k < 10) := by omega
      clear hlt
      rcases hways with h5 | ⟨h5, h5'⟩
      all_goals
        go_wp2_with fail
        refine (qdAll S.out (nmD 0) (nmD_size 0)).mono ?_
        rintro r w8 ⟨rfl, s8, hk8⟩
        have e1 : allR V (nmD 0) = (t, c4) := ((if_neg (by rw [nm_valid (by decide)]; decide)).trans HH.out.1.tab).trans HO.out
        rw [e1]
        dsimp only
        have hns := new_store w8 Hl.out
        have hsz := tabA_128 Hl.out
        have hb9 : Below w8.heap.size w8 (w8.alloc (.cells (tabA t) 36)) := (Below.refl _ _).alloc (Nat.le_refl _) _
        have T8 := Lib.hid (TA.out.kept (hk8 T rfl))
        have T9 := Lib.hid (T8.out.later hb9)
        have U9 := Lib.hid (new_tab w8 Hl.out)
        have HB9 : Hid (Below w.heap.size w (w8.alloc (.cells (tabA t) 36))) := HI2.out.low.trans (((s8.below).trans (hb9.mono s8.below.size)).mono HI2.out.low.size)
        have heq : ∀ W : World, (binOp .eql 36 (.agg (tabA t)) (.agg (tabA t))).run Tryz.prog W = .ok (.bool true) W := fun W => by
          rw [run_eql_tab W Hl.out Hl.out, (sameT_iff Hl.out Hl.out).2 rfl]
        clear hb9 s8 hk8 e1 TA S T8 HH
        go_upto_region 17 with fail
        clear hns hsz
        obtain ⟨U, hU⟩ : ∃ U, w8.heap.size = U := ⟨_, rfl⟩
        obtain ⟨wz, hwz⟩ : ∃ wz, (w8.alloc (.cells (tabA t) 36)) = wz := ⟨_, rfl⟩
        rw [hU] at U9 ⊢
        rw [hwz] at U9 T9 HB9 ⊢
        clear hwz hU
        go_wp2
        refine wp_load_tab _ (by rfl) U (by rfl) U9.out ?_
        go_wp2
        refine wp_load_tab _ (by rfl) T (by rfl) T9.out ?_
        go_wp2
        go_ret
        exact ⟨by simp, HB9.out⟩
end Go.Proofs.YtfchfjipkggnkaaGreatDoor
