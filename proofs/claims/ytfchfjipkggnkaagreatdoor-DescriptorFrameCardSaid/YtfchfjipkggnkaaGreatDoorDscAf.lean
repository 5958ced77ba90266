/- Law 31: after. (printed by wip/gen_dscaf.py) -/
import Derived.Test.YtfchfjipkggnkaaGreatDoorDscAp
import Derived.Deep.DeepCutAuto
namespace Go.Proofs.YtfchfjipkggnkaaGreatDoor
open Go.RowKit
attribute [local go_sem ↓] Go.wp_at_zero Go.wp_at_succ

set_option linter.unusedSimpArgs false in
set_option maxRecDepth 100000 in
set_option maxHeartbeats 12800000 in
theorem after_any31 (a : Option Addr) (n c : Nat) (fo : Nat → OpD) (w : World) (hu : Usages w) (hn : n ≤ 9223372036854775807) (hl : OpSlD w a n fo) : Calls Tryz.prog 7 #[.slice a n c] w (AfPost w) := by
  have Hl := Lib.hid hl
  clear hl
  have HI0 : Hid (AfInv w ((w.alloc (.cells #[.pointer none] 97)).alloc (.cells Tryz.zeroCells45 45)) 0 w.heap.size modZ (fun _ => none)) := by
    have hb1 : Below w.heap.size w (w.alloc (.cells #[.pointer none] 97)) := (Below.refl _ _).alloc (Nat.le_refl _) _
    have hb2 : Below (w.alloc (.cells #[.pointer none] 97)).heap.size (w.alloc (.cells #[.pointer none] 97)) ((w.alloc (.cells #[.pointer none] 97)).alloc (.cells Tryz.zeroCells45 45)) := (Below.refl _ _).alloc (Nat.le_refl _) _
    have hb := hb1.trans (hb2.mono hb1.size)
    have hbn := baseN_empty w
    refine ⟨hb, ⟨?_, modZ_ok⟩, (hbn.later hb2).up hb2.size, relM_empty, modZ_tabs, hu.below hb hu.pos⟩
    have := new_row (w.alloc (.cells #[.pointer none] 97)) 45 (modC modZ)
    rw [World.size_alloc, ← zero_mod] at this
    exact this
  have Hup : Hid (0 < w.heap.size + 1) := Nat.succ_pos _
  clear hu
  go_enter Tryz.func7, Tryz.ntmps7
  go_wp2_with fail
  refine (stateNew_any _).mono ?_
  rintro e w1 ⟨rfl, rfl⟩
  go_upto_region 2 with fail
  obtain ⟨w1, hw1⟩ : ∃ w1, ((w.alloc (.cells #[.pointer none] 97)).alloc (.cells Tryz.zeroCells45 45)) = w1 := ⟨_, rfl⟩
  rw [hw1] at HI0 ⊢
  clear hw1
  go_wp2_with fail
  go_loopg [2, 4, 5] n (fun gk sv ov iv wr => ∃ (k sp : Nat) (m : ModD) (f : NameT → Option ByteArray), k + gk = n ∧ iv = .int .i64 k ∧ sv = .pointer (some ⟨sp, 0, none⟩) ∧ ov = .bool true ∧ k ≤ 30 ∧ Hid (AfInv w wr k sp m f))
  case atStart => exact ⟨0, _, modZ, fun _ => none, by omega, rfl, rfl, rfl, by omega, HI0.out⟩
  case round =>
    clear HI0
    obtain ⟨k, sp, m, f, hk, rfl, rfl, rfl, hk30, HI⟩ := hrel
    have Hk := Lib.hid hk
    have hkn : k ≤ n := by omega
    clear hk
    by_cases hlt : k < n ∧ k < 30
    · obtain ⟨hlt, hlt30⟩ := hlt
      obtain ⟨g, off, rfl, hc⟩ := Hl.out.later HI.out.low (by omega)
      obtain ⟨hop, hbd⟩ := hc k hlt
      clear hc
      generalize fo k = op at *
      obtain ⟨kd, who, tw, fd, nn, ⟨okd, omak, obn, onum, ooff, ord, owr, oap⟩⟩ := op
      have Hbd : Hid (kd ≤ 255 ∧ who ≤ 255 ∧ tw ≤ 255 ∧ (-9223372036854775808 ≤ nn ∧ nn ≤ 9223372036854775807) ∧ omak.size ≤ 9223372036854775807) := hbd
      obtain ⟨c0, c1, c2, c3, c4, c5, c6, c7, c8, c9, c10, c11, c12⟩ := hop
      dsimp only at c0 c1 c2 c3 c4 c5 c6 c7 c8 c9 c10 c11 c12
      clear hbd
      go_upto_region 6 with fail
      clear c0 c1 c2 c3 c4 c5 c6 c7 c8 c9 c10 c11 c12
      have hb0 : Below wr.heap.size wr (wr.alloc (.cells #[.int .u8 kd, .int .u8 who, .int .u8 tw, .int .i64 fd, .int .i64 nn, .int .i64 okd, .string omak, .int .i64 obn, .int .i64 onum, .int .i64 ooff, .bool ord, .bool owr, .bool oap] 49)) := (Below.refl _ _).alloc (Nat.le_refl _) _
      have HI1 := Lib.hid (HI.out.later hb0)
      have B1 : Hid (RowIs (wr.alloc (.cells #[.int .u8 kd, .int .u8 who, .int .u8 tw, .int .i64 fd, .int .i64 nn, .int .i64 okd, .string omak, .int .i64 obn, .int .i64 onum, .int .i64 ooff, .bool ord, .bool owr, .bool oap] 49)) wr.heap.size 49 [.int .u8 kd, .int .u8 who, .int .u8 tw, .int .i64 fd, .int .i64 nn, .int .i64 okd, .string omak, .int .i64 obn, .int .i64 onum, .int .i64 ooff, .bool ord, .bool owr, .bool oap]) := new_row wr 49 [.int .u8 kd, .int .u8 who, .int .u8 tw, .int .i64 fd, .int .i64 nn, .int .i64 okd, .string omak, .int .i64 obn, .int .i64 onum, .int .i64 ooff, .bool ord, .bool owr, .bool oap]
      have HR1 : Hid (w.heap.size + 1 < wr.heap.size) := HI.out.mod.1.lt
      clear hb0 HI
      obtain ⟨R, hR⟩ : ∃ R, wr.heap.size = R := ⟨_, rfl⟩
      obtain ⟨wa, hwa⟩ : ∃ wa, (wr.alloc (.cells #[.int .u8 kd, .int .u8 who, .int .u8 tw, .int .i64 fd, .int .i64 nn, .int .i64 okd, .string omak, .int .i64 obn, .int .i64 onum, .int .i64 ooff, .bool ord, .bool owr, .bool oap] 49)) = wa := ⟨_, rfl⟩
      rw [hR] at B1 HR1 ⊢
      rw [hwa] at HI1 B1 ⊢
      clear hwa hR
      have b5 := B1.out.cell (i := 5) rfl
      have b6 := B1.out.cell (i := 6) rfl
      have b7 := B1.out.cell (i := 7) rfl
      have b8 := B1.out.cell (i := 8) rfl
      have b9 := B1.out.cell (i := 9) rfl
      have b10 := B1.out.cell (i := 10) rfl
      have b11 := B1.out.cell (i := 11) rfl
      have b12 := B1.out.cell (i := 12) rfl
      go_wp2_with fail
      refine (cut31_any okd omak obn onum ooff ord owr oap _ Hbd.out.2.2.2.2).mono ?_
      obtain ⟨m2, hm2⟩ : ∃ m2, cutB omak 80 = m2 := ⟨_, rfl⟩
      rw [hm2]
      have Hm2 : Hid (m2.size ≤ 70368744177664) := by show _ ≤ _; rw [← hm2]; exact Nat.le_trans (cutB_size _ _) (by decide)
      clear hm2
      rintro r w2 ⟨rfl, hb⟩
      clear b5 b6 b7 b8 b9 b10 b11 b12
      have HI2 := Lib.hid (HI1.out.later hb)
      have B2 := Lib.hid (B1.out.later hb)
      clear hb HI1 B1
      have b5 := B2.out.cell (i := 5) rfl
      have b6 := B2.out.cell (i := 6) rfl
      have b7 := B2.out.cell (i := 7) rfl
      have b8 := B2.out.cell (i := 8) rfl
      have b9 := B2.out.cell (i := 9) rfl
      have b10 := B2.out.cell (i := 10) rfl
      have b11 := B2.out.cell (i := 11) rfl
      have b12 := B2.out.cell (i := 12) rfl
      have q5 := B2.out.free 5
      have q6 := B2.out.free 6
      have q7 := B2.out.free 7
      have q8 := B2.out.free 8
      have q9 := B2.out.free 9
      have q10 := B2.out.free 10
      have q11 := B2.out.free 11
      have q12 := B2.out.free 12
      have B3 : Hid (RowIs ((((((((w2.setCell ⟨R, 5, none⟩ (.int .i64 okd)).setCell ⟨R, 6, none⟩ (.string m2)).setCell ⟨R, 7, none⟩ (.int .i64 obn)).setCell ⟨R, 8, none⟩ (.int .i64 onum)).setCell ⟨R, 9, none⟩ (.int .i64 ooff)).setCell ⟨R, 10, none⟩ (.bool ord)).setCell ⟨R, 11, none⟩ (.bool owr)).setCell ⟨R, 12, none⟩ (.bool oap)) R 49 [.int .u8 kd, .int .u8 who, .int .u8 tw, .int .i64 fd, .int .i64 nn, .int .i64 okd, .string m2, .int .i64 obn, .int .i64 onum, .int .i64 ooff, .bool ord, .bool owr, .bool oap]) := (((((((B2.out.set 5 _).set 6 _).set 7 _).set 8 _).set 9 _).set 10 _).set 11 _).set 12 _
      have hg : w2.grownBy ((((((((w2.setCell ⟨R, 5, none⟩ (.int .i64 okd)).setCell ⟨R, 6, none⟩ (.string m2)).setCell ⟨R, 7, none⟩ (.int .i64 obn)).setCell ⟨R, 8, none⟩ (.int .i64 onum)).setCell ⟨R, 9, none⟩ (.int .i64 ooff)).setCell ⟨R, 10, none⟩ (.bool ord)).setCell ⟨R, 11, none⟩ (.bool owr)).setCell ⟨R, 12, none⟩ (.bool oap)) (some R) := grown_set8 _ _ _ _ _ _ _ _ _ _ _ _ _ _ _ _ _ _
      have HI3 : Hid (AfInv w ((((((((w2.setCell ⟨R, 5, none⟩ (.int .i64 okd)).setCell ⟨R, 6, none⟩ (.string m2)).setCell ⟨R, 7, none⟩ (.int .i64 obn)).setCell ⟨R, 8, none⟩ (.int .i64 onum)).setCell ⟨R, 9, none⟩ (.int .i64 ooff)).setCell ⟨R, 10, none⟩ (.bool ord)).setCell ⟨R, 11, none⟩ (.bool owr)).setCell ⟨R, 12, none⟩ (.bool oap)) k sp m f) := by
        have hR := HR1.out
        have hx := HI2.out.base
        have hbb : Below w.heap.size w ((((((((w2.setCell ⟨R, 5, none⟩ (.int .i64 okd)).setCell ⟨R, 6, none⟩ (.string m2)).setCell ⟨R, 7, none⟩ (.int .i64 obn)).setCell ⟨R, 8, none⟩ (.int .i64 onum)).setCell ⟨R, 9, none⟩ (.int .i64 ooff)).setCell ⟨R, 10, none⟩ (.bool ord)).setCell ⟨R, 11, none⟩ (.bool owr)).setCell ⟨R, 12, none⟩ (.bool oap)) := HI2.out.low.grown hg HI2.out.low.size (fun k hk => by cases hk; omega)
        exact ⟨hbb, HI2.out.mod.kept (hg.block _ HI2.out.mod.1.lt (by simp; omega)), (hx.box B2.out apart_O hg).up hg.size, HI2.out.rel, HI2.out.tabs, HI2.out.us.below (below_box (B := 1) hg (by omega) B2.out.lt) (by decide)⟩
      clear hg
      go_upto_region 7 with fail
      clear b5 b6 b7 b8 b9 b10 b11 b12 q5 q6 q7 q8 q9 q10 q11 q12
      obtain ⟨w3, hw3⟩ : ∃ w3, ((((((((w2.setCell ⟨R, 5, none⟩ (.int .i64 okd)).setCell ⟨R, 6, none⟩ (.string m2)).setCell ⟨R, 7, none⟩ (.int .i64 obn)).setCell ⟨R, 8, none⟩ (.int .i64 onum)).setCell ⟨R, 9, none⟩ (.int .i64 ooff)).setCell ⟨R, 10, none⟩ (.bool ord)).setCell ⟨R, 11, none⟩ (.bool owr)).setCell ⟨R, 12, none⟩ (.bool oap)) = w3 := ⟨_, rfl⟩
      rw [hw3] at B3 HI3 ⊢
      clear hw3 HI2 B2
      go_wp2_with fail
      refine (qmNew (w0 := w3) HI3.out.us (Below.refl _ _) HI3.out.base).mono ?_
      rintro r w4 ⟨rfl, s4, -⟩
      have S4 := Lib.hid s4
      have B4 := Lib.hid (B3.out.later s4.below)
      clear s4
      have b0 := B4.out.cell (i := 0) rfl
      have b1 := B4.out.cell (i := 1) rfl
      have b2 := B4.out.cell (i := 2) rfl
      have b3 := B4.out.cell (i := 3) rfl
      have b4 := B4.out.cell (i := 4) rfl
      have b5 := B4.out.cell (i := 5) rfl
      have b6 := B4.out.cell (i := 6) rfl
      have b7 := B4.out.cell (i := 7) rfl
      have b8 := B4.out.cell (i := 8) rfl
      have b9 := B4.out.cell (i := 9) rfl
      have b10 := B4.out.cell (i := 10) rfl
      have b11 := B4.out.cell (i := 11) rfl
      have b12 := B4.out.cell (i := 12) rfl
      have hsim := sim_any HI3.out.rel ⟨kd, who, tw, fd, nn, ⟨okd, m2, obn, onum, ooff, ord, owr, oap⟩⟩
      have hlen := pTree_len ⟨kd, who, tw, fd, nn, ⟨okd, m2, obn, onum, ooff, ord, owr, oap⟩⟩ ⟨f, [], []⟩
      have HP := Lib.hid (qdPerform S4.out kd who tw fd nn okd m2 obn onum ooff ord owr oap (by have := Hbd.out.1; omega) (by have := Hbd.out.2.1; omega) (by have := Hbd.out.2.2.1; omega) Hbd.out.2.2.2.1 Hm2.out (show (0 : Nat) < 1000000 by decide))
      have HTo := Lib.hid (tabsOk_do HI3.out.tabs HI3.out.mod.2 ⟨kd, who, tw, fd, nn, ⟨okd, m2, obn, onum, ooff, ord, owr, oap⟩⟩)
      have HMd : Hid (∀ W, ModAt W (w.heap.size + 1) m → Calls Tryz.prog 21 #[.pointer (some ⟨w.heap.size + 1, 0, none⟩), .agg #[.int .u8 kd, .int .u8 who, .int .u8 tw, .int .i64 fd, .int .i64 nn, .int .i64 okd, .string m2, .int .i64 obn, .int .i64 onum, .int .i64 ooff, .bool ord, .bool owr, .bool oap]] W (DoPost W (w.heap.size + 1) (mdo m ⟨kd, who, tw, fd, nn, ⟨okd, m2, obn, onum, ooff, ord, owr, oap⟩⟩))) := fun W hW => mdo_any kd who tw fd nn okd m2 obn onum ooff ord owr oap (w.heap.size + 1) m W hW (by have := Hbd.out.1; omega) (by have := Hbd.out.2.1; omega) (by have := Hbd.out.2.2.1; omega) Hbd.out.2.2.2.1 Hm2.out HI3.out.tabs
      obtain ⟨⟨V1, rr⟩, hpt⟩ : ∃ p, (pTree ⟨kd, who, tw, fd, nn, ⟨okd, m2, obn, onum, ooff, ord, owr, oap⟩⟩).run ⟨f, [], []⟩ = p := ⟨_, rfl⟩
      obtain ⟨⟨m1, r2, ch⟩, hmd⟩ : ∃ p, mdo m ⟨kd, who, tw, fd, nn, ⟨okd, m2, obn, onum, ooff, ord, owr, oap⟩⟩ = p := ⟨_, rfl⟩
      rw [hpt] at hsim hlen HP
      rw [hmd] at hsim HMd HTo
      obtain ⟨he, hrel, hbase, hcalls⟩ := hsim
      dsimp only at he hrel hbase hcalls hlen
      subst he
      have Hrel := Lib.hid hrel
      have Hlen := Lib.hid hlen
      have Hcl : Hid ((ch = false ∧ V1.calls = []) ∨ (ch = true ∧ ∃ c, V1.calls = [c])) := by have := hcalls; simp only [List.nil_append] at this; exact this
      clear hpt hmd hrel hbase hcalls hlen
      go_wp2_with fail
      refine HP.out.mono ?_
      rintro r w5 ⟨rfl, s5, -⟩
      have S5 := Lib.hid s5
      have B5 := Lib.hid (B3.out.later s5.below)
      clear s5 HP S4 B4
      clear b0 b1 b2 b3 b4 b5 b6 b7 b8 b9 b10 b11 b12
      have hst := new_store_res w5 Hlen.out
      have hsz : (resC rr).toArray.size = 138 := by rw [List.size_toArray, resC_len Hlen.out]
      unfold resDV
      go_upto_region 9 with fail
      clear hst hsz
      have hb6 : Below w5.heap.size w5 (w5.alloc (.cells (resC rr).toArray 52)) := (Below.refl _ _).alloc (Nat.le_refl _) _
      have S6 := Lib.hid (S5.out.later hb6)
      have B6 := Lib.hid (B5.out.later hb6)
      have P6 := Lib.hid (new_res_of w5 Hlen.out)
      have M6 := Lib.hid (HI3.out.mod.later (S6.out.below))
      have HP6 : Hid (w.heap.size + 1 < w5.heap.size ∧ R < w5.heap.size) := ⟨(HI3.out.mod.later S5.out.below).1.lt, B5.out.lt⟩
      clear hb6 S5 B5
      obtain ⟨P, hP⟩ : ∃ P, w5.heap.size = P := ⟨_, rfl⟩
      obtain ⟨w6, hw6⟩ : ∃ w6, (w5.alloc (.cells (resC rr).toArray 52)) = w6 := ⟨_, rfl⟩
      rw [hP] at P6 HP6 ⊢
      rw [hw6] at S6 B6 P6 M6 ⊢
      clear hw6 hP
      have b0 := B6.out.cell (i := 0) rfl
      have b1 := B6.out.cell (i := 1) rfl
      have b2 := B6.out.cell (i := 2) rfl
      have b3 := B6.out.cell (i := 3) rfl
      have b4 := B6.out.cell (i := 4) rfl
      have b5 := B6.out.cell (i := 5) rfl
      have b6 := B6.out.cell (i := 6) rfl
      have b7 := B6.out.cell (i := 7) rfl
      have b8 := B6.out.cell (i := 8) rfl
      have b9 := B6.out.cell (i := 9) rfl
      have b10 := B6.out.cell (i := 10) rfl
      have b11 := B6.out.cell (i := 11) rfl
      have b12 := B6.out.cell (i := 12) rfl
      go_wp2_with fail
      refine (HMd.out _ M6.out).mono ?_
      rintro r w7 ⟨rfl, hM7, hK7⟩
      clear b0 b1 b2 b3 b4 b5 b6 b7 b8 b9 b10 b11 b12
      have hg7 := kept_grown hK7
      have S7 := Lib.hid ((S6.out.from HI3.out.low).box M6.out.1 apart_M Hup.out (by omega) hg7)
      have P7 := Lib.hid (P6.out.kept (hg7.block _ P6.out.1.lt (by have := HP6.out.1; simp; omega)))
      have M7 := Lib.hid hM7
      clear hg7 hM7 hK7 S6 B6 P6 M6 HMd
      have hst := new_store_res w7 Hlen.out
      have hsz : (resC rr).toArray.size = 138 := by rw [List.size_toArray, resC_len Hlen.out]
      unfold resDV
      go_upto_region 10 with fail
      clear hst hsz
      have hb8 : Below w7.heap.size w7 (w7.alloc (.cells (resC rr).toArray 52)) := (Below.refl _ _).alloc (Nat.le_refl _) _
      have S8 := Lib.hid (S7.out.later hb8)
      have P8 := Lib.hid (P7.out.later hb8)
      have M8 := Lib.hid (M7.out.later hb8)
      have N8 := Lib.hid (new_res_of w7 Hlen.out)
      clear hb8 S7 P7 M7
      obtain ⟨N1, hN1⟩ : ∃ P, w7.heap.size = P := ⟨_, rfl⟩
      obtain ⟨w8, hw8⟩ : ∃ w8, (w7.alloc (.cells (resC rr).toArray 52)) = w8 := ⟨_, rfl⟩
      rw [hN1] at N8 ⊢
      rw [hw8] at S8 P8 M8 N8 ⊢
      clear hw8 hN1
      have Hcn : Hid (V1.calls.length ≤ 1) := by
        show V1.calls.length ≤ 1
        rcases Hcl.out with ⟨-, e⟩ | ⟨-, c, e⟩
        · rw [e]; simp
        · rw [e]; simp
      go_wp2_with fail
      refine (qmAfter S8.out (by have := Hcn.out; omega)).mono ?_
      rintro r w9 ⟨sp', rfl, hb9, hbn⟩
      have S9 := Lib.hid (S8.out.later hb9)
      have P9 := Lib.hid (P8.out.later hb9)
      have N9 := Lib.hid (N8.out.later hb9)
      have HI9 : Hid (AfInv w w9 (k + 1) sp' m1 (stOf V1)) := ⟨S9.out.below, M8.out.later hb9, hbn.more (by have := Hcn.out; omega), Hrel.out.after, HTo.out, S9.out.usages⟩
      clear hb9 hbn S8 P8 M8 N8 Hrel HTo HI3 B3
      have heq : ∀ W : World, (binOp .eql 52 (.agg (resC rr).toArray) (.agg (resC rr).toArray)).run Tryz.prog W = .ok (.bool true) W := fun W => run_eql_res W Hlen.out
      go_wp2
      refine wp_load_res _ (by rfl) P (by rfl) P9.out ?_
      unfold resDV
      go_wp2
      refine wp_load_res _ (by rfl) N1 (by rfl) N9.out ?_
      unfold resDV
      go_wp2_with fail
      refine (qmWrites S9.out).mono ?_
      rintro r w10 ⟨v, cs, rfl, hrow, hperm, -, hb10, -⟩
      obtain ⟨aa, cap, rfl⟩ := row_slice hrow
      have hwl := (writes_len Hcl.out hperm).1
      have Hwn : Hid (decide (0 < cs.length) = ch) := by show _ = _; rw [← hwl]; simp
      have HI10 := Lib.hid (HI9.out.later hb10)
      clear hrow hperm hb10 S9 P9 N9 HI9 heq Hcl
      go_wp2
      go_roundg (n - (k + 1))
      case measure => have := Hk.out; omega
      case rel => exact ⟨k + 1, sp', m1, _, by have := Hk.out; omega, by go_num, rfl, by first | rfl | (simp; exact Hwn.out), by omega, HI10.out⟩
    · have hways : ¬ k < n ∨ (k < n ∧ ¬ k < 30) := by omega
      clear hlt
      have HF : Hid (AfPost w (.returned (.tuple #[.pointer (some ⟨sp, 0, none⟩), .pointer (some ⟨w.heap.size + 1, 0, none⟩), .bool true])) wr) := ⟨sp, m, f, rfl, HI.out.more hk30⟩
      rcases hways with h5 | ⟨h5, h5'⟩
      all_goals
        go_wp2
        refine bodyPost_ret (v := .tuple #[.pointer (some ⟨sp, 0, none⟩), .pointer (some ⟨w.heap.size + 1, 0, none⟩), .bool true]) (by simp [results, Tryz.results7, go_sem]) rfl ?_
        exact HF.out
end Go.Proofs.YtfchfjipkggnkaaGreatDoor
